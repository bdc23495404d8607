/- Engine, part M: values that are alike but for where own blocks lie, and that every expression keeps them alike. -/
import Derived.Test.YtmpgfgemnhbkhaaGreatDoorBase
set_option linter.unusedSimpArgs false
set_option linter.unusedVariables false
namespace Go.Eng

/-- Alike but for own blocks' places: the left one's blocks lie below M. -/
inductive VR (M : Nat) (σ : Nat → Nat) : Value → Value → Prop
  | bool (b : Bool) : VR M σ (.bool b) (.bool b)
  | int (k : IntKind) (n : Int) : VR M σ (.int k n) (.int k n)
  | float (k : FloatKind) (n : Nat) : VR M σ (.float k n) (.float k n)
  | complex (k : FloatKind) (n m : Nat) : VR M σ (.complex k n m) (.complex k n m)
  | string (s : ByteArray) : VR M σ (.string s) (.string s)
  | pnil : VR M σ (.pointer none) (.pointer none)
  | ptr (b o : Nat) (s : Option Nat) : b < M → VR M σ (.pointer (some ⟨b, o, s⟩)) (.pointer (some ⟨σ b, o, s⟩))
  | snil (n c : Nat) : VR M σ (.slice none n c) (.slice none n c)
  | slice (b o : Nat) (s : Option Nat) (n c : Nat) : b < M → VR M σ (.slice (some ⟨b, o, s⟩) n c) (.slice (some ⟨σ b, o, s⟩) n c)
  | mnil : VR M σ (.map none) (.map none)
  | map (b : Nat) : b < M → VR M σ (.map (some b)) (.map (some (σ b)))
  | cnil : VR M σ (.chan none) (.chan none)
  | chan (b : Nat) : b < M → VR M σ (.chan (some b)) (.chan (some (σ b)))
  | nilFunc : VR M σ .nilFunc .nilFunc
  | func (f : Fn) (xs ys xs' ys' : Array Value) : xs.size = xs'.size → (∀ (i : Nat) u v, xs[i]? = some u → xs'[i]? = some v → VR M σ u v) → ys.size = ys'.size → (∀ (i : Nat) u v, ys[i]? = some u → ys'[i]? = some v → VR M σ u v) → VR M σ (.func f xs ys) (.func f xs' ys')
  | nilIface : VR M σ .nilIface .nilIface
  | iface (t : TypeId) (u v : Value) : VR M σ u v → VR M σ (.iface t u) (.iface t v)
  | agg (xs ys : Array Value) : xs.size = ys.size → (∀ (i : Nat) u v, xs[i]? = some u → ys[i]? = some v → VR M σ u v) → VR M σ (.agg xs) (.agg ys)
  | tuple (xs ys : Array Value) : xs.size = ys.size → (∀ (i : Nat) u v, xs[i]? = some u → ys[i]? = some v → VR M σ u v) → VR M σ (.tuple xs) (.tuple ys)

def VRs (M : Nat) (σ : Nat → Nat) (xs ys : Array Value) : Prop := xs.size = ys.size ∧ ∀ (i : Nat) u v, xs[i]? = some u → ys[i]? = some v → VR M σ u v

theorem arr_ext {xs ys : Array Value} (h : xs.size = ys.size) (hv : ∀ (i : Nat) u v, xs[i]? = some u → ys[i]? = some v → u = v) : xs = ys := by
  apply Array.ext h
  intro i h1 h2
  exact hv i _ _ (Array.getElem?_eq_getElem h1) (Array.getElem?_eq_getElem h2)

theorem VR.uniq {M : Nat} {σ : Nat → Nat} {u v v' : Value} (h : VR M σ u v) (h' : VR M σ u v') : v = v' := by
  induction h generalizing v' with
  | func f xs ys xs' ys' h1 _ h3 _ ih1 ih2 =>
    cases h' with
    | func _ _ _ xs2 ys2 g1 g2 g3 g4 =>
      congr 1
      · apply arr_ext (by omega)
        intro i a b ha hb
        have hi : i < xs.size := by
          have := (Array.getElem?_eq_some_iff.1 ha).1; omega
        exact ih1 i _ _ (Array.getElem?_eq_getElem hi) ha (g2 i _ _ (Array.getElem?_eq_getElem hi) hb)
      · apply arr_ext (by omega)
        intro i a b ha hb
        have hi : i < ys.size := by
          have := (Array.getElem?_eq_some_iff.1 ha).1; omega
        exact ih2 i _ _ (Array.getElem?_eq_getElem hi) ha (g4 i _ _ (Array.getElem?_eq_getElem hi) hb)
  | iface t u w _ ih => cases h' with | iface _ _ w' g => rw [ih g]
  | agg xs ys h1 _ ih =>
    cases h' with
    | agg _ zs g1 g2 =>
      congr 1
      apply arr_ext (by omega)
      intro i a b ha hb
      have hi : i < xs.size := by
        have := (Array.getElem?_eq_some_iff.1 ha).1; omega
      exact ih i _ _ (Array.getElem?_eq_getElem hi) ha (g2 i _ _ (Array.getElem?_eq_getElem hi) hb)
  | tuple xs ys h1 _ ih =>
    cases h' with
    | tuple _ zs g1 g2 =>
      congr 1
      apply arr_ext (by omega)
      intro i a b ha hb
      have hi : i < xs.size := by
        have := (Array.getElem?_eq_some_iff.1 ha).1; omega
      exact ih i _ _ (Array.getElem?_eq_getElem hi) ha (g2 i _ _ (Array.getElem?_eq_getElem hi) hb)
  | _ => cases h' <;> rfl

theorem VR.mono {M M' : Nat} {σ σ' : Nat → Nat} {u v : Value} (hM : M ≤ M') (hσ : ∀ b, b < M → σ' b = σ b) (h : VR M σ u v) : VR M' σ' u v := by
  induction h with
  | ptr b o s hb => rw [← hσ b hb]; exact .ptr b o s (by omega)
  | slice b o s n c hb => rw [← hσ b hb]; exact .slice b o s n c (by omega)
  | map b hb => rw [← hσ b hb]; exact .map b (by omega)
  | chan b hb => rw [← hσ b hb]; exact .chan b (by omega)
  | func f xs ys xs' ys' h1 _ h3 _ ih1 ih2 => exact .func _ _ _ _ _ h1 ih1 h3 ih2
  | iface t u w _ ih => exact .iface _ _ _ ih
  | agg xs ys h1 _ ih => exact .agg _ _ h1 ih
  | tuple xs ys h1 _ ih => exact .tuple _ _ h1 ih
  | _ => constructor
theorem VRs.mono {M M' : Nat} {σ σ' : Nat → Nat} {xs ys : Array Value} (hM : M ≤ M') (hσ : ∀ b, b < M → σ' b = σ b) (h : VRs M σ xs ys) : VRs M' σ' xs ys := ⟨h.1, fun i u v h1 h2 => (h.2 i u v h1 h2).mono hM hσ⟩

/-- What points nowhere beyond. -/
def Ext (n : Nat) (v : Value) : Prop := VR n id v v
theorem Ext.vr {n M : Nat} {σ : Nat → Nat} {v : Value} (h : Ext n v) (hM : n ≤ M) (hσ : ∀ b, b < n → σ b = b) : VR M σ v v := VR.mono hM (fun b hb => hσ b hb) h
theorem Ext.mono {n m : Nat} {v : Value} (h : Ext n v) (hm : n ≤ m) : Ext m v := h.vr hm fun _ _ => rfl

theorem ext_list {l : List Value} (h : ∀ x ∈ l, ∃ n, Ext n x) : ∃ n, ∀ x ∈ l, Ext n x := by
  induction l with
  | nil => exact ⟨0, fun x hx => by cases hx⟩
  | cons a r ih =>
    obtain ⟨n, hn⟩ := h a List.mem_cons_self
    obtain ⟨m, hm⟩ := ih fun x hx => h x (List.mem_cons_of_mem _ hx)
    refine ⟨max n m, fun x hx => ?_⟩
    rcases List.mem_cons.1 hx with rfl | hx
    · exact hn.mono (Nat.le_max_left _ _)
    · exact (hm x hx).mono (Nat.le_max_right _ _)
theorem ext_pt {n : Nat} {xs : Array Value} (h : ∀ x ∈ xs.toList, Ext n x) : ∀ (i : Nat) u v, xs[i]? = some u → xs[i]? = some v → VR n id u v := by
  intro i u v hu hv
  rw [hu] at hv
  obtain rfl := Option.some.inj hv
  exact h u (Array.mem_toList_iff.2 (Array.mem_of_getElem? hu))
theorem ext_ex (v : Value) : ∃ n, Ext n v := by
  refine Value.rec (motive_1 := fun v => ∃ n, Ext n v) (motive_2 := fun a => ∃ n, ∀ x ∈ a.toList, Ext n x) (motive_3 := fun l => ∃ n, ∀ x ∈ l, Ext n x)
    (fun b => ⟨0, .bool b⟩) (fun k n => ⟨0, .int k n⟩) (fun k n => ⟨0, .float k n⟩) (fun k n m => ⟨0, .complex k n m⟩) (fun s => ⟨0, .string s⟩) ?_ ?_ ?_ ?_ ?_ ⟨0, .nilFunc⟩ ?_ ⟨0, .nilIface⟩ ?_ ?_ ?_ ⟨0, fun x hx => by cases hx⟩ ?_ v
  · intro p
    rcases p with _ | ⟨b, o, s⟩
    · exact ⟨0, .pnil⟩
    · exact ⟨b + 1, .ptr b o s (by omega)⟩
  · intro p n c
    rcases p with _ | ⟨b, o, s⟩
    · exact ⟨0, .snil n c⟩
    · exact ⟨b + 1, .slice b o s n c (by omega)⟩
  · intro p
    rcases p with _ | b
    · exact ⟨0, .mnil⟩
    · exact ⟨b + 1, .map b (by omega)⟩
  · intro p
    rcases p with _ | b
    · exact ⟨0, .cnil⟩
    · exact ⟨b + 1, .chan b (by omega)⟩
  · rintro f xs ys ⟨n, hn⟩ ⟨m, hm⟩
    exact ⟨max n m, .func f xs ys xs ys rfl (ext_pt fun x hx => (hn x hx).mono (Nat.le_max_left _ _)) rfl (ext_pt fun x hx => (hm x hx).mono (Nat.le_max_right _ _))⟩
  · rintro t u ⟨n, hn⟩
    exact ⟨n, .iface t u u hn⟩
  · rintro xs ⟨n, hn⟩
    exact ⟨n, .agg xs xs rfl (ext_pt hn)⟩
  · rintro xs ⟨n, hn⟩
    exact ⟨n, .tuple xs xs rfl (ext_pt hn)⟩
  · rintro l ⟨n, hn⟩
    exact ⟨n, hn⟩
  · rintro a r ⟨n, hn⟩ ⟨m, hm⟩
    refine ⟨max n m, fun x hx => ?_⟩
    rcases List.mem_cons.1 hx with rfl | hx
    · exact hn.mono (Nat.le_max_left _ _)
    · exact (hm x hx).mono (Nat.le_max_right _ _)

section
variable {M : Nat} {σ : Nat → Nat}

theorem VRs.at {xs ys : Array Value} (h : VRs M σ xs ys) {i : Nat} {u : Value} (hu : xs[i]? = some u) : ∃ v, ys[i]? = some v ∧ VR M σ u v := by
  have hi : i < ys.size := by
    have := (Array.getElem?_eq_some_iff.1 hu).1
    have := h.1; omega
  exact ⟨_, Array.getElem?_eq_getElem hi, h.2 i _ _ hu (Array.getElem?_eq_getElem hi)⟩
theorem VRs.extract {xs ys : Array Value} (h : VRs M σ xs ys) (a b : Nat) : VRs M σ (xs.extract a b) (ys.extract a b) := by
  refine ⟨by simp [h.1], fun i u v hu hv => ?_⟩
  rw [Array.getElem?_extract] at hu hv
  split at hu
  · split at hv
    · exact h.2 _ _ _ hu hv
    · cases hv
  · cases hu
theorem VRs.push {xs ys : Array Value} (h : VRs M σ xs ys) {u v : Value} (hv : VR M σ u v) : VRs M σ (xs.push u) (ys.push v) := by
  refine ⟨by simp [h.1], fun i a b ha hb => ?_⟩
  rw [Array.getElem?_push] at ha hb
  by_cases hi : i = xs.size
  · rw [if_pos hi] at ha
    rw [if_pos (by rw [hi, h.1])] at hb
    obtain rfl := Option.some.inj ha
    obtain rfl := Option.some.inj hb
    exact hv
  · rw [if_neg hi] at ha
    rw [if_neg (by rw [← h.1]; exact hi)] at hb
    exact h.2 _ _ _ ha hb
theorem VRs.one {u v : Value} (h : VR M σ u v) : VRs M σ #[u] #[v] := by
  refine ⟨rfl, fun i a b ha hb => ?_⟩
  cases i with
  | zero => simp at ha hb; subst ha; subst hb; exact h
  | succ i => simp at ha
theorem VR.cells {u v : Value} (h : VR M σ u v) : VRs M σ u.cells v.cells := by
  cases h with
  | agg xs ys h1 h2 => exact ⟨h1, h2⟩
  | _ => exact VRs.one (by constructor <;> assumption)
theorem VR.oneCell {u v : Value} (h : VR M σ u v) : v.oneCell' = u.oneCell' := by cases h <;> rfl
theorem VRs.oneCells {xs ys : Array Value} (h : VRs M σ xs ys) (h1 : xs.all (·.oneCell') = true) : ys.all (·.oneCell') = true := by
  rw [Array.all_eq_true] at h1 ⊢
  intro i hi
  have hi' : i < xs.size := by have := h.1; omega
  have := (h.2 i _ _ (Array.getElem?_eq_getElem hi') (Array.getElem?_eq_getElem hi)).oneCell
  rw [this]
  exact h1 i hi'
theorem VRs.set_row {xs ys us vs : Array Value} (h : VRs M σ xs ys) (hv : VRs M σ us vs) (off : Nat) : VRs M σ (setRow xs off us.toList) (setRow ys off vs.toList) := by
  refine ⟨by rw [setRow_size, setRow_size]; exact h.1, fun i a b ha hb => ?_⟩
  rw [setRow_eq] at ha hb
  simp only [Array.length_toList, Array.getElem?_toList] at ha hb
  have e1 := h.1
  have e2 := hv.1
  by_cases hi : off ≤ i ∧ i < off + us.size ∧ i < xs.size
  · rw [if_pos hi] at ha
    rw [if_pos (by omega)] at hb
    exact hv.2 _ _ _ ha hb
  · rw [if_neg hi] at ha
    rw [if_neg (by omega)] at hb
    exact h.2 _ _ _ ha hb
theorem VRs.bytes_in {xs ys : Array Value} (h : VRs M σ xs ys) {l : List UInt8} (hl : bytesIn xs.toList = some l) : Go.Eng.bytesIn ys.toList = some l := by
  obtain ⟨xs⟩ := xs
  obtain ⟨ys⟩ := ys
  obtain ⟨h1, h2⟩ := h
  simp only [List.size_toArray, List.getElem?_toArray] at h1 h2 hl ⊢
  induction xs generalizing ys l with
  | nil =>
    cases ys with
    | nil => exact hl
    | cons b r => simp at h1
  | cons a r ih =>
    cases ys with
    | nil => simp at h1
    | cons b s =>
      have h0 := h2 0 a b rfl rfl
      cases h0 with
      | int k n =>
        cases k <;> first | (simp only [Go.Eng.bytesIn] at hl; cases hl; done) | skip
        simp only [Go.Eng.bytesIn, Option.map_eq_some_iff] at hl ⊢
        obtain ⟨l', hl', rfl⟩ := hl
        exact ⟨l', ih hl' s (by simpa using h1) (fun i u v hu hv => h2 (i + 1) u v (by simpa using hu) (by simpa using hv)), rfl⟩
      | _ => simp only [Go.Eng.bytesIn] at hl; cases hl

theorem partV_vr {sz : Option Nat} {off : Nat} {xs ys : Array Value} (h : VRs M σ xs ys) {r : Value} (hr : partV sz off xs = some r) : ∃ r', partV sz off ys = some r' ∧ VR M σ r r' := by
  cases sz with
  | none => exact h.at hr
  | some n =>
    simp only [partV, Option.some.injEq] at hr ⊢
    subst hr
    exact ⟨_, rfl, .agg _ _ (h.extract _ _).1 (h.extract _ _).2⟩

theorem u1_vr {o : U1} {u u' r : Value} (h : VR M σ u u') (hr : o.ap u = some r) : ∃ r', o.ap u' = some r' ∧ VR M σ r r' := by
  cases o with
  | isnil k ne => cases h <;> simp only [U1.ap, nilV] at hr ⊢ <;> first | (split at hr <;> first | (simp only [Option.some.injEq] at hr; subst hr; simp_all; constructor) | cases hr) | (simp only [Option.some.injEq] at hr; subst hr; exact ⟨_, rfl, .bool _⟩) | cases hr
  | un op =>
    cases h <;> simp only [U1.ap, unV] at hr ⊢ <;> try (cases hr; done)
    all_goals (split at hr <;> first | (simp only [Option.some.injEq] at hr; subst hr; first | exact ⟨_, rfl, .int _ _⟩ | exact ⟨_, rfl, .bool _⟩) | cases hr)
  | conv k => cases h <;> simp only [U1.ap, convV] at hr ⊢ <;> first | (simp only [Option.some.injEq] at hr; subst hr; exact ⟨_, rfl, .int _ _⟩) | cases hr
  | cstr => cases h <;> simp only [U1.ap, cstrV] at hr ⊢ <;> first | (simp only [Option.some.injEq] at hr; subst hr; exact ⟨_, rfl, .string _⟩) | cases hr
  | proj i =>
    cases h with
    | tuple xs ys h1 h2 => exact VRs.at ⟨h1, h2⟩ hr
    | _ => cases hr
  | part sz off =>
    cases h with
    | agg xs ys h1 h2 => exact partV_vr ⟨h1, h2⟩ hr
    | _ => cases hr
  | offp k =>
    cases h with
    | ptr b o s hb =>
      cases s with
      | none => simp only [U1.ap, offpV, Option.some.injEq] at hr ⊢; subst hr; exact ⟨_, rfl, .ptr _ _ _ hb⟩
      | some s => cases hr
    | _ => cases hr
  | nn =>
    cases h with
    | ptr b o s hb => simp only [U1.ap, nnV, Option.some.injEq] at hr ⊢; subst hr; exact ⟨_, rfl, .ptr _ _ _ hb⟩
    | func f xs ys xs' ys' h1 h2 h3 h4 =>
      cases f with
      | func g => simp only [U1.ap, nnV, Option.some.injEq] at hr ⊢; subst hr; exact ⟨_, rfl, .func _ _ _ _ _ h1 h2 h3 h4⟩
      | _ => cases hr
    | _ => cases hr
  | len str => cases str <;> cases h <;> simp [U1.ap, lenV] at hr ⊢ <;> (subst hr; constructor)
  | mkif t => simp only [U1.ap, Option.some.injEq] at hr ⊢; subst hr; exact ⟨_, rfl, .iface _ _ _ h⟩

theorem vr_int_r {k : IntKind} {n : Int} {v : Value} (h : VR M σ (.int k n) v) : v = .int k n := by cases h; rfl
theorem vr_string_r {s : ByteArray} {v : Value} (h : VR M σ (.string s) v) : v = .string s := by cases h; rfl
theorem vr_bool_r {b : Bool} {v : Value} (h : VR M σ (.bool b) v) : v = .bool b := by cases h; rfl

theorem intBin_vr {op : BinOp} {k k' : IntKind} {a b : Int} {r : Value} (hr : intBin op k a k' b = some r) : VR M σ r r := by
  cases op <;> simp only [intBin] at hr <;> first | (split at hr <;> first | (cases hr; done) | (simp only [Option.some.injEq] at hr; subst hr; constructor)) | (simp only [Option.some.injEq] at hr; subst hr; constructor)
theorem strBin_vr {op : BinOp} {a b : ByteArray} {r : Value} (hr : strBin op a b = some r) : VR M σ r r := by
  cases op <;> simp only [strBin] at hr <;> first | (split at hr <;> first | (cases hr; done) | (simp only [Option.some.injEq] at hr; subst hr; constructor)) | (simp only [Option.some.injEq] at hr; subst hr; constructor) | (cases hr; done)

theorem u2_vr {o : U2} {u u' v v' r : Value} (h : VR M σ u u') (g : VR M σ v v') (hr : o.ap u v = some r) : ∃ r', o.ap u' v' = some r' ∧ VR M σ r r' := by
  cases o with
  | bin op =>
    cases h with
    | int k n =>
      cases g with
      | int k' n' => exact ⟨r, hr, intBin_vr hr⟩
      | _ => cases hr
    | string s =>
      cases g with
      | string s' => exact ⟨r, hr, strBin_vr hr⟩
      | _ => cases hr
    | _ => cases hr
  | idxAgg sz esz n =>
    cases h with
    | agg xs ys h1 h2 =>
      cases g with
      | int k i =>
        simp only [U2.ap, idxAggV] at hr ⊢
        split at hr
        · rename_i hi; rw [if_pos hi]; exact partV_vr ⟨h1, h2⟩ hr
        · cases hr
      | _ => cases hr
    | _ => cases hr
  | idxStr =>
    cases h with
    | string s =>
      cases g with
      | int k i =>
        refine ⟨r, hr, ?_⟩
        simp only [U2.ap, idxStrV] at hr
        split at hr
        · simp only [Option.map_eq_some_iff] at hr
          obtain ⟨b, _, rfl⟩ := hr
          constructor
        · cases hr
      | _ => cases hr
    | _ => cases hr
  | ixArr n esz =>
    cases h with
    | ptr b o s hb =>
      cases s with
      | some s => cases g <;> cases hr
      | none =>
        cases g with
        | int k i =>
          simp only [U2.ap, ixArrV] at hr ⊢
          split at hr
          · rename_i hi; rw [if_pos hi]; simp only [Option.some.injEq] at hr; subst hr; exact ⟨_, rfl, .ptr _ _ _ hb⟩
          · cases hr
        | _ => cases hr
    | _ => cases hr
  | ixSl esz =>
    cases h with
    | slice b o s n c hb =>
      cases s with
      | some s => cases g <;> cases hr
      | none =>
        cases g with
        | int k i =>
          simp only [U2.ap, ixSlV] at hr ⊢
          split at hr
          · rename_i hi; rw [if_pos hi]; simp only [Option.some.injEq] at hr; subst hr; exact ⟨_, rfl, .ptr _ _ _ hb⟩
          · cases hr
        | _ => cases hr
    | _ => cases hr
  | upd off sz =>
    cases h with
    | agg xs ys h1 h2 =>
      have gc := g.cells
      simp only [U2.ap, updV] at hr ⊢
      split at hr
      · rename_i hi
        rw [if_pos (by rw [← gc.1, ← h1]; exact hi)]
        simp only [Option.some.injEq] at hr
        subst hr
        have := VRs.set_row ⟨h1, h2⟩ gc off
        exact ⟨_, rfl, .agg _ _ this.1 this.2⟩
      · cases hr
    | _ => cases hr
  | fst1 =>
    cases h with
    | func f xs ys xs' ys' h1 h2 h3 h4 =>
      simp only [U2.ap, fst1V, Option.some.injEq] at hr ⊢
      subst hr
      have := VRs.push ⟨h1, h2⟩ g
      exact ⟨_, rfl, .func _ _ _ _ _ this.1 this.2 h3 h4⟩
    | _ => cases hr
  | cap1 =>
    cases h with
    | func f xs ys xs' ys' h1 h2 h3 h4 =>
      simp only [U2.ap, cap1V, Option.some.injEq] at hr ⊢
      subst hr
      have := VRs.push ⟨h3, h4⟩ g
      exact ⟨_, rfl, .func _ _ _ _ _ h1 h2 this.1 this.2⟩
    | _ => cases hr
  | mn =>
    cases h with
    | int k n =>
      cases g with
      | int k' n' => exact ⟨r, hr, by simp only [U2.ap, mnV, Option.some.injEq] at hr; subst hr; constructor⟩
      | _ => cases hr
    | _ => cases hr
  | mx =>
    cases h with
    | int k n =>
      cases g with
      | int k' n' => exact ⟨r, hr, by simp only [U2.ap, mxV, Option.some.injEq] at hr; subst hr; constructor⟩
      | _ => cases hr
    | _ => cases hr

theorem u3_vr {o : U3} {u u' v v' z z' r : Value} (h : VR M σ u u') (g : VR M σ v v') (f : VR M σ z z') (hr : o.ap u v z = some r) : ∃ r', o.ap u' v' z' = some r' ∧ VR M σ r r' := by
  cases o with
  | slArr n esz =>
    cases h with
    | ptr b o s hb =>
      cases s with
      | some s => cases g <;> cases f <;> cases hr
      | none =>
        cases g with
        | int k i =>
          cases f with
          | int k' j =>
            simp only [U3.ap, slArrV] at hr ⊢
            split at hr
            · rename_i hi
              rw [if_pos hi]
              simp only [Option.some.injEq] at hr
              subst hr
              refine ⟨_, rfl, ?_⟩
              split <;> exact .slice _ _ _ _ _ hb
            · cases hr
          | _ => cases hr
        | _ => cases hr
    | _ => cases hr
  | slSl esz =>
    cases h with
    | slice b o s n c hb =>
      cases g with
      | int k i =>
        cases f with
        | int k' j =>
          simp only [U3.ap, slSlV] at hr ⊢
          split at hr
          · rename_i hi
            rw [if_pos hi]
            simp only [Option.some.injEq] at hr
            subst hr
            refine ⟨_, rfl, ?_⟩
            split
            · exact .slice _ _ _ _ _ hb
            · have e : ∀ (b : Nat), (⟨b, o, s⟩ : Addr).add (i.toNat * esz) = ⟨b, ((⟨0, o, s⟩ : Addr).add (i.toNat * esz)).off, ((⟨0, o, s⟩ : Addr).add (i.toNat * esz)).spot⟩ := fun b => by unfold Addr.add; split <;> rfl
              rw [e b, e (σ b)]
              exact .slice _ _ _ _ _ hb
          · cases hr
        | _ => cases hr
      | _ => cases hr
    | snil n c =>
      cases g with
      | int k i =>
        cases f with
        | int k' j =>
          simp only [U3.ap, slSlV] at hr ⊢
          split at hr
          · rename_i hi
            rw [if_pos hi]
            simp only [Option.some.injEq] at hr
            subst hr
            exact ⟨_, rfl, .snil _ _⟩
          · cases hr
        | _ => cases hr
      | _ => cases hr
    | _ => cases hr
  | slStr =>
    cases h with
    | string s =>
      cases g with
      | int k i =>
        cases f with
        | int k' j =>
          refine ⟨r, hr, ?_⟩
          simp only [U3.ap, slStrV] at hr
          split at hr
          · simp only [Option.some.injEq] at hr; subst hr; constructor
          · cases hr
        | _ => cases hr
      | _ => cases hr
    | _ => cases hr
end
end Go.Eng
