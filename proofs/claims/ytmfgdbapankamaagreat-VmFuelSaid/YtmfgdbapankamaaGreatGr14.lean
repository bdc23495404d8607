/- Engine, parts M to O: values that are alike but for where own blocks lie; calm functions; a walk through them. -/
import Derived.Test.YtmfgdbapankamaaGreatGr13
set_option linter.unusedSimpArgs false
set_option linter.unusedVariables false
namespace Go.Eng
inductive VR (M : Nat) (σ : Nat → Nat) : Value → Value → Prop
  | bool (b : Bool) : VR M σ (.bool b) (.bool b)
  | int (k : IntKind) (n : Int) : VR M σ (.int k n) (.int k n)
  | float (k : FloatKind) (n : Nat) : VR M σ (.float k n) (.float k n)
  | complex (k : FloatKind) (n m : Nat) : VR M σ (.complex k n m) (.complex k n m)
  | string (s : ByteArray) : VR M σ (.string s) (.string s)
  | pnil : VR M σ (.pointer none) (.pointer none)
  | ptr (b o : Nat) (s : Option Nat) : b < M → VR M σ (.pointer (some ⟨b, o, s⟩)) (.pointer (some ⟨σ b, o, s⟩))
  | snil (n c : Nat) : VR M σ (.slice none n c) (.slice none n c)
  | slice (b o : Nat) (s : Option Nat) (n c : Nat) : b < M → VR M σ (.slice (some ⟨b, o, s⟩) n c) (.slice (some ⟨σ b, o, s⟩) n c)
  | mnil : VR M σ (.map none) (.map none)
  | map (b : Nat) : b < M → VR M σ (.map (some b)) (.map (some (σ b)))
  | cnil : VR M σ (.chan none) (.chan none)
  | chan (b : Nat) : b < M → VR M σ (.chan (some b)) (.chan (some (σ b)))
  | nilFunc : VR M σ .nilFunc .nilFunc
  | func (f : Fn) (xs ys xs' ys' : Array Value) : xs.size = xs'.size → (∀ (i : Nat) u v, xs[i]? = some u → xs'[i]? = some v → VR M σ u v) → ys.size = ys'.size → (∀ (i : Nat) u v, ys[i]? = some u → ys'[i]? = some v → VR M σ u v) → VR M σ (.func f xs ys) (.func f xs' ys')
  | nilIface : VR M σ .nilIface .nilIface
  | iface (t : TypeId) (u v : Value) : VR M σ u v → VR M σ (.iface t u) (.iface t v)
  | agg (xs ys : Array Value) : xs.size = ys.size → (∀ (i : Nat) u v, xs[i]? = some u → ys[i]? = some v → VR M σ u v) → VR M σ (.agg xs) (.agg ys)
  | tuple (xs ys : Array Value) : xs.size = ys.size → (∀ (i : Nat) u v, xs[i]? = some u → ys[i]? = some v → VR M σ u v) → VR M σ (.tuple xs) (.tuple ys)
def VRs (M : Nat) (σ : Nat → Nat) (xs ys : Array Value) : Prop := xs.size = ys.size ∧ ∀ (i : Nat) u v, xs[i]? = some u → ys[i]? = some v → VR M σ u v
theorem arr_ext {xs ys : Array Value} (h : xs.size = ys.size) (hv : ∀ (i : Nat) u v, xs[i]? = some u → ys[i]? = some v → u = v) : xs = ys := by
  apply Array.ext h
  intro i h1 h2
  exact hv i _ _ (Array.getElem?_eq_getElem h1) (Array.getElem?_eq_getElem h2)
theorem VR.uniq {M : Nat} {σ : Nat → Nat} {u v v' : Value} (h : VR M σ u v) (h' : VR M σ u v') : v = v' := by
  induction h generalizing v' with
  | func f xs ys xs' ys' h1 _ h3 _ ih1 ih2 =>
    cases h' with
    | func _ _ _ xs2 ys2 g1 g2 g3 g4 =>
      congr 1
      · apply arr_ext (by omega)
        intro i a b ha hb
        have hi : i < xs.size := by
          have := (Array.getElem?_eq_some_iff.1 ha).1; omega
        exact ih1 i _ _ (Array.getElem?_eq_getElem hi) ha (g2 i _ _ (Array.getElem?_eq_getElem hi) hb)
      · apply arr_ext (by omega)
        intro i a b ha hb
        have hi : i < ys.size := by
          have := (Array.getElem?_eq_some_iff.1 ha).1; omega
        exact ih2 i _ _ (Array.getElem?_eq_getElem hi) ha (g4 i _ _ (Array.getElem?_eq_getElem hi) hb)
  | iface t u w _ ih => cases h' with | iface _ _ w' g => rw [ih g]
  | agg xs ys h1 _ ih =>
    cases h' with
    | agg _ zs g1 g2 =>
      congr 1
      apply arr_ext (by omega)
      intro i a b ha hb
      have hi : i < xs.size := by
        have := (Array.getElem?_eq_some_iff.1 ha).1; omega
      exact ih i _ _ (Array.getElem?_eq_getElem hi) ha (g2 i _ _ (Array.getElem?_eq_getElem hi) hb)
  | tuple xs ys h1 _ ih =>
    cases h' with
    | tuple _ zs g1 g2 =>
      congr 1
      apply arr_ext (by omega)
      intro i a b ha hb
      have hi : i < xs.size := by
        have := (Array.getElem?_eq_some_iff.1 ha).1; omega
      exact ih i _ _ (Array.getElem?_eq_getElem hi) ha (g2 i _ _ (Array.getElem?_eq_getElem hi) hb)
  | _ => cases h' <;> rfl
theorem VR.mono {M M' : Nat} {σ σ' : Nat → Nat} {u v : Value} (hM : M ≤ M') (hσ : ∀ b, b < M → σ' b = σ b) (h : VR M σ u v) : VR M' σ' u v := by
  induction h with
  | ptr b o s hb => rw [← hσ b hb]; exact .ptr b o s (by omega)
  | slice b o s n c hb => rw [← hσ b hb]; exact .slice b o s n c (by omega)
  | map b hb => rw [← hσ b hb]; exact .map b (by omega)
  | chan b hb => rw [← hσ b hb]; exact .chan b (by omega)
  | func f xs ys xs' ys' h1 _ h3 _ ih1 ih2 => exact .func _ _ _ _ _ h1 ih1 h3 ih2
  | iface t u w _ ih => exact .iface _ _ _ ih
  | agg xs ys h1 _ ih => exact .agg _ _ h1 ih
  | tuple xs ys h1 _ ih => exact .tuple _ _ h1 ih
  | _ => constructor
theorem VRs.mono {M M' : Nat} {σ σ' : Nat → Nat} {xs ys : Array Value} (hM : M ≤ M') (hσ : ∀ b, b < M → σ' b = σ b) (h : VRs M σ xs ys) : VRs M' σ' xs ys := ⟨h.1, fun i u v h1 h2 => (h.2 i u v h1 h2).mono hM hσ⟩
def Ext (n : Nat) (v : Value) : Prop := VR n id v v
theorem Ext.vr {n M : Nat} {σ : Nat → Nat} {v : Value} (h : Ext n v) (hM : n ≤ M) (hσ : ∀ b, b < n → σ b = b) : VR M σ v v := VR.mono hM (fun b hb => hσ b hb) h
theorem Ext.mono {n m : Nat} {v : Value} (h : Ext n v) (hm : n ≤ m) : Ext m v := h.vr hm fun _ _ => rfl
theorem ext_list {l : List Value} (h : ∀ x ∈ l, ∃ n, Ext n x) : ∃ n, ∀ x ∈ l, Ext n x := by
  induction l with
  | nil => exact ⟨0, fun x hx => by cases hx⟩
  | cons a r ih =>
    obtain ⟨n, hn⟩ := h a List.mem_cons_self
    obtain ⟨m, hm⟩ := ih fun x hx => h x (List.mem_cons_of_mem _ hx)
    refine ⟨max n m, fun x hx => ?_⟩
    rcases List.mem_cons.1 hx with rfl | hx
    · exact hn.mono (Nat.le_max_left _ _)
    · exact (hm x hx).mono (Nat.le_max_right _ _)
theorem ext_pt {n : Nat} {xs : Array Value} (h : ∀ x ∈ xs.toList, Ext n x) : ∀ (i : Nat) u v, xs[i]? = some u → xs[i]? = some v → VR n id u v := by
  intro i u v hu hv
  rw [hu] at hv
  obtain rfl := Option.some.inj hv
  exact h u (Array.mem_toList_iff.2 (Array.mem_of_getElem? hu))
theorem ext_ex (v : Value) : ∃ n, Ext n v := by
  refine Value.rec (motive_1 := fun v => ∃ n, Ext n v) (motive_2 := fun a => ∃ n, ∀ x ∈ a.toList, Ext n x) (motive_3 := fun l => ∃ n, ∀ x ∈ l, Ext n x)
    (fun b => ⟨0, .bool b⟩) (fun k n => ⟨0, .int k n⟩) (fun k n => ⟨0, .float k n⟩) (fun k n m => ⟨0, .complex k n m⟩) (fun s => ⟨0, .string s⟩) ?_ ?_ ?_ ?_ ?_ ⟨0, .nilFunc⟩ ?_ ⟨0, .nilIface⟩ ?_ ?_ ?_ ⟨0, fun x hx => by cases hx⟩ ?_ v
  · intro p
    rcases p with _ | ⟨b, o, s⟩
    · exact ⟨0, .pnil⟩
    · exact ⟨b + 1, .ptr b o s (by omega)⟩
  · intro p n c
    rcases p with _ | ⟨b, o, s⟩
    · exact ⟨0, .snil n c⟩
    · exact ⟨b + 1, .slice b o s n c (by omega)⟩
  · intro p
    rcases p with _ | b
    · exact ⟨0, .mnil⟩
    · exact ⟨b + 1, .map b (by omega)⟩
  · intro p
    rcases p with _ | b
    · exact ⟨0, .cnil⟩
    · exact ⟨b + 1, .chan b (by omega)⟩
  · rintro f xs ys ⟨n, hn⟩ ⟨m, hm⟩
    exact ⟨max n m, .func f xs ys xs ys rfl (ext_pt fun x hx => (hn x hx).mono (Nat.le_max_left _ _)) rfl (ext_pt fun x hx => (hm x hx).mono (Nat.le_max_right _ _))⟩
  · rintro t u ⟨n, hn⟩
    exact ⟨n, .iface t u u hn⟩
  · rintro xs ⟨n, hn⟩
    exact ⟨n, .agg xs xs rfl (ext_pt hn)⟩
  · rintro xs ⟨n, hn⟩
    exact ⟨n, .tuple xs xs rfl (ext_pt hn)⟩
  · rintro l ⟨n, hn⟩
    exact ⟨n, hn⟩
  · rintro a r ⟨n, hn⟩ ⟨m, hm⟩
    refine ⟨max n m, fun x hx => ?_⟩
    rcases List.mem_cons.1 hx with rfl | hx
    · exact hn.mono (Nat.le_max_left _ _)
    · exact (hm x hx).mono (Nat.le_max_right _ _)
section
variable {M : Nat} {σ : Nat → Nat}
theorem VRs.at {xs ys : Array Value} (h : VRs M σ xs ys) {i : Nat} {u : Value} (hu : xs[i]? = some u) : ∃ v, ys[i]? = some v ∧ VR M σ u v := by
  have hi : i < ys.size := by
    have := (Array.getElem?_eq_some_iff.1 hu).1
    have := h.1; omega
  exact ⟨_, Array.getElem?_eq_getElem hi, h.2 i _ _ hu (Array.getElem?_eq_getElem hi)⟩
theorem VRs.extract {xs ys : Array Value} (h : VRs M σ xs ys) (a b : Nat) : VRs M σ (xs.extract a b) (ys.extract a b) := by
  refine ⟨by simp [h.1], fun i u v hu hv => ?_⟩
  rw [Array.getElem?_extract] at hu hv
  split at hu
  · split at hv
    · exact h.2 _ _ _ hu hv
    · cases hv
  · cases hu
theorem VRs.push {xs ys : Array Value} (h : VRs M σ xs ys) {u v : Value} (hv : VR M σ u v) : VRs M σ (xs.push u) (ys.push v) := by
  refine ⟨by simp [h.1], fun i a b ha hb => ?_⟩
  rw [Array.getElem?_push] at ha hb
  by_cases hi : i = xs.size
  · rw [if_pos hi] at ha
    rw [if_pos (by rw [hi, h.1])] at hb
    obtain rfl := Option.some.inj ha
    obtain rfl := Option.some.inj hb
    exact hv
  · rw [if_neg hi] at ha
    rw [if_neg (by rw [← h.1]; exact hi)] at hb
    exact h.2 _ _ _ ha hb
theorem VRs.one {u v : Value} (h : VR M σ u v) : VRs M σ #[u] #[v] := by
  refine ⟨rfl, fun i a b ha hb => ?_⟩
  cases i with
  | zero => simp at ha hb; subst ha; subst hb; exact h
  | succ i => simp at ha
theorem VR.cells {u v : Value} (h : VR M σ u v) : VRs M σ u.cells v.cells := by
  cases h with
  | agg xs ys h1 h2 => exact ⟨h1, h2⟩
  | _ => exact VRs.one (by constructor <;> assumption)
theorem VR.oneCell {u v : Value} (h : VR M σ u v) : v.oneCell' = u.oneCell' := by cases h <;> rfl
theorem VRs.oneCells {xs ys : Array Value} (h : VRs M σ xs ys) (h1 : xs.all (·.oneCell') = true) : ys.all (·.oneCell') = true := by
  rw [Array.all_eq_true] at h1 ⊢
  intro i hi
  have hi' : i < xs.size := by have := h.1; omega
  have := (h.2 i _ _ (Array.getElem?_eq_getElem hi') (Array.getElem?_eq_getElem hi)).oneCell
  rw [this]
  exact h1 i hi'
theorem VRs.set_row {xs ys us vs : Array Value} (h : VRs M σ xs ys) (hv : VRs M σ us vs) (off : Nat) : VRs M σ (setRow xs off us.toList) (setRow ys off vs.toList) := by
  refine ⟨by rw [setRow_size, setRow_size]; exact h.1, fun i a b ha hb => ?_⟩
  rw [setRow_eq] at ha hb
  simp only [Array.length_toList, Array.getElem?_toList] at ha hb
  have e1 := h.1
  have e2 := hv.1
  by_cases hi : off ≤ i ∧ i < off + us.size ∧ i < xs.size
  · rw [if_pos hi] at ha
    rw [if_pos (by omega)] at hb
    exact hv.2 _ _ _ ha hb
  · rw [if_neg hi] at ha
    rw [if_neg (by omega)] at hb
    exact h.2 _ _ _ ha hb
theorem VRs.bytes_in {xs ys : Array Value} (h : VRs M σ xs ys) {l : List UInt8} (hl : bytesIn xs.toList = some l) : Go.Eng.bytesIn ys.toList = some l := by
  obtain ⟨xs⟩ := xs
  obtain ⟨ys⟩ := ys
  obtain ⟨h1, h2⟩ := h
  simp only [List.size_toArray, List.getElem?_toArray] at h1 h2 hl ⊢
  induction xs generalizing ys l with
  | nil =>
    cases ys with
    | nil => exact hl
    | cons b r => simp at h1
  | cons a r ih =>
    cases ys with
    | nil => simp at h1
    | cons b s =>
      have h0 := h2 0 a b rfl rfl
      cases h0 with
      | int k n =>
        cases k <;> first | (simp only [Go.Eng.bytesIn] at hl; cases hl; done) | skip
        simp only [Go.Eng.bytesIn, Option.map_eq_some_iff] at hl ⊢
        obtain ⟨l', hl', rfl⟩ := hl
        exact ⟨l', ih hl' s (by simpa using h1) (fun i u v hu hv => h2 (i + 1) u v (by simpa using hu) (by simpa using hv)), rfl⟩
      | _ => simp only [Go.Eng.bytesIn] at hl; cases hl
theorem partV_vr {sz : Option Nat} {off : Nat} {xs ys : Array Value} (h : VRs M σ xs ys) {r : Value} (hr : partV sz off xs = some r) : ∃ r', partV sz off ys = some r' ∧ VR M σ r r' := by
  cases sz with
  | none => exact h.at hr
  | some n =>
    simp only [partV, Option.some.injEq] at hr ⊢
    subst hr
    exact ⟨_, rfl, .agg _ _ (h.extract _ _).1 (h.extract _ _).2⟩
theorem u1_vr {o : U1} {u u' r : Value} (h : VR M σ u u') (hr : o.ap u = some r) : ∃ r', o.ap u' = some r' ∧ VR M σ r r' := by
  cases o with
  | isnil k ne => cases h <;> simp only [U1.ap, nilV] at hr ⊢ <;> first | (split at hr <;> first | (simp only [Option.some.injEq] at hr; subst hr; simp_all; constructor) | cases hr) | (simp only [Option.some.injEq] at hr; subst hr; exact ⟨_, rfl, .bool _⟩) | cases hr
  | un op =>
    cases h <;> simp only [U1.ap, unV] at hr ⊢ <;> try (cases hr; done)
    all_goals (split at hr <;> first | (simp only [Option.some.injEq] at hr; subst hr; first | exact ⟨_, rfl, .int _ _⟩ | exact ⟨_, rfl, .bool _⟩) | cases hr)
  | conv k => cases h <;> simp only [U1.ap, convV] at hr ⊢ <;> first | (simp only [Option.some.injEq] at hr; subst hr; exact ⟨_, rfl, .int _ _⟩) | cases hr
  | cstr => cases h <;> simp only [U1.ap, cstrV] at hr ⊢ <;> first | (simp only [Option.some.injEq] at hr; subst hr; exact ⟨_, rfl, .string _⟩) | cases hr
  | proj i =>
    cases h with
    | tuple xs ys h1 h2 => exact VRs.at ⟨h1, h2⟩ hr
    | _ => cases hr
  | part sz off =>
    cases h with
    | agg xs ys h1 h2 => exact partV_vr ⟨h1, h2⟩ hr
    | _ => cases hr
  | offp k =>
    cases h with
    | ptr b o s hb =>
      cases s with
      | none => simp only [U1.ap, offpV, Option.some.injEq] at hr ⊢; subst hr; exact ⟨_, rfl, .ptr _ _ _ hb⟩
      | some s => cases hr
    | _ => cases hr
  | nn =>
    cases h with
    | ptr b o s hb => simp only [U1.ap, nnV, Option.some.injEq] at hr ⊢; subst hr; exact ⟨_, rfl, .ptr _ _ _ hb⟩
    | func f xs ys xs' ys' h1 h2 h3 h4 =>
      cases f with
      | func g => simp only [U1.ap, nnV, Option.some.injEq] at hr ⊢; subst hr; exact ⟨_, rfl, .func _ _ _ _ _ h1 h2 h3 h4⟩
      | _ => cases hr
    | _ => cases hr
  | len str => cases str <;> cases h <;> simp [U1.ap, lenV] at hr ⊢ <;> (subst hr; constructor)
  | mkif t => simp only [U1.ap, Option.some.injEq] at hr ⊢; subst hr; exact ⟨_, rfl, .iface _ _ _ h⟩
  | s2a n =>
    cases h with
    | slice b o s len c hb =>
      simp only [U1.ap, s2aV] at hr ⊢
      split at hr
      · rename_i hc; rw [if_pos hc]; simp only [Option.some.injEq] at hr; subst hr; exact ⟨_, rfl, .ptr _ _ _ hb⟩
      · cases hr
    | _ => cases hr
theorem intBin_vr {op : BinOp} {k k' : IntKind} {a b : Int} {r : Value} (hr : intBin op k a k' b = some r) : VR M σ r r := by
  cases op <;> simp only [intBin] at hr <;> first | (split at hr <;> first | (cases hr; done) | (simp only [Option.some.injEq] at hr; subst hr; constructor)) | (simp only [Option.some.injEq] at hr; subst hr; constructor)
theorem strBin_vr {op : BinOp} {a b : ByteArray} {r : Value} (hr : strBin op a b = some r) : VR M σ r r := by
  cases op <;> simp only [strBin] at hr <;> first | (split at hr <;> first | (cases hr; done) | (simp only [Option.some.injEq] at hr; subst hr; constructor)) | (simp only [Option.some.injEq] at hr; subst hr; constructor) | (cases hr; done)
theorem u2_vr {o : U2} {u u' v v' r : Value} (h : VR M σ u u') (g : VR M σ v v') (hr : o.ap u v = some r) : ∃ r', o.ap u' v' = some r' ∧ VR M σ r r' := by
  cases o with
  | bin op =>
    cases h with
    | int k n =>
      cases g with
      | int k' n' => exact ⟨r, hr, intBin_vr hr⟩
      | _ => cases hr
    | string s =>
      cases g with
      | string s' => exact ⟨r, hr, strBin_vr hr⟩
      | _ => cases hr
    | _ => cases hr
  | idxAgg sz esz n =>
    cases h with
    | agg xs ys h1 h2 =>
      cases g with
      | int k i =>
        simp only [U2.ap, idxAggV] at hr ⊢
        split at hr
        · rename_i hi; rw [if_pos hi]; exact partV_vr ⟨h1, h2⟩ hr
        · cases hr
      | _ => cases hr
    | _ => cases hr
  | idxStr =>
    cases h with
    | string s =>
      cases g with
      | int k i =>
        refine ⟨r, hr, ?_⟩
        simp only [U2.ap, idxStrV] at hr
        split at hr
        · simp only [Option.map_eq_some_iff] at hr
          obtain ⟨b, _, rfl⟩ := hr
          constructor
        · cases hr
      | _ => cases hr
    | _ => cases hr
  | ixArr n esz =>
    cases h with
    | ptr b o s hb =>
      cases s with
      | some s => cases g <;> cases hr
      | none =>
        cases g with
        | int k i =>
          simp only [U2.ap, ixArrV] at hr ⊢
          split at hr
          · rename_i hi; rw [if_pos hi]; simp only [Option.some.injEq] at hr; subst hr; exact ⟨_, rfl, .ptr _ _ _ hb⟩
          · cases hr
        | _ => cases hr
    | _ => cases hr
  | ixSl esz =>
    cases h with
    | slice b o s n c hb =>
      cases s with
      | some s => cases g <;> cases hr
      | none =>
        cases g with
        | int k i =>
          simp only [U2.ap, ixSlV] at hr ⊢
          split at hr
          · rename_i hi; rw [if_pos hi]; simp only [Option.some.injEq] at hr; subst hr; exact ⟨_, rfl, .ptr _ _ _ hb⟩
          · cases hr
        | _ => cases hr
    | _ => cases hr
  | upd off sz =>
    cases h with
    | agg xs ys h1 h2 =>
      have gc := g.cells
      simp only [U2.ap, updV] at hr ⊢
      split at hr
      · rename_i hi
        rw [if_pos (by rw [← gc.1, ← h1]; exact hi)]
        simp only [Option.some.injEq] at hr
        subst hr
        have := VRs.set_row ⟨h1, h2⟩ gc off
        exact ⟨_, rfl, .agg _ _ this.1 this.2⟩
      · cases hr
    | _ => cases hr
  | fst1 =>
    cases h with
    | func f xs ys xs' ys' h1 h2 h3 h4 =>
      simp only [U2.ap, fst1V, Option.some.injEq] at hr ⊢
      subst hr
      have := VRs.push ⟨h1, h2⟩ g
      exact ⟨_, rfl, .func _ _ _ _ _ this.1 this.2 h3 h4⟩
    | _ => cases hr
  | cap1 =>
    cases h with
    | func f xs ys xs' ys' h1 h2 h3 h4 =>
      simp only [U2.ap, cap1V, Option.some.injEq] at hr ⊢
      subst hr
      have := VRs.push ⟨h3, h4⟩ g
      exact ⟨_, rfl, .func _ _ _ _ _ h1 h2 this.1 this.2⟩
    | _ => cases hr
  | mn =>
    cases h with
    | int k n =>
      cases g with
      | int k' n' => exact ⟨r, hr, by simp only [U2.ap, mnV, Option.some.injEq] at hr; subst hr; constructor⟩
      | _ => cases hr
    | _ => cases hr
  | mx =>
    cases h with
    | int k n =>
      cases g with
      | int k' n' => exact ⟨r, hr, by simp only [U2.ap, mxV, Option.some.injEq] at hr; subst hr; constructor⟩
      | _ => cases hr
    | _ => cases hr
theorem u3_vr {o : U3} {u u' v v' z z' r : Value} (h : VR M σ u u') (g : VR M σ v v') (f : VR M σ z z') (hr : o.ap u v z = some r) : ∃ r', o.ap u' v' z' = some r' ∧ VR M σ r r' := by
  cases o with
  | slArr n esz =>
    cases h with
    | ptr b o s hb =>
      cases s with
      | some s => cases g <;> cases f <;> cases hr
      | none =>
        cases g with
        | int k i =>
          cases f with
          | int k' j =>
            simp only [U3.ap, slArrV] at hr ⊢
            split at hr
            · rename_i hi
              rw [if_pos hi]
              simp only [Option.some.injEq] at hr
              subst hr
              refine ⟨_, rfl, ?_⟩
              split <;> exact .slice _ _ _ _ _ hb
            · cases hr
          | _ => cases hr
        | _ => cases hr
    | _ => cases hr
  | slSl esz =>
    cases h with
    | slice b o s n c hb =>
      cases g with
      | int k i =>
        cases f with
        | int k' j =>
          simp only [U3.ap, slSlV] at hr ⊢
          split at hr
          · rename_i hi
            rw [if_pos hi]
            simp only [Option.some.injEq] at hr
            subst hr
            refine ⟨_, rfl, ?_⟩
            split
            · exact .slice _ _ _ _ _ hb
            · have e : ∀ (b : Nat), (⟨b, o, s⟩ : Addr).add (i.toNat * esz) = ⟨b, ((⟨0, o, s⟩ : Addr).add (i.toNat * esz)).off, ((⟨0, o, s⟩ : Addr).add (i.toNat * esz)).spot⟩ := fun b => by unfold Addr.add; split <;> rfl
              rw [e b, e (σ b)]
              exact .slice _ _ _ _ _ hb
          · cases hr
        | _ => cases hr
      | _ => cases hr
    | snil n c =>
      cases g with
      | int k i =>
        cases f with
        | int k' j =>
          simp only [U3.ap, slSlV] at hr ⊢
          split at hr
          · rename_i hi
            rw [if_pos hi]
            simp only [Option.some.injEq] at hr
            subst hr
            exact ⟨_, rfl, .snil _ _⟩
          · cases hr
        | _ => cases hr
      | _ => cases hr
    | _ => cases hr
  | slStr =>
    cases h with
    | string s =>
      cases g with
      | int k i =>
        cases f with
        | int k' j =>
          refine ⟨r, hr, ?_⟩
          simp only [U3.ap, slStrV] at hr
          split at hr
          · simp only [Option.some.injEq] at hr; subst hr; constructor
          · cases hr
        | _ => cases hr
      | _ => cases hr
    | _ => cases hr
end
end Go.Eng
namespace Go.Eng
abbrev Own := List (Array Value × TypeId)
def ownW (B : World) (l : Own) : World := { B with heap := B.heap ++ (l.map fun x => Obj.cells x.1 x.2).toArray }
section
variable {B : World} {l : Own}
theorem own_old {b : Nat} (h : b < B.heap.size) : (ownW B l).heap[b]? = B.heap[b]? := by
  simp only [ownW]
  rw [Array.getElem?_append_left h]
theorem own_new (j : Nat) : (ownW B l).heap[B.heap.size + j]? = (l[j]?).map fun x => Obj.cells x.1 x.2 := by
  simp only [ownW]
  rw [Array.getElem?_append_right (by omega)]
  simp
end
def CalmC (P : Program) (w0 : World) (f : FuncId) (vs : List Value) (x : Value) : Prop :=
  P.inits.idxOf? f = none ∧ (∀ v ∈ vs, Ext w0.heap.size v) ∧ Ext w0.heap.size x ∧ ∀ w, Kept none' w0 w → Ret P f vs w fun v w' => v = x ∧ Kept none' w w'
theorem runN_more {P : Program} {m : Machine} {e : Outcome} {w : World} {n : Nat} (h : runN P n m = .ended e w) (k : Nat) : runN P (n + k) m = .ended e w := by
  rw [runN_add, h]
theorem calm_uniq {P : Program} {w0 : World} {f : FuncId} {vs : List Value} {x y : Value} (h : CalmC P w0 f vs x) (g : CalmC P w0 f vs y) : x = y := by
  have h1 := h.2.2.2 w0 (Kept.refl _ _)
  have g1 := g.2.2.2 w0 (Kept.refl _ _)
  obtain ⟨n, v, w', hn, hv⟩ := Calls.done (R := fun v _ => v = x) (Calls.mono h1.calls fun e w' ⟨v, he, hv⟩ => by subst he; exact hv.1) h.1
  obtain ⟨m, u, w'', hm, hu⟩ := Calls.done (R := fun v _ => v = y) (Calls.mono g1.calls fun e w' ⟨v, he, hv⟩ => by subst he; exact hv.1) h.1
  have e1 := runN_more hn m
  have e2 := runN_more hm n
  rw [Nat.add_comm] at e2
  rw [e1] at e2
  simp only [Stepped.ended.injEq, Outcome.done.injEq] at e2
  rw [← hv, ← hu, e2.1]
open Classical in
noncomputable def T (P : Program) (w0 : World) (f : FuncId) (vs : List Value) : Option Value := if h : ∃ x, CalmC P w0 f vs x then some h.choose else none
theorem T_eq {P : Program} {w0 : World} {f : FuncId} {vs : List Value} {x : Value} (h : CalmC P w0 f vs x) : T P w0 f vs = some x := by
  unfold T
  rw [dif_pos ⟨x, h⟩]
  exact congrArg some (calm_uniq (Exists.choose_spec (p := fun x => CalmC P w0 f vs x) ⟨x, h⟩) h)
theorem T_calm {P : Program} {w0 : World} {f : FuncId} {vs : List Value} {x : Value} (h : T P w0 f vs = some x) : CalmC P w0 f vs x := by
  unfold T at h
  split at h
  · rename_i hx
    obtain rfl := Option.some.inj h
    exact hx.choose_spec
  · cases h
theorem T_ret {P : Program} {w0 w : World} {f : FuncId} {vs : List Value} {x : Value} (h : T P w0 f vs = some x) (hk : Kept none' w0 w) : Ret P f vs w fun v w' => v = x ∧ Kept none' w w' := (T_calm h).2.2.2 w hk
def ost (B : World) (l : Own) (n : Nat) (x v : Value) : Option Own :=
  match x with
  | .pointer (some ⟨b, off, none⟩) =>
    if B.heap.size ≤ b then
      match l[b - B.heap.size]? with
      | some (c, T) => if v.cells.size = n ∧ off + v.cells.size ≤ c.size ∧ v.cells.all (·.oneCell') = true then some (l.set (b - B.heap.size) (setRow c off v.cells.toList, T)) else none
      | none => none
    else none
  | _ => none
def StabO (es : List Ex) (env : Env) (w w' : World) : Prop := ∀ e ∈ es, ∃ v, e.ev env w = some v ∧ e.ev env w' = some v
def Cmd.cwp (P : Program) (w0 B : World) : Cmd → (Exit → Env → Own → Prop) → Env → Own → Prop
  | .skip, Q, env, l => Q .normal env l
  | .chk es, Q, env, l => Ok (evs env (ownW B l) es) fun _ => Q .normal env l
  | .set i e, Q, env, l => Ok (e.ev env (ownW B l)) fun v => Q .normal (env.set i v) l
  | .clr is, Q, env, l => Q .normal (is.foldl (fun env i => env.set i undef) env) l
  | .draw, Q, env, l => Q .normal env l
  | .call dst f args _, Q, env, l => Ok (evs env (ownW B l) args) fun vs => Ok (T P w0 f vs) fun v => Q .normal (setO dst env v) l
  | .store n x v st, Q, env, l => Ok (x.ev env (ownW B l)) fun x => Ok (v.ev env (ownW B l)) fun v => Ok (ost B l n x v) fun l' => StabO st env (ownW B l) (ownW B l') ∧ Q .normal env l'
  | .new dst T e _, Q, env, l => Ok (e.ev env (ownW B l)) fun v => Q .normal (setO dst env (.pointer (some ⟨B.heap.size + l.length, 0, none⟩))) (l ++ [(v.cells, T)])
  | .row dst T n e _, Q, env, l => Ok (e.ev env (ownW B l)) fun v => Q .normal (setO dst env (.slice (some ⟨B.heap.size + l.length, 0, none⟩) n n)) (l ++ [(v.cells, T)])
  | .seq a b, Q, env, l => a.cwp P w0 B (fun x env l => match x with | .normal => b.cwp P w0 B Q env l | x => Q x env l) env l
  | .alt a b, Q, env, l => a.cwp P w0 B Q env l ∧ b.cwp P w0 B Q env l
  | .cond e a b, Q, env, l => Ok (e.ev env (ownW B l)) fun v => condTo v (a.cwp P w0 B Q env l) (b.cwp P w0 B Q env l)
  | .block id a, Q, env, l => a.cwp P w0 B (fun x env l => match x with | .exit id' => if id' = id then Q .normal env l else Q (.exit id') env l | x => Q x env l) env l
  | .loop ks a, Q, env, l => ∃ (I : Env → Own → Prop) (m : Env → Own → Nat), I (mask ks env) l ∧
      ∀ env l, I env l → a.cwp P w0 B (fun x env' l' => match x with | .normal => I (mask ks env') l' ∧ m (mask ks env') l' < m env l | x => Q x env' l') env l
  | .exit id, Q, env, l => Q (.exit id) env l
  | .ret, Q, env, l => Q .ret env l
  | _, _, _, _ => False
def Ex.Cl (n : Nat) : Ex → Prop
  | .var _ => True
  | .const v => Ext n v
  | .op1 _ x => x.Cl n
  | .op2 _ x y => x.Cl n ∧ y.Cl n
  | .op3 _ x y z => x.Cl n ∧ y.Cl n ∧ z.Cl n
  | .eqx _ _ x y => x.Cl n ∧ y.Cl n
  | .pick c a b => c.Cl n ∧ a.Cl n ∧ b.Cl n
  | .ld _ x => x.Cl n
  | .bstr x => x.Cl n
theorem Ex.Cl.mono {n m : Nat} (hm : n ≤ m) : ∀ {e : Ex}, e.Cl n → e.Cl m := by
  intro e
  induction e with
  | var i => exact fun _ => trivial
  | const v => exact fun h => Ext.mono h hm
  | op1 o x ih => exact fun h => ih h
  | op2 o x y ih1 ih2 => exact fun h => ⟨ih1 h.1, ih2 h.2⟩
  | op3 o x y z ih1 ih2 ih3 => exact fun h => ⟨ih1 h.1, ih2 h.2.1, ih3 h.2.2⟩
  | eqx ne d x y ih1 ih2 => exact fun h => ⟨ih1 h.1, ih2 h.2⟩
  | pick c a b ih1 ih2 ih3 => exact fun h => ⟨ih1 h.1, ih2 h.2.1, ih3 h.2.2⟩
  | ld sz x ih => exact fun h => ih h
  | bstr x ih => exact fun h => ih h
theorem Ex.cl_ex (e : Ex) : ∃ n, e.Cl n := by
  induction e with
  | var i => exact ⟨0, trivial⟩
  | const v => exact ext_ex v
  | op1 o x ih => exact ih
  | op2 o x y ih1 ih2 =>
    obtain ⟨a, ha⟩ := ih1; obtain ⟨b, hb⟩ := ih2
    exact ⟨max a b, ha.mono (by omega), hb.mono (by omega)⟩
  | op3 o x y z ih1 ih2 ih3 =>
    obtain ⟨a, ha⟩ := ih1; obtain ⟨b, hb⟩ := ih2; obtain ⟨c, hc⟩ := ih3
    exact ⟨max a (max b c), ha.mono (by omega), hb.mono (by omega), hc.mono (by omega)⟩
  | eqx ne d x y ih1 ih2 =>
    obtain ⟨a, ha⟩ := ih1; obtain ⟨b, hb⟩ := ih2
    exact ⟨max a b, ha.mono (by omega), hb.mono (by omega)⟩
  | pick x y z ih1 ih2 ih3 =>
    obtain ⟨a, ha⟩ := ih1; obtain ⟨b, hb⟩ := ih2; obtain ⟨c, hc⟩ := ih3
    exact ⟨max a (max b c), ha.mono (by omega), hb.mono (by omega), hc.mono (by omega)⟩
  | ld sz x ih => exact ih
  | bstr x ih => exact ih
theorem exs_cl_ex (es : List Ex) : ∃ n, ∀ e ∈ es, e.Cl n := by
  induction es with
  | nil => exact ⟨0, fun e he => by cases he⟩
  | cons a r ih =>
    obtain ⟨n, hn⟩ := a.cl_ex; obtain ⟨m, hm⟩ := ih
    refine ⟨max n m, fun e he => ?_⟩
    rcases List.mem_cons.1 he with rfl | he
    · exact hn.mono (by omega)
    · exact (hm e he).mono (by omega)
def Cmd.Cl (n : Nat) : Cmd → Prop
  | .chk es => ∀ e ∈ es, e.Cl n
  | .set _ e => e.Cl n
  | .call _ _ args st => (∀ e ∈ args, e.Cl n) ∧ ∀ e ∈ st, e.Cl n
  | .store _ x v st => x.Cl n ∧ v.Cl n ∧ ∀ e ∈ st, e.Cl n
  | .new _ _ e _ => e.Cl n
  | .row _ _ _ e _ => e.Cl n
  | .seq a b => a.Cl n ∧ b.Cl n
  | .alt a b => a.Cl n ∧ b.Cl n
  | .cond e a b => e.Cl n ∧ a.Cl n ∧ b.Cl n
  | .block _ a => a.Cl n
  | .loop _ a => a.Cl n
  | _ => True
theorem Cmd.Cl.mono {n m : Nat} (hm : n ≤ m) : ∀ {c : Cmd}, c.Cl n → c.Cl m := by
  intro c
  induction c with
  | chk es => exact fun h e he => (h e he).mono hm
  | set i e => exact fun h => Ex.Cl.mono hm h
  | call d f args st => exact fun h => ⟨fun e he => (h.1 e he).mono hm, fun e he => (h.2 e he).mono hm⟩
  | store k x v st => exact fun h => ⟨h.1.mono hm, h.2.1.mono hm, fun e he => (h.2.2 e he).mono hm⟩
  | new d T e st => exact fun h => Ex.Cl.mono hm h
  | row d T k e st => exact fun h => Ex.Cl.mono hm h
  | seq a b iha ihb => exact fun h => ⟨iha h.1, ihb h.2⟩
  | alt a b iha ihb => exact fun h => ⟨iha h.1, ihb h.2⟩
  | cond e a b iha ihb => exact fun h => ⟨h.1.mono hm, iha h.2.1, ihb h.2.2⟩
  | block id a ih => exact fun h => ih h
  | loop ks a ih => exact fun h => ih h
  | _ => exact fun _ => trivial
theorem Cmd.cl_ex (c : Cmd) : ∃ n, c.Cl n := by
  induction c with
  | chk es => exact exs_cl_ex es
  | set i e => exact e.cl_ex
  | call d f args st =>
    obtain ⟨a, ha⟩ := exs_cl_ex args; obtain ⟨b, hb⟩ := exs_cl_ex st
    exact ⟨max a b, fun e he => (ha e he).mono (by omega), fun e he => (hb e he).mono (by omega)⟩
  | store k x v st =>
    obtain ⟨a, ha⟩ := x.cl_ex; obtain ⟨b, hb⟩ := v.cl_ex; obtain ⟨c, hc⟩ := exs_cl_ex st
    exact ⟨max a (max b c), ha.mono (by omega), hb.mono (by omega), fun e he => (hc e he).mono (by omega)⟩
  | new d T e st => exact e.cl_ex
  | row d T k e st => exact e.cl_ex
  | seq a b iha ihb =>
    obtain ⟨x, hx⟩ := iha; obtain ⟨y, hy⟩ := ihb
    exact ⟨max x y, hx.mono (by omega), hy.mono (by omega)⟩
  | alt a b iha ihb =>
    obtain ⟨x, hx⟩ := iha; obtain ⟨y, hy⟩ := ihb
    exact ⟨max x y, hx.mono (by omega), hy.mono (by omega)⟩
  | cond e a b iha ihb =>
    obtain ⟨x, hx⟩ := iha; obtain ⟨y, hy⟩ := ihb; obtain ⟨z, hz⟩ := e.cl_ex
    exact ⟨max z (max x y), hz.mono (by omega), hx.mono (by omega), hy.mono (by omega)⟩
  | block id a ih => exact ih
  | loop ks a ih => exact ih
  | _ => exact ⟨0, trivial⟩
structure Base (w0 B : World) : Prop where
  read : ∀ (b : Nat) c T fz, B.heap[b]? = some (.cells c T fz) → w0.heap[b]? = some (.cells c T fz) ∧ ∀ (i : Nat) v, c[i]? = some v → Ext B.heap.size v
  le : w0.heap.size ≤ B.heap.size
  has : HeapLe w0 B
theorem base_ex (w0 : World) (n0 : Nat) : ∃ B, Base w0 B ∧ n0 ≤ B.heap.size := by
  obtain ⟨n, hn⟩ : ∃ n, ∀ (b : Nat) c T fz, w0.heap[b]? = some (.cells c T fz) → ∀ (i : Nat) v, c[i]? = some v → Ext n v := by
    have h1 : ∀ (l : List Obj), ∃ n, ∀ c T fz, Obj.cells c T fz ∈ l → ∀ (i : Nat) v, c[i]? = some v → Ext n v := by
      intro l
      induction l with
      | nil => exact ⟨0, fun c T fz h => by cases h⟩
      | cons a r ih =>
        obtain ⟨m, hm⟩ := ih
        have ha : ∃ k, ∀ c T fz, a = Obj.cells c T fz → ∀ (i : Nat) v, c[i]? = some v → Ext k v := by
          cases a with
          | cells c T fz =>
            obtain ⟨k, hk⟩ := ext_list (l := c.toList) fun x _ => ext_ex x
            refine ⟨k, fun c' T' fz' e i v hv => ?_⟩
            cases e
            exact hk v (Array.mem_toList_iff.2 (Array.mem_of_getElem? hv))
          | _ => exact ⟨0, fun c T fz e => by cases e⟩
        obtain ⟨k, hk⟩ := ha
        refine ⟨max k m, fun c T fz h i v hv => ?_⟩
        rcases List.mem_cons.1 h with e | h
        · exact (hk c T fz e.symm i v hv).mono (Nat.le_max_left _ _)
        · exact (hm c T fz h i v hv).mono (Nat.le_max_right _ _)
    obtain ⟨n, hn⟩ := h1 w0.heap.toList
    exact ⟨n, fun b c T fz h => hn c T fz (Array.mem_toList_iff.2 (Array.mem_of_getElem? h))⟩
  refine ⟨{ w0 with heap := w0.heap ++ Array.replicate (n + n0) (.pending #[] 0) }, ⟨?_, ?_, ?_⟩, by simp; omega⟩
  · intro b c T fz h
    have hb : b < w0.heap.size := by
      rcases Nat.lt_or_ge b w0.heap.size with hb | hb
      · exact hb
      · simp only at h
        rw [Array.getElem?_append_right hb, Array.getElem?_replicate] at h
        split at h <;> cases h
    simp only at h
    rw [Array.getElem?_append_left hb] at h
    refine ⟨h, fun i v hv => (hn b c T fz h i v hv).mono ?_⟩
    simp; omega
  · simp
  · intro b o h
    simp only
    rw [Array.getElem?_append_left (blk_lt h)]
    exact h
theorem least_ex {p : Nat → Prop} : ∀ {k : Nat}, p k → ∃ j, p j ∧ ∀ i, p i → j ≤ i := by
  intro k
  induction k using Nat.strongRecOn with
  | ind k ih =>
    intro hk
    by_cases h : ∃ i, i < k ∧ p i
    · obtain ⟨i, hi, hp⟩ := h
      exact ih i hi hp
    · refine ⟨k, hk, fun i hi => ?_⟩
      rcases Nat.lt_or_ge i k with hlt | hge
      · exact absurd ⟨i, hlt, hi⟩ h
      · exact hge
open Classical in
noncomputable def leastOf (p : Nat → Prop) : Nat := if h : ∃ k, p k ∧ ∀ i, p i → k ≤ i then h.choose else 0
theorem leastOf_mem {p : Nat → Prop} (h : ∃ k, p k) : p (leastOf p) := by
  obtain ⟨k, hk⟩ := h
  unfold leastOf
  rw [dif_pos (least_ex hk)]
  exact (least_ex hk).choose_spec.1
theorem leastOf_le {p : Nat → Prop} {k : Nat} (h : p k) : leastOf p ≤ k := by
  unfold leastOf
  rw [dif_pos (least_ex h)]
  exact (least_ex h).choose_spec.2 k h
structure Sim (wE B : World) (l : Own) (w : World) (σ : Nat → Nat) : Prop where
  fix : ∀ b, b < B.heap.size → σ b = b
  kept : Kept none' wE w
  own : ∀ (j : Nat) x, l[j]? = some x → ∃ cs, w.heap[σ (B.heap.size + j)]? = some (.cells cs x.2 (0, 0)) ∧ VRs (B.heap.size + l.length) σ x.1 cs
  new : ∀ j, j < l.length → wE.heap.size ≤ σ (B.heap.size + j)
  inj : ∀ i j, i < l.length → j < l.length → σ (B.heap.size + i) = σ (B.heap.size + j) → i = j
def EnvR (M : Nat) (σ : Nat → Nat) (env env' : Env) : Prop := env.length = env'.length ∧ ∀ (i : Nat) u v, env[i]? = some u → env'[i]? = some v → VR M σ u v
section
variable {P : Program} {w0 wE B w : World} {l : Own} {M : Nat} {σ : Nat → Nat} {env env' : Env}
theorem EnvR.at (h : EnvR M σ env env') {i : Nat} {u : Value} (hu : env[i]? = some u) : ∃ v, env'[i]? = some v ∧ VR M σ u v := by
  have hi : i < env'.length := by
    have := (List.getElem?_eq_some_iff.1 hu).1
    have := h.1; omega
  exact ⟨_, List.getElem?_eq_getElem hi, h.2 i _ _ hu (List.getElem?_eq_getElem hi)⟩
theorem EnvR.set (h : EnvR M σ env env') (i : Nat) {u v : Value} (hv : VR M σ u v) : EnvR M σ (env.set i u) (env'.set i v) := by
  refine ⟨by simp [h.1], fun j a b ha hb => ?_⟩
  rw [List.getElem?_set] at ha hb
  have hl := h.1
  by_cases hj : i = j
  · rw [if_pos hj] at ha hb
    split at ha
    · rw [if_pos (by omega)] at hb
      obtain rfl := Option.some.inj ha
      obtain rfl := Option.some.inj hb
      exact hv
    · cases ha
  · rw [if_neg hj] at ha hb
    exact h.2 _ _ _ ha hb
theorem EnvR.setO (h : EnvR M σ env env') (d : Option Nat) {u v : Value} (hv : VR M σ u v) : EnvR M σ (setO d env u) (setO d env' v) := by
  cases d with
  | none => exact h
  | some i => exact h.set i hv
theorem vr_undef : VR M σ undef undef := .tuple _ _ rfl (fun i u v hu => by simp at hu)
theorem EnvR.clr (is : List Nat) : ∀ {env env' : Env}, EnvR M σ env env' → EnvR M σ (is.foldl (fun env i => env.set i undef) env) (is.foldl (fun env i => env.set i undef) env') := by
  induction is with
  | nil => exact fun h => h
  | cons a r ih => exact fun h => ih (h.set a vr_undef)
theorem EnvR.mask (h : EnvR M σ env env') (ks : List Nat) : EnvR M σ (mask ks env) (mask ks env') := by
  refine ⟨by simp [Go.Eng.mask, h.1], fun i u v hu hv => ?_⟩
  simp only [Go.Eng.mask, List.getElem?_mapIdx, Option.map_eq_some_iff] at hu hv
  obtain ⟨u', hu', rfl⟩ := hu
  obtain ⟨v', hv', rfl⟩ := hv
  split
  · exact h.2 _ _ _ hu' hv'
  · exact vr_undef
theorem EnvR.mono {M' : Nat} {σ' : Nat → Nat} (hM : M ≤ M') (hσ : ∀ b, b < M → σ' b = σ b) (h : EnvR M σ env env') : EnvR M' σ' env env' := ⟨h.1, fun i u v hu hv => (h.2 i u v hu hv).mono hM hσ⟩
theorem Sim.read (hB : Base w0 B) (h0 : Kept none' w0 wE) (h : Sim wE B l w σ) {b : Nat} {c : Array Value} {T : TypeId} {fz : Nat × Nat} (hb : (ownW B l).heap[b]? = some (.cells c T fz)) :
    ∃ c', w.heap[σ b]? = some (.cells c' T fz) ∧ VRs (B.heap.size + l.length) σ c c' := by
  rcases Nat.lt_or_ge b B.heap.size with hlt | hge
  · rw [own_old hlt] at hb
    obtain ⟨h1, h2⟩ := hB.read b c T fz hb
    rw [h.fix b hlt]
    refine ⟨c, (h0.trans h.kept).has h1 (fun h => h), rfl, fun i u v hu hv => ?_⟩
    rw [hu] at hv
    obtain rfl := Option.some.inj hv
    exact (h2 i u hu).vr (by omega) h.fix
  · obtain ⟨j, rfl⟩ : ∃ j, b = B.heap.size + j := ⟨b - B.heap.size, by omega⟩
    rw [own_new] at hb
    cases hl : l[j]? with
    | none => rw [hl] at hb; cases hb
    | some x =>
      rw [hl] at hb
      simp only [Option.map_some, Option.some.injEq, Obj.cells.injEq] at hb
      obtain ⟨rfl, rfl, rfl⟩ := hb
      exact h.own j x hl
theorem Sim.cell (hB : Base w0 B) (h0 : Kept none' w0 wE) (h : Sim wE B l w σ) {b off : Nat} {v : Value} (hv : wcell (ownW B l) b off = some v) : ∃ v', wcell w (σ b) off = some v' ∧ VR (B.heap.size + l.length) σ v v' := by
  unfold wcell at hv
  split at hv
  · rename_i c T fz hb
    obtain ⟨c', h1, h2⟩ := h.read hB h0 hb
    obtain ⟨v', h3, h4⟩ := h2.at hv
    exact ⟨v', by rw [wcell_of h1]; exact h3, h4⟩
  · cases hv
theorem Sim.row (hB : Base w0 B) (h0 : Kept none' w0 wE) (h : Sim wE B l w σ) {b off n : Nat} {v : Array Value} (hv : wrow (ownW B l) b off n = some v) : ∃ v', wrow w (σ b) off n = some v' ∧ VRs (B.heap.size + l.length) σ v v' := by
  unfold wrow at hv
  split at hv
  · rename_i c T fz hb
    split at hv
    · rename_i hn
      obtain ⟨c', h1, h2⟩ := h.read hB h0 hb
      obtain rfl := Option.some.inj hv
      exact ⟨_, wrow_of h1 (by rw [← h2.1]; exact hn), h2.extract _ _⟩
    · cases hv
  · cases hv
theorem Sim.eqv (hB : Base w0 B) (h0 : Kept none' w0 wE) (h : Sim wE B l w σ) : ∀ (d : EqD) {u u' v v' : Value} {r : Bool}, VR (B.heap.size + l.length) σ u u' → VR (B.heap.size + l.length) σ v v' → eqv (ownW B l) d u v = some r → eqv w d u' v' = some r := by
  have hplain : ∀ b, plainB (ownW B l) b = true → plainB w (σ b) = true := by
    intro b hb
    unfold plainB at hb ⊢
    split at hb
    · rename_i c T hc
      obtain ⟨c', h1, _⟩ := h.read hB h0 hc
      rw [h1]; rfl
    · cases hb
  have hdiff : ∀ a b, plainB (ownW B l) a = true → plainB (ownW B l) b = true → σ a = σ b → a = b := by
    intro a b ha hb e
    have real : ∀ a, plainB (ownW B l) a = true → (a < B.heap.size ∧ σ a < wE.heap.size) ∨ (∃ j, j < l.length ∧ a = B.heap.size + j ∧ wE.heap.size ≤ σ a) := by
      intro a ha
      rcases Nat.lt_or_ge a B.heap.size with hlt | hge
      · left
        refine ⟨hlt, ?_⟩
        unfold plainB at ha
        split at ha
        · rename_i c T hc
          rw [own_old hlt] at hc
          rw [h.fix a hlt]
          exact Nat.lt_of_lt_of_le (blk_lt (hB.read a _ _ _ hc).1) h0.size
        · cases ha
      · right
        obtain ⟨j, rfl⟩ : ∃ j, a = B.heap.size + j := ⟨a - B.heap.size, by omega⟩
        unfold plainB at ha
        split at ha
        · rename_i c T hc
          rw [own_new] at hc
          have hj : j < l.length := by
            rcases Nat.lt_or_ge j l.length with hj | hj
            · exact hj
            · rw [List.getElem?_eq_none hj] at hc; cases hc
          exact ⟨j, hj, rfl, h.new j hj⟩
        · cases ha
    rcases real a ha with ⟨h1, h2⟩ | ⟨i, hi, rfl, h2⟩
    · rcases real b hb with ⟨g1, g2⟩ | ⟨j, hj, rfl, g2⟩
      · rw [h.fix a h1, h.fix b g1] at e; exact e
      · omega
    · rcases real b hb with ⟨g1, g2⟩ | ⟨j, hj, rfl, g2⟩
      · omega
      · rw [h.inj i j hi hj e]
  intro d
  induction d with
  | int =>
    intro u u' v v' r hu hv hr
    cases hu <;> try (cases hr; done)
    cases hv <;> try (cases hr; done)
    exact hr
  | bool =>
    intro u u' v v' r hu hv hr
    cases hu <;> try (cases hr; done)
    cases hv <;> try (cases hr; done)
    exact hr
  | str =>
    intro u u' v v' r hu hv hr
    cases hu <;> try (cases hr; done)
    cases hv <;> try (cases hr; done)
    exact hr
  | nil =>
    intro u u' v v' r hu hv hr
    cases hu <;> try (cases hr; done)
    cases hv <;> try (cases hr; done)
    exact hr
  | ptr =>
    intro u u' v v' r hu hv hr
    cases hu <;> try (cases hr; done)
    · cases hv <;> try (cases hr; done)
      · exact hr
      · exact hr
    · rename_i b o s hb
      cases hv <;> try (cases hr; done)
      · exact hr
      · rename_i b' o' s' hb'
        simp only [Go.Eng.eqv, peqV] at hr ⊢
        by_cases e : b = b'
        · subst e
          rw [if_pos rfl] at hr ⊢
          rw [← hr]
          congr 1
          by_cases e2 : (⟨b, o, s⟩ : Addr) = ⟨b, o', s'⟩
          · cases e2; simp
          · have : (⟨σ b, o, s⟩ : Addr) ≠ ⟨σ b, o', s'⟩ := fun e3 => e2 (by cases e3; rfl)
            rw [beq_eq_false_iff_ne.2 this, beq_eq_false_iff_ne.2 e2]
        · rw [if_neg e] at hr
          split at hr
          · rename_i hp
            simp only [Bool.and_eq_true] at hp
            rw [if_neg (fun e2 => e (hdiff b b' hp.1 hp.2 e2)), if_pos (by simp [hplain b hp.1, hplain b' hp.2])]
            exact hr
          · cases hr
  | cons off sz d rest ih1 ih2 =>
    intro u u' v v' r hu hv hr
    cases hu with
    | agg xs ys h1 h2 =>
      cases hv with
      | agg xs' ys' g1 g2 =>
        simp only [Go.Eng.eqv] at hr ⊢
        cases e1 : partV sz off xs with
        | none => rw [e1] at hr; cases hr
        | some a =>
          cases e2 : partV sz off xs' with
          | none => rw [e1, e2] at hr; cases hr
          | some b =>
            obtain ⟨a', f1, f2⟩ := partV_vr ⟨h1, h2⟩ e1
            obtain ⟨b', f3, f4⟩ := partV_vr ⟨g1, g2⟩ e2
            rw [e1, e2] at hr
            rw [f1, f3]
            simp only at hr ⊢
            cases e3 : Go.Eng.eqv (ownW B l) d a b with
            | none => rw [e3] at hr; cases hr
            | some t =>
              rw [e3] at hr
              rw [ih1 f2 f4 e3]
              cases t with
              | true => exact ih2 (.agg _ _ h1 h2) (.agg _ _ g1 g2) hr
              | false => exact hr
      | _ => cases hr
    | _ => cases hr
theorem Sim.bstr (hB : Base w0 B) (h0 : Kept none' w0 wE) (h : Sim wE B l w σ) {u u' r : Value} (hu : VR (B.heap.size + l.length) σ u u') (hr : bstrv (ownW B l) u = some r) : bstrv w u' = some r ∧ VR (B.heap.size + l.length) σ r r := by
  cases hu with
  | snil n c =>
    simp only [bstrv, Option.some.injEq] at hr ⊢
    exact ⟨hr, by subst hr; constructor⟩
  | slice b o s n c hb =>
    cases s with
    | some s => cases hr
    | none =>
      simp only [bstrv, Option.bind_eq_some_iff, Option.map_eq_some_iff] at hr ⊢
      obtain ⟨a, ha, x, hx, rfl⟩ := hr
      obtain ⟨a', h1, h2⟩ := h.row hB h0 ha
      exact ⟨⟨a', h1, x, h2.bytes_in hx, rfl⟩, .string _⟩
  | _ => cases hr
theorem Sim.ldv (hB : Base w0 B) (h0 : Kept none' w0 wE) (h : Sim wE B l w σ) {sz : Option Nat} {u u' r : Value} (hu : VR (B.heap.size + l.length) σ u u') (hr : ldv (ownW B l) sz u = some r) : ∃ r', ldv w sz u' = some r' ∧ VR (B.heap.size + l.length) σ r r' := by
  cases hu with
  | ptr b o s hb =>
    cases s with
    | some s => cases hr
    | none =>
      cases sz with
      | none => exact h.cell hB h0 hr
      | some n =>
        simp only [Go.Eng.ldv, Option.map_eq_some_iff] at hr ⊢
        obtain ⟨a, ha, rfl⟩ := hr
        obtain ⟨a', h1, h2⟩ := h.row hB h0 ha
        exact ⟨_, ⟨a', h1, rfl⟩, .agg _ _ h2.1 h2.2⟩
  | _ => cases hr
theorem Sim.ev (hB : Base w0 B) (h0 : Kept none' w0 wE) (h : Sim wE B l w σ) (he : EnvR (B.heap.size + l.length) σ env env') : ∀ (e : Ex), e.Cl B.heap.size → ∀ {r : Value}, e.ev env (ownW B l) = some r → ∃ r', e.ev env' w = some r' ∧ VR (B.heap.size + l.length) σ r r' := by
  intro e
  induction e with
  | var i =>
    intro _ r hr
    simp only [Ex.ev, Option.bind_eq_some_iff] at hr ⊢
    obtain ⟨u, hu, hv⟩ := hr
    obtain ⟨v, h1, h2⟩ := he.at hu
    unfold varV at hv
    split at hv
    · cases hv
    · rename_i hn
      obtain rfl := Option.some.inj hv
      refine ⟨v, ⟨v, h1, ?_⟩, h2⟩
      unfold varV
      rw [if_neg]
      intro hc
      apply hn
      cases h2 with
      | tuple xs ys e1 _ =>
        simp only [isUndef, Array.isEmpty_iff_size_eq_zero] at hc ⊢
        omega
      | _ => exact hc
  | const v =>
    intro hc r hr
    simp only [Ex.ev, Option.some.injEq] at hr ⊢
    subst hr
    exact ⟨_, rfl, hc.vr (by omega) h.fix⟩
  | op1 o x ih =>
    intro hc r hr
    simp only [Ex.ev, Option.bind_eq_some_iff] at hr ⊢
    obtain ⟨u, hu, hv⟩ := hr
    obtain ⟨u', h1, h2⟩ := ih hc hu
    obtain ⟨r', h3, h4⟩ := u1_vr h2 hv
    exact ⟨r', ⟨u', h1, h3⟩, h4⟩
  | op2 o x y ih1 ih2 =>
    intro hc r hr
    simp only [Ex.ev, Option.bind_eq_some_iff] at hr ⊢
    obtain ⟨u, hu, v, hv, hz⟩ := hr
    obtain ⟨u', h1, h2⟩ := ih1 hc.1 hu
    obtain ⟨v', g1, g2⟩ := ih2 hc.2 hv
    obtain ⟨r', h3, h4⟩ := u2_vr h2 g2 hz
    exact ⟨r', ⟨u', h1, v', g1, h3⟩, h4⟩
  | op3 o x y z ih1 ih2 ih3 =>
    intro hc r hr
    simp only [Ex.ev, Option.bind_eq_some_iff] at hr ⊢
    obtain ⟨u, hu, v, hv, t, ht, hz⟩ := hr
    obtain ⟨u', h1, h2⟩ := ih1 hc.1 hu
    obtain ⟨v', g1, g2⟩ := ih2 hc.2.1 hv
    obtain ⟨t', f1, f2⟩ := ih3 hc.2.2 ht
    obtain ⟨r', h3, h4⟩ := u3_vr h2 g2 f2 hz
    exact ⟨r', ⟨u', h1, v', g1, t', f1, h3⟩, h4⟩
  | eqx ne d x y ih1 ih2 =>
    intro hc r hr
    simp only [Ex.ev, Option.bind_eq_some_iff, Option.map_eq_some_iff] at hr ⊢
    obtain ⟨u, hu, v, hv, t, ht, rfl⟩ := hr
    obtain ⟨u', h1, h2⟩ := ih1 hc.1 hu
    obtain ⟨v', g1, g2⟩ := ih2 hc.2 hv
    exact ⟨_, ⟨u', h1, v', g1, t, h.eqv hB h0 d h2 g2 ht, rfl⟩, .bool _⟩
  | pick c a b ih1 ih2 ih3 =>
    intro hc r hr
    simp only [Ex.ev, Option.bind_eq_some_iff] at hr ⊢
    obtain ⟨u, hu, hv⟩ := hr
    obtain ⟨u', h1, h2⟩ := ih1 hc.1 hu
    cases h2 with
    | bool t =>
      simp only [pickV] at hv
      cases t with
      | true =>
        rw [if_pos rfl] at hv
        obtain ⟨r', h3, h4⟩ := ih2 hc.2.1 hv
        exact ⟨r', ⟨_, h1, by simpa only [pickV, if_true] using h3⟩, h4⟩
      | false =>
        rw [if_neg (by decide)] at hv
        obtain ⟨r', h3, h4⟩ := ih3 hc.2.2 hv
        exact ⟨r', ⟨_, h1, by simpa [pickV] using h3⟩, h4⟩
    | _ => cases hv
  | ld sz x ih =>
    intro hc r hr
    simp only [Ex.ev, Option.bind_eq_some_iff] at hr ⊢
    obtain ⟨u, hu, hv⟩ := hr
    obtain ⟨u', h1, h2⟩ := ih hc hu
    obtain ⟨r', h3, h4⟩ := h.ldv hB h0 h2 hv
    exact ⟨r', ⟨u', h1, h3⟩, h4⟩
  | bstr x ih =>
    intro hc r hr
    simp only [Ex.ev, Option.bind_eq_some_iff] at hr ⊢
    obtain ⟨u, hu, hv⟩ := hr
    obtain ⟨u', h1, h2⟩ := ih hc hu
    obtain ⟨h3, h4⟩ := h.bstr hB h0 h2 hv
    exact ⟨r, ⟨u', h1, h3⟩, h4⟩
theorem Sim.evs (hB : Base w0 B) (h0 : Kept none' w0 wE) (h : Sim wE B l w σ) (he : EnvR (B.heap.size + l.length) σ env env') : ∀ (es : List Ex), (∀ e ∈ es, e.Cl B.heap.size) → ∀ {rs : List Value}, evs env (ownW B l) es = some rs →
    ∃ rs', evs env' w es = some rs' ∧ rs.length = rs'.length ∧ ∀ (i : Nat) u v, rs[i]? = some u → rs'[i]? = some v → VR (B.heap.size + l.length) σ u v := by
  intro es
  induction es with
  | nil =>
    intro _ rs hr
    simp only [Go.Eng.evs, Option.some.injEq] at hr ⊢
    subst hr
    exact ⟨[], rfl, rfl, fun i u v hu => by simp at hu⟩
  | cons e r ih =>
    intro hc rs hr
    simp only [Go.Eng.evs, Option.bind_eq_some_iff, Option.some.injEq] at hr ⊢
    obtain ⟨u, hu, us, hus, rfl⟩ := hr
    obtain ⟨u', h1, h2⟩ := h.ev hB h0 he e (hc e List.mem_cons_self) hu
    obtain ⟨us', h3, h4, h5⟩ := ih (fun e he => hc e (List.mem_cons_of_mem _ he)) hus
    refine ⟨_, ⟨u', h1, us', h3, rfl⟩, by simp [h4], fun i a b ha hb => ?_⟩
    cases i with
    | zero => simp at ha hb; subst ha; subst hb; exact h2
    | succ i => exact h5 i a b (by simpa using ha) (by simpa using hb)
theorem same_vals {M n : Nat} {σ : Nat → Nat} (hM : n ≤ M) (hσ : ∀ b, b < n → σ b = b) {rs rs' : List Value} (hl : rs.length = rs'.length) (h : ∀ (i : Nat) u v, rs[i]? = some u → rs'[i]? = some v → VR M σ u v) (hx : ∀ v ∈ rs, Ext n v) : rs' = rs := by
  apply List.ext_getElem?
  intro i
  rcases Nat.lt_or_ge i rs.length with hi | hi
  · have e1 := List.getElem?_eq_getElem hi
    have e2 := List.getElem?_eq_getElem (l := rs') (i := i) (by omega)
    rw [e1, e2]
    have h1 := h i _ _ e1 e2
    have h2 := (hx _ (List.getElem_mem hi)).vr hM hσ
    rw [VR.uniq h1 h2]
  · rw [List.getElem?_eq_none hi, List.getElem?_eq_none (by omega)]
theorem Sim.alloc (h0 : Base w0 B) (h : Sim wE B l w σ) {cs cs' : Array Value} (T : TypeId) (hv : VRs (B.heap.size + l.length) σ cs cs') :
    ∃ σ', σ' (B.heap.size + l.length) = w.heap.size ∧ (∀ b, b < B.heap.size + l.length → σ' b = σ b) ∧ Sim wE B (l ++ [(cs, T)]) (w.alloc (.cells cs' T)) σ' := by
  obtain ⟨σ', hnew, hsame⟩ : ∃ σ' : Nat → Nat, σ' (B.heap.size + l.length) = w.heap.size ∧ ∀ b, b < B.heap.size + l.length → σ' b = σ b :=
    ⟨fun b => if b = B.heap.size + l.length then w.heap.size else σ b, if_pos rfl, fun b hb => if_neg (by omega)⟩
  refine ⟨σ', hnew, hsame, ?_⟩
  have hlt : ∀ j, j < l.length → σ (B.heap.size + j) < w.heap.size := by
    intro j hj
    obtain ⟨c, h1, _⟩ := h.own j _ (List.getElem?_eq_getElem hj)
    exact blk_lt h1
  refine ⟨fun b hb => ?_, h.kept.alloc _, ?_, ?_, ?_⟩
  · rw [hsame b (by omega)]; exact h.fix b hb
  · intro j x hx
    rcases Nat.lt_or_ge j l.length with hj | hj
    · rw [List.getElem?_append_left hj] at hx
      obtain ⟨c, h1, h2⟩ := h.own j x hx
      rw [hsame _ (by omega)]
      exact ⟨c, hp_old h1 _, h2.mono (by simp) hsame⟩
    · rw [List.getElem?_append_right hj] at hx
      obtain ⟨e, rfl⟩ : j - l.length = 0 ∧ (cs, T) = x := by
        cases hk : j - l.length with
        | zero => rw [hk] at hx; simpa using hx
        | succ k => rw [hk] at hx; simp at hx
      have : j = l.length := by omega
      subst this
      rw [hnew]
      exact ⟨cs', hp_new _ _, hv.mono (by simp) hsame⟩
  · intro j hj
    simp only [List.length_append, List.length_singleton] at hj
    rcases Nat.lt_or_ge j l.length with hj' | hj'
    · rw [hsame _ (by omega)]; exact h.new j hj'
    · have : j = l.length := by omega
      subst this
      rw [hnew]
      exact h.kept.size
  · intro i j hi hj e
    simp only [List.length_append, List.length_singleton] at hi hj
    rcases Nat.lt_or_ge i l.length with hi' | hi'
    · rw [hsame (B.heap.size + i) (by omega)] at e
      rcases Nat.lt_or_ge j l.length with hj' | hj'
      · rw [hsame (B.heap.size + j) (by omega)] at e
        exact h.inj i j hi' hj' e
      · have : j = l.length := by omega
        subst this
        rw [hnew] at e
        have := hlt i hi'
        omega
    · have : i = l.length := by omega
      subst this
      rw [hnew] at e
      rcases Nat.lt_or_ge j l.length with hj' | hj'
      · rw [hsame (B.heap.size + j) (by omega)] at e
        have := hlt j hj'
        omega
      · omega
theorem Sim.store (h : Sim wE B l w σ) {n : Nat} {x x' v v' : Value} {l' : Own} (hx : VR (B.heap.size + l.length) σ x x') (hv : VR (B.heap.size + l.length) σ v v') (hs : ost B l n x v = some l') :
    ∃ w', stv w n x' v' = some w' ∧ Sim wE B l' w' σ ∧ l'.length = l.length := by
  unfold ost at hs
  split at hs
  · rename_i b off
    split at hs
    · rename_i hb
      split at hs
      · rename_i c T hl
        split at hs
        · rename_i hc
          obtain rfl := Option.some.inj hs
          cases hx with
          | ptr _ _ _ hbM =>
            obtain ⟨c', h1, h2⟩ := h.own _ _ hl
            have hbe : B.heap.size + (b - B.heap.size) = b := by omega
            rw [hbe] at h1
            have hvc := hv.cells
            have hjl : b - B.heap.size < l.length := by
              rcases Nat.lt_or_ge (b - B.heap.size) l.length with hj | hj
              · exact hj
              · rw [List.getElem?_eq_none hj] at hl; cases hl
            have hlt := blk_lt h1
            refine ⟨_, stv_of (n := n) (v := v') h1 (by rw [← hvc.1]; exact hc.1) (by rw [← h2.1, ← hc.1]; exact hc.2.1) (.inl (by simp)) (hvc.oneCells hc.2.2), ⟨h.fix, h.kept.put (fun h3 => ?_) _, ?_, ?_, ?_⟩, by simp⟩
            · have := h.new _ hjl
              rw [hbe] at this
              omega
            · intro j y hy
              simp only [List.length_set]
              rw [List.getElem?_set] at hy
              by_cases hj : b - B.heap.size = j
              · rw [if_pos hj, if_pos hjl] at hy
                obtain rfl := Option.some.inj hy
                subst hj
                rw [hbe]
                exact ⟨_, put_same hlt, h2.set_row hvc off⟩
              · rw [if_neg hj] at hy
                obtain ⟨c2, g1, g2⟩ := h.own j y hy
                have hjl' : j < l.length := by
                  rcases Nat.lt_or_ge j l.length with h | h
                  · exact h
                  · rw [List.getElem?_eq_none h] at hy; cases hy
                refine ⟨c2, ?_, g2⟩
                rw [put_other]
                · exact g1
                · intro e
                  apply hj
                  rw [← hbe] at e
                  exact (h.inj j _ hjl' hjl e).symm
            · intro j hj
              simp only [List.length_set] at hj
              exact h.new j hj
            · intro i j hi hj e
              simp only [List.length_set] at hi hj
              exact h.inj i j hi hj e
        · cases hs
      · cases hs
    · cases hs
  · cases hs
theorem cwp_wp (hB : Base w0 B) (h0 : Kept none' w0 wE) : ∀ (c : Cmd), c.Cl B.heap.size → ∀ {Q : Exit → Env → Own → Prop} {Q' : Exit → Env → World → Prop} {env env' : Env} {l : Own} {w : World} {σ : Nat → Nat},
    (∀ x env env' l w σ, Sim wE B l w σ → EnvR (B.heap.size + l.length) σ env env' → Q x env l → Q' x env' w) →
    Sim wE B l w σ → EnvR (B.heap.size + l.length) σ env env' → c.cwp P w0 B Q env l → c.wp P Q' env' w := by
  intro c
  induction c with
  | skip => intro _ Q Q' env env' l w σ hq hs he h; exact hq _ _ _ _ _ _ hs he h
  | chk es =>
    intro hc Q Q' env env' l w σ hq hs he h
    obtain ⟨a, ha, h⟩ := Ok_inv h
    obtain ⟨a', ha', _⟩ := hs.evs hB h0 he es hc ha
    simp only [Cmd.wp, ha', Ok_some]
    exact hq _ _ _ _ _ _ hs he h
  | set i e =>
    intro hc Q Q' env env' l w σ hq hs he h
    obtain ⟨a, ha, h⟩ := Ok_inv h
    obtain ⟨a', ha', hr⟩ := hs.ev hB h0 he e hc ha
    simp only [Cmd.wp, ha', Ok_some]
    exact hq _ _ _ _ _ _ hs (he.set i hr) h
  | clr is => intro _ Q Q' env env' l w σ hq hs he h; exact hq _ _ _ _ _ _ hs (he.clr is) h
  | draw =>
    intro _ Q Q' env env' l w σ hq hs he h
    exact hq _ _ _ _ w.drew σ ⟨hs.fix, hs.kept.drew, hs.own, hs.new, hs.inj⟩ he h
  | call dst f args st =>
    intro hc Q Q' env env' l w σ hq hs he h
    obtain ⟨vs, ha, h⟩ := Ok_inv h
    obtain ⟨x, hT, h⟩ := Ok_inv h
    obtain ⟨vs', ha', hl, hr⟩ := hs.evs hB h0 he args hc.1 ha
    have hcalm := T_calm hT
    have hfix : ∀ b, b < w0.heap.size → σ b = b := fun b hb => hs.fix b (Nat.lt_of_lt_of_le hb hB.le)
    have hsame := same_vals (by have := hB.le; omega) hfix hl hr hcalm.2.1
    subst hsame
    simp only [Cmd.wp, ha', Ok_some]
    refine (T_ret hT (h0.trans hs.kept)).mono fun v w' hv => ?_
    obtain ⟨rfl, hk⟩ := hv
    refine ⟨stab_calm hk, hq _ _ _ _ _ σ ⟨hs.fix, hs.kept.trans hk, fun j x hx => ?_, hs.new, hs.inj⟩ (he.setO dst (hcalm.2.2.1.vr (by have := hB.le; omega) hfix)) h⟩
    obtain ⟨c, h1, h2⟩ := hs.own j x hx
    exact ⟨c, hk.has h1 (fun h => h), h2⟩
  | dyn dst f args st => intro _ Q Q' env env' l w σ hq hs he h; exact h.elim
  | bi dst b ats ty args st => intro _ Q Q' env env' l w σ hq hs he h; exact h.elim
  | sem dst g args st => intro _ Q Q' env env' l w σ hq hs he h; exact h.elim
  | die => intro _ Q Q' env env' l w σ hq hs he h; exact h.elim
  | store n x v st =>
    intro hc Q Q' env env' l w σ hq hs he h
    obtain ⟨a, ha, h⟩ := Ok_inv h
    obtain ⟨b, hb, h⟩ := Ok_inv h
    obtain ⟨l', hl', h⟩ := Ok_inv h
    obtain ⟨a', ha', hra⟩ := hs.ev hB h0 he x hc.1 ha
    obtain ⟨b', hb', hrb⟩ := hs.ev hB h0 he v hc.2.1 hb
    obtain ⟨w', hw', hs', hll⟩ := hs.store hra hrb hl'
    have he' : EnvR (B.heap.size + l'.length) σ env env' := by rw [hll]; exact he
    simp only [Cmd.wp, ha', hb', hw', Ok_some]
    refine ⟨fun e hem u hu => ?_, hq _ _ _ _ _ _ hs' he' h.2⟩
    obtain ⟨z, hz1, hz2⟩ := h.1 e hem
    obtain ⟨z1, g1, g2⟩ := hs.ev hB h0 he e (hc.2.2 e hem) hz1
    obtain ⟨z2, g3, g4⟩ := hs'.ev hB h0 he' e (hc.2.2 e hem) hz2
    rw [hll] at g4
    rw [g1] at hu
    obtain rfl := Option.some.inj hu
    rw [g3, VR.uniq g2 g4]
  | new dst T e st =>
    intro hc Q Q' env env' l w σ hq hs he h
    obtain ⟨a, ha, h⟩ := Ok_inv h
    obtain ⟨a', ha', hr⟩ := hs.ev hB h0 he e hc ha
    obtain ⟨σ', g1, g2, g3⟩ := hs.alloc hB T hr.cells
    simp only [Cmd.wp, ha', Ok_some]
    refine hq _ _ _ _ _ σ' g3 ((he.mono (by simp) g2).setO dst ?_) h
    rw [← g1]
    exact .ptr _ _ _ (by simp)
  | row dst T n e st =>
    intro hc Q Q' env env' l w σ hq hs he h
    obtain ⟨a, ha, h⟩ := Ok_inv h
    obtain ⟨a', ha', hr⟩ := hs.ev hB h0 he e hc ha
    obtain ⟨σ', g1, g2, g3⟩ := hs.alloc hB T hr.cells
    simp only [Cmd.wp, ha', Ok_some]
    refine hq _ _ _ _ _ σ' g3 ((he.mono (by simp) g2).setO dst ?_) h
    rw [← g1]
    exact .slice _ _ _ _ _ (by simp)
  | seq a b iha ihb =>
    intro hc Q Q' env env' l w σ hq hs he h
    refine iha hc.1 (fun x env env' l w σ hs he h => ?_) hs he h
    cases x with
    | normal => exact ihb hc.2 hq hs he h
    | _ => exact hq _ _ _ _ _ _ hs he h
  | alt a b iha ihb =>
    intro hc Q Q' env env' l w σ hq hs he h
    exact ⟨iha hc.1 hq hs he h.1, ihb hc.2 hq hs he h.2⟩
  | cond e a b iha ihb =>
    intro hc Q Q' env env' l w σ hq hs he h
    obtain ⟨v, hv, h⟩ := Ok_inv h
    obtain ⟨v', hv', hr⟩ := hs.ev hB h0 he e hc.1 hv
    simp only [Cmd.wp, hv', Ok_some]
    cases hr with
    | bool t =>
      simp only [condTo] at h ⊢
      split at h
      · rename_i ht; rw [if_pos ht]; exact iha hc.2.1 hq hs he h
      · rename_i ht; rw [if_neg ht]; exact ihb hc.2.2 hq hs he h
    | _ => exact h.elim
  | block id a ih =>
    intro hc Q Q' env env' l w σ hq hs he h
    refine ih hc (fun x env env' l w σ hs he h => ?_) hs he h
    cases x with
    | exit id' =>
      simp only [blockTo] at h ⊢
      split at h
      · rename_i e; rw [if_pos e]; exact hq _ _ _ _ _ _ hs he h
      · rename_i e; rw [if_neg e]; exact hq _ _ _ _ _ _ hs he h
    | _ => exact hq _ _ _ _ _ _ hs he h
  | loop ks a ih =>
    intro hc Q Q' env env' l w σ hq hs he h
    obtain ⟨I, m, hI, hstep⟩ := h
    -- the measure's like is found by choice
    refine ⟨fun env' w => ∃ env l σ, Sim wE B l w σ ∧ EnvR (B.heap.size + l.length) σ env env' ∧ I env l, fun env' w => leastOf (fun k => ∃ env l σ, Sim wE B l w σ ∧ EnvR (B.heap.size + l.length) σ env env' ∧ I env l ∧ m env l = k), ⟨_, l, σ, hs, he.mask ks, hI⟩, ?_⟩
    rintro env1' w1 ⟨env0, l0, σ0, s0, r0, i0⟩
    obtain ⟨env1, l1, σ1, s1, r1, i1, hm1⟩ := leastOf_mem (p := fun k => ∃ env l σ, Sim wE B l w1 σ ∧ EnvR (B.heap.size + l.length) σ env env1' ∧ I env l ∧ m env l = k) ⟨_, env0, l0, σ0, s0, r0, i0, rfl⟩
    refine ih hc (fun x env env' l w σ hs he h => ?_) s1 r1 (hstep env1 l1 i1)
    cases x with
    | normal =>
      refine ⟨⟨_, l, σ, hs, he.mask ks, h.1⟩, ?_⟩
      refine Nat.lt_of_le_of_lt (leastOf_le ⟨_, l, σ, hs, he.mask ks, h.1, rfl⟩) ?_
      have h2 := h.2
      rw [hm1] at h2
      exact h2
    | _ => exact hq _ _ _ _ _ _ hs he h
  | exit id => intro _ Q Q' env env' l w σ hq hs he h; exact hq _ _ _ _ _ _ hs he h
  | ret => intro _ Q Q' env env' l w σ hq hs he h; exact hq _ _ _ _ _ _ hs he h
end
end Go.Eng
namespace Go.Eng
inductive ItO where
  | c (c : Cmd)
  | blk (id : Nat)
  | post (K : Env → Own → Prop)
def Cx (P : Program) (w0 B : World) (R : Env → Own → Prop) : List ItO → Exit → Env → Own → Prop
  | [], .normal => R
  | [], .ret => R
  | [], _ => fun _ _ => False
  | .c c :: k, .normal => c.cwp P w0 B (Cx P w0 B R k)
  | .c _ :: k, x => Cx P w0 B R k x
  | .blk _ :: k, .normal => Cx P w0 B R k .normal
  | .blk id :: k, .exit id' => if id' = id then Cx P w0 B R k .normal else Cx P w0 B R k (.exit id')
  | .blk _ :: k, x => Cx P w0 B R k x
  | .post K :: k, .normal => K
  | .post _ :: k, x => Cx P w0 B R k x
def C (P : Program) (w0 B : World) (R : Env → Own → Prop) (k : List ItO) (env : Env) (l : Own) : Prop := Cx P w0 B R k .normal env l
section
variable {P : Program} {w0 B : World} {R : Env → Own → Prop} {k : List ItO} {env : Env} {l : Own}
theorem Cx_ret : ∀ (k : List ItO), Cx P w0 B R k .ret = R
  | [] => rfl
  | .c _ :: k => Cx_ret k
  | .blk _ :: k => Cx_ret k
  | .post _ :: k => Cx_ret k
@[simp] theorem C_nil : C P w0 B R [] env l = R env l := hide rfl
@[simp] theorem C_blk (id : Nat) : C P w0 B R (.blk id :: k) env l = C P w0 B R k env l := hide rfl
@[simp] theorem C_post (K : Env → Own → Prop) : C P w0 B R (.post K :: k) env l = K env l := hide rfl
@[simp] theorem C_skip : C P w0 B R (.c .skip :: k) env l = C P w0 B R k env l := hide rfl
@[simp] theorem C_seq (a b : Cmd) : C P w0 B R (.c (.seq a b) :: k) env l = C P w0 B R (.c a :: .c b :: k) env l := by
  show a.cwp P w0 B _ env l = a.cwp P w0 B (Cx P w0 B R (.c b :: k)) env l
  congr 1
  funext x; cases x <;> rfl
@[simp] theorem C_block (id : Nat) (a : Cmd) : C P w0 B R (.c (.block id a) :: k) env l = C P w0 B R (.c a :: .blk id :: k) env l := by
  show a.cwp P w0 B _ env l = a.cwp P w0 B (Cx P w0 B R (.blk id :: k)) env l
  congr 1
  funext x; cases x <;> try rfl
  rename_i id'
  funext env l
  show (if id' = id then Cx P w0 B R k .normal env l else Cx P w0 B R k (.exit id') env l) = (if id' = id then Cx P w0 B R k .normal else Cx P w0 B R k (.exit id')) env l
  split <;> rfl
@[simp] theorem C_ret : C P w0 B R (.c .ret :: k) env l = R env l := by
  show Cx P w0 B R k .ret env l = _
  rw [Cx_ret]
@[simp] theorem C_exit (id : Nat) : C P w0 B R (.c (.exit id) :: k) env l = Cx P w0 B R k (.exit id) env l := hide rfl
@[simp] theorem Cx_exit_c (id : Nat) (c : Cmd) : Cx P w0 B R (.c c :: k) (.exit id) env l = Cx P w0 B R k (.exit id) env l := hide rfl
@[simp] theorem Cx_exit_post (id : Nat) (K : Env → Own → Prop) : Cx P w0 B R (.post K :: k) (.exit id) env l = Cx P w0 B R k (.exit id) env l := hide rfl
@[simp] theorem Cx_exit_blk (id id' : Nat) : Cx P w0 B R (.blk id :: k) (.exit id') env l = if id' = id then C P w0 B R k env l else Cx P w0 B R k (.exit id') env l := by
  show (if id' = id then Cx P w0 B R k .normal else Cx P w0 B R k (.exit id')) env l = _
  split <;> rfl
@[simp] theorem C_set (i : Nat) (e : Ex) : C P w0 B R (.c (.set i e) :: k) env l = Ok (e.ev env (ownW B l)) fun v => C P w0 B R k (env.set i v) l := hide rfl
@[simp] theorem C_chk (es : List Ex) : C P w0 B R (.c (.chk es) :: k) env l = Ok (evs env (ownW B l) es) fun _ => C P w0 B R k env l := hide rfl
@[simp] theorem C_clr (is : List Nat) : C P w0 B R (.c (.clr is) :: k) env l = C P w0 B R k (is.foldl (fun env i => env.set i undef) env) l := hide rfl
@[simp] theorem C_draw : C P w0 B R (.c .draw :: k) env l = C P w0 B R k env l := hide rfl
@[simp] theorem C_call (dst : Option Nat) (f : FuncId) (args st : List Ex) : C P w0 B R (.c (.call dst f args st) :: k) env l = Ok (evs env (ownW B l) args) fun vs => Ok (T P w0 f vs) fun v => C P w0 B R k (setO dst env v) l := hide rfl
@[simp] theorem C_store (n : Nat) (x v : Ex) (st : List Ex) : C P w0 B R (.c (.store n x v st) :: k) env l =
    Ok (x.ev env (ownW B l)) fun x => Ok (v.ev env (ownW B l)) fun v => Ok (ost B l n x v) fun l' => StabO st env (ownW B l) (ownW B l') ∧ C P w0 B R k env l' := hide rfl
@[simp] theorem C_new (dst : Option Nat) (T : TypeId) (e : Ex) (st : List Ex) : C P w0 B R (.c (.new dst T e st) :: k) env l =
    Ok (e.ev env (ownW B l)) fun v => C P w0 B R k (setO dst env (.pointer (some ⟨B.heap.size + l.length, 0, none⟩))) (l ++ [(v.cells, T)]) := hide rfl
@[simp] theorem C_row (dst : Option Nat) (T : TypeId) (n : Nat) (e : Ex) (st : List Ex) : C P w0 B R (.c (.row dst T n e st) :: k) env l =
    Ok (e.ev env (ownW B l)) fun v => C P w0 B R k (setO dst env (.slice (some ⟨B.heap.size + l.length, 0, none⟩) n n)) (l ++ [(v.cells, T)]) := hide rfl
theorem C_cond_eq (e : Ex) (a b : Cmd) : C P w0 B R (.c (.cond e a b) :: k) env l = Ok (e.ev env (ownW B l)) fun v => condTo v (C P w0 B R (.c a :: k) env l) (C P w0 B R (.c b :: k) env l) := hide rfl
theorem C_alt (a b : Cmd) : C P w0 B R (.c (.alt a b) :: k) env l = (C P w0 B R (.c a :: k) env l ∧ C P w0 B R (.c b :: k) env l) := hide rfl
end
def rowOf (c : Array Value) (off n : Nat) : Option (Array Value) := if off + n ≤ c.size then some (c.extract off (off + n)) else none
@[simp] theorem rowOf_all (c : Array Value) (n : Nat) (h : c.size = n) : rowOf c 0 n = some c := by subst h; simp [rowOf]
def ostC (c : Array Value) (n off : Nat) (v : Value) : Option (Array Value) := if v.cells.size = n ∧ off + v.cells.size ≤ c.size ∧ v.cells.all (·.oneCell') = true then some (setRow c off v.cells.toList) else none
@[simp] theorem ostC_all (c : Array Value) (n : Nat) (cs : Array Value) (h : c.size = n) (h1 : cs.size = n) (h2 : cs.all (·.oneCell') = true) : ostC c n 0 (.agg cs) = some cs := by
  have e : (Value.agg cs).cells = cs := rfl
  unfold ostC
  rw [e, if_pos ⟨h1, by omega, h2⟩, setRow_all (by simp; omega)]
@[simp] theorem oneCell_int (k : IntKind) (x : Int) : (Value.int k x).oneCell' = true := rfl
@[simp] theorem oneCell_bool (x : Bool) : (Value.bool x).oneCell' = true := rfl
@[simp] theorem oneCell_string (x : ByteArray) : (Value.string x).oneCell' = true := rfl
@[simp] theorem oneCell_ptr (x : Option Addr) : (Value.pointer x).oneCell' = true := rfl
@[simp] theorem oneCell_slice (x : Option Addr) (n c : Nat) : (Value.slice x n c).oneCell' = true := rfl
theorem ostC_one {c : Array Value} {off : Nat} {v : Value} (h : v.cells = #[v]) (h1 : v.oneCell' = true) (h2 : off < c.size) : ostC c 1 off v = some (c.setIfInBounds off v) := by
  unfold ostC
  rw [h, if_pos ⟨rfl, by show off + 1 ≤ c.size; omega, by simpa using h1⟩]
  rfl
@[simp] theorem ostC_int (c : Array Value) (off : Nat) (k : IntKind) (x : Int) (h2 : off < c.size) : ostC c 1 off (.int k x) = some (c.setIfInBounds off (.int k x)) := ostC_one rfl rfl h2
@[simp] theorem ostC_bool (c : Array Value) (off : Nat) (x : Bool) (h2 : off < c.size) : ostC c 1 off (.bool x) = some (c.setIfInBounds off (.bool x)) := ostC_one rfl rfl h2
@[simp] theorem ostC_string (c : Array Value) (off : Nat) (x : ByteArray) (h2 : off < c.size) : ostC c 1 off (.string x) = some (c.setIfInBounds off (.string x)) := ostC_one rfl rfl h2
section
variable (B : World) (l : Own)
@[simp] theorem own_cell (j off : Nat) : wcell (ownW B l) (B.heap.size + j) off = (l[j]?).bind fun x => x.1[off]? := by
  unfold wcell
  rw [own_new]
  cases l[j]? <;> rfl
@[simp] theorem own_cell0 (off : Nat) : wcell (ownW B l) B.heap.size off = (l[0]?).bind fun x => x.1[off]? := own_cell B l 0 off
@[simp] theorem own_row (j off n : Nat) : wrow (ownW B l) (B.heap.size + j) off n = (l[j]?).bind fun x => rowOf x.1 off n := by
  unfold wrow
  rw [own_new]
  cases l[j]? <;> rfl
@[simp] theorem own_row0 (off n : Nat) : wrow (ownW B l) B.heap.size off n = (l[0]?).bind fun x => rowOf x.1 off n := own_row B l 0 off n
@[simp] theorem ost_at (n j off : Nat) (v : Value) : ost B l n (.pointer (some ⟨B.heap.size + j, off, none⟩)) v = (l[j]?).bind fun x => (ostC x.1 n off v).map fun c => l.set j (c, x.2) := by
  simp only [ost, ostC]
  rw [if_pos (by omega), show B.heap.size + j - B.heap.size = j from by omega]
  cases l[j]? with
  | none => rfl
  | some x =>
    simp only [Option.bind_some]
    split <;> rfl
@[simp] theorem ost_at0 (n off : Nat) (v : Value) : ost B l n (.pointer (some ⟨B.heap.size, off, none⟩)) v = (l[0]?).bind fun x => (ostC x.1 n off v).map fun c => l.set 0 (c, x.2) := ost_at B l n 0 off v
@[simp] theorem stabO_nil (env : Env) (w w' : World) : StabO [] env w w' = True := eq_true fun e he => by cases he
@[simp] theorem stabO_cons (e : Ex) (es : List Ex) (env : Env) (w w' : World) : StabO (e :: es) env w w' = ((∃ v, e.ev env w = some v ∧ e.ev env w' = some v) ∧ StabO es env w w') := by
  simp [StabO]
theorem own_ext {w0 B : World} {l : Own} (hB : HeapLe w0 B) {b off : Nat} {v : Value} (h : wcell w0 b off = some v) : wcell (ownW B l) b off = some v := by
  have h1 := wcell_mono hB h
  have hb : b < B.heap.size := by
    unfold wcell at h1
    cases hc : B.heap[b]? with
    | none => rw [hc] at h1; cases h1
    | some o => exact blk_lt hc
  unfold wcell at h1 ⊢
  rw [own_old hb]
  exact h1
end
@[simp] theorem ext_int (n : Nat) (k : IntKind) (x : Int) : Ext n (.int k x) = True := eq_true (.int k x)
@[simp] theorem ext_bool (n : Nat) (x : Bool) : Ext n (.bool x) = True := eq_true (.bool x)
@[simp] theorem ext_string (n : Nat) (x : ByteArray) : Ext n (.string x) = True := eq_true (.string x)
@[simp] theorem ext_pnil (n : Nat) : Ext n (.pointer none) = True := eq_true .pnil
@[simp] theorem ext_snil (n a b : Nat) : Ext n (.slice none a b) = True := eq_true (.snil a b)
@[simp] theorem ext_ptr (n b o : Nat) (s : Option Nat) : Ext n (.pointer (some ⟨b, o, s⟩)) = (b < n) := propext ⟨fun h => by cases h; assumption, fun h => .ptr b o s h⟩
@[simp] theorem ext_slice (n b o : Nat) (s : Option Nat) (x y : Nat) : Ext n (.slice (some ⟨b, o, s⟩) x y) = (b < n) := propext ⟨fun h => by cases h; assumption, fun h => .slice b o s x y h⟩
@[simp] theorem ext_agg (n : Nat) (cs : Array Value) : Ext n (.agg cs) = ∀ x ∈ cs.toList, Ext n x := propext ⟨fun h x hx => by
    cases h with
    | agg _ _ _ h2 =>
      obtain ⟨i, hi⟩ := List.getElem?_of_mem hx
      rw [Array.getElem?_toList] at hi
      exact h2 i x x hi hi, fun h => .agg _ _ rfl (ext_pt h)⟩
@[simp] theorem ext_tuple (n : Nat) (cs : Array Value) : Ext n (.tuple cs) = ∀ x ∈ cs.toList, Ext n x := propext ⟨fun h x hx => by
    cases h with
    | tuple _ _ _ h2 =>
      obtain ⟨i, hi⟩ := List.getElem?_of_mem hx
      rw [Array.getElem?_toList] at hi
      exact h2 i x x hi hi, fun h => .tuple _ _ rfl (ext_pt h)⟩
theorem resV_vr {M : Nat} {σ : Nat → Nat} {rs rs' : List Value} (hl : rs.length = rs'.length) (h : ∀ (i : Nat) u v, rs[i]? = some u → rs'[i]? = some v → VR M σ u v) : VR M σ (resV rs) (resV rs') := by
  match rs, rs', hl with
  | [], [], _ => exact vr_undef
  | [u], [v], _ => exact h 0 u v rfl rfl
  | u :: u2 :: r, v :: v2 :: s, hl =>
    simp only [resV_two]
    exact .tuple _ _ (by simpa using hl) (fun i a b ha hb => h i a b (by simpa using ha) (by simpa using hb))
section
variable {P : Program} {w0 : World}
theorem T_of {V : List Nat} {f : FuncId} {fn : Func} {ks : List (List Nat)} {cmd : Cmd} {rs : List Ex} {args : List Value} {x : Value} (hi : P.inits.idxOf? f = none) (hf : P.funcs[f]? = some fn) (hn : Nat.ble args.length fn.ntmps = true)
    (hc : compile P fn V ks = some (cmd, rs)) (ha : ∀ v ∈ args, Ext w0.heap.size v) (hx : Ext w0.heap.size x)
    (h : ∀ B, HeapLe w0 B → C P w0 B (fun env l => Ok (evs env (ownW B l) rs) fun vs => resV vs = x) [.c cmd] (env0 V args) []) : T P w0 f args = some x := by
  refine T_eq ⟨hi, ha, hx, fun w hk => ?_⟩
  obtain ⟨n1, hn1⟩ := cmd.cl_ex
  obtain ⟨n2, hn2⟩ := exs_cl_ex rs
  obtain ⟨B, hB, hnB⟩ := base_ex w0 (max n1 n2)
  refine ret_of_cmd hf (Nat.le_of_ble_eq_true hn) hc ?_
  have hs : Sim w B [] w id := ⟨fun b _ => rfl, Kept.refl _ _, fun j x hx => by simp at hx, fun j hj => by simp at hj, fun i j hi => by simp at hi⟩
  have he : EnvR (B.heap.size + ([] : Own).length) id (env0 V args) (env0 V args) := by
    refine ⟨rfl, fun i u v hu hv => ?_⟩
    rw [hu] at hv
    obtain rfl := Option.some.inj hv
    simp only [env0, List.getElem?_map, Option.map_eq_some_iff] at hu
    obtain ⟨t, _, rfl⟩ := hu
    cases hat : args[t]? with
    | none => exact vr_undef
    | some z => exact (ha z (List.mem_of_getElem? hat)).vr (by have := hB.le; simp; omega) (fun _ _ => rfl)
  refine cwp_wp hB hk cmd (hn1.mono (by omega)) (fun y env env' l w' σ hs he hq => ?_) hs he (h B hB.has)
  have fin : (Ok (evs env (ownW B l) rs) fun vs => resV vs = x) → Ok (evs env' w' rs) fun vs => resV vs = x ∧ Kept none' w w' := by
    intro hq
    obtain ⟨vs, hv, hr⟩ := Ok_inv hq
    obtain ⟨vs', hv', hl, hp⟩ := hs.evs hB hk he rs (fun e he => (hn2 e he).mono (by omega)) hv
    rw [hv', Ok_some]
    refine ⟨?_, hs.kept⟩
    have h1 := resV_vr hl hp
    rw [hr] at h1
    exact VR.uniq h1 (hx.vr (by have := hB.le; omega) (fun b hb => hs.fix b (Nat.lt_of_lt_of_le hb hB.le)))
  cases y with
  | normal => exact fin hq
  | ret => exact fin hq
  | _ => exact hq.elim
theorem T_of_ret {f : FuncId} {args : List Value} {x : Value} (hi : P.inits.idxOf? f = none) (ha : ∀ v ∈ args, Ext w0.heap.size v) (hx : Ext w0.heap.size x) (h : ∀ w, Kept none' w0 w → Ret P f args w fun v w' => v = x ∧ Kept none' w w') : T P w0 f args = some x :=
  T_eq ⟨hi, ha, hx, h⟩
theorem ret_of_T {f : FuncId} {args : List Value} {x : Value} (h : T P w0 f args = some x) : Ret P f args w0 fun v w' => v = x ∧ Kept none' w0 w' := T_ret h (Kept.refl _ _)
end
end Go.Eng
