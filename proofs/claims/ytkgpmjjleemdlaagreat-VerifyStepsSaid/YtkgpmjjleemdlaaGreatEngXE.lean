/- Engine, part XE: values that are alike but for where own blocks lie and for what isn't known of slices that append made. -/
import Derived.Test.YtkgpmjjleemdlaaGreatEngXD
set_option linter.unusedSimpArgs false
set_option linter.unusedVariables false
set_option linter.unusedSectionVars false
namespace Go.Eng

/-- Where the interpreter's blocks lie in the world: which there are, where, how great. -/
structure Rho where
  D : Nat → Prop
  σ : Nat → Nat
  Z : Nat → Nat
structure Rho.Le (ρ ρ' : Rho) : Prop where
  D : ∀ b, ρ.D b → ρ'.D b
  σ : ∀ b, ρ.D b → ρ'.σ b = ρ.σ b
  Z : ∀ b, ρ.D b → ρ'.Z b = ρ.Z b
theorem Rho.Le.refl (ρ : Rho) : ρ.Le ρ := ⟨fun _ h => h, fun _ _ => rfl, fun _ _ => rfl⟩
theorem Rho.Le.trans {a b c : Rho} (h : a.Le b) (g : b.Le c) : a.Le c := ⟨fun x hx => g.D x (h.D x hx), fun x hx => (g.σ x (h.D x hx)).trans (h.σ x hx), fun x hx => (g.Z x (h.D x hx)).trans (h.Z x hx)⟩

theorem capU_eq : capU = 1099511627776 * 4194304 := by decide
theorem capS_lt (c : Nat) : capS c < 1099511627776 := Nat.mod_lt _ (by decide)
theorem capN_gen (c s M B : Nat) : Nat.add (Nat.add c s) (Nat.mul M B) = c + s + M * B := rfl
theorem capN_eq (sz B : Nat) : capN sz B = capU + sz + 1099511627776 * B := capN_gen capU sz 1099511627776 B
theorem capN_ge (sz B : Nat) : capU ≤ capN sz B := by rw [capN_eq]; exact Nat.le_trans (Nat.le_add_right _ _) (Nat.le_add_right (capU + sz) _)
theorem capS_add {sz B : Nat} (h : sz < 1099511627776) : capS (capN sz B) = sz := by
  rw [capN_eq, capU_eq]
  show (1099511627776 * 4194304 + sz + 1099511627776 * B) % 1099511627776 = sz
  rw [Nat.add_mul_mod_self_left, Nat.mul_add_mod, Nat.mod_eq_of_lt h]
theorem capB_add {sz B : Nat} (h : sz < 1099511627776) : capB (capN sz B) ≤ B := by
  rw [capN_eq, capU_eq]
  show (1099511627776 * 4194304 + sz + 1099511627776 * B) / 1099511627776 % 4194304 ≤ B
  rw [Nat.add_mul_div_left _ _ (by decide), Nat.mul_add_div (by decide), Nat.div_eq_of_lt h, Nat.add_zero, Nat.add_mod_left]
  exact Nat.mod_le _ _
theorem capN_zero (sz : Nat) : capN sz 0 = capU + sz := by rw [capN_eq, Nat.mul_zero, Nat.add_zero]
theorem capS_new {sz : Nat} (h : sz < 1099511627776) : capS (capU + sz) = sz := by rw [← capN_zero]; exact capS_add h
theorem capB_new {sz : Nat} (h : sz < 1099511627776) : capB (capU + sz) = 0 := by rw [← capN_zero]; exact Nat.le_zero.1 (capB_add h)
variable [Sy]
inductive VQ (ρ : Rho) : Value → Value → Prop
  | sym (j : Nat) : VQ ρ (.chan (some j)) (Sy.θ j)
  | bool (b : Bool) : VQ ρ (.bool b) (.bool b)
  | int (k : IntKind) (n : Int) : VQ ρ (.int k n) (.int k n)
  | float (k : FloatKind) (n : Nat) : VQ ρ (.float k n) (.float k n)
  | complex (k : FloatKind) (n m : Nat) : VQ ρ (.complex k n m) (.complex k n m)
  | string (s : ByteArray) : VQ ρ (.string s) (.string s)
  | pnil : VQ ρ (.pointer none) (.pointer none)
  | ptr (b o : Nat) (s : Option Nat) : ρ.D b → VQ ρ (.pointer (some ⟨b, o, s⟩)) (.pointer (some ⟨ρ.σ b, o, s⟩))
  | snil (n c : Nat) : VQ ρ (.slice none n c) (.slice none n c)
  | slice (b o : Nat) (s : Option Nat) (n c : Nat) : ρ.D b → c < capU → VQ ρ (.slice (some ⟨b, o, s⟩) n c) (.slice (some ⟨ρ.σ b, o, s⟩) n c)
  | sliceU (b o o' n c c' : Nat) : ρ.D b → capU ≤ c → n ≤ c' → c' ≤ maxLen → (o = o' ∨ (capU ≤ o ∧ n = 0)) → (o = 0 → o' = 0 ∧ ρ.Z b = c' * capS c ∧ capB c ≤ c') → VQ ρ (.slice (some ⟨b, o, none⟩) n c) (.slice (some ⟨ρ.σ b, o', none⟩) n c')
  | mnil : VQ ρ (.map none) (.map none)
  | map (b : Nat) : ρ.D b → VQ ρ (.map (some b)) (.map (some (ρ.σ b)))
  | cnil : VQ ρ (.chan none) (.chan none)
  | nilFunc : VQ ρ .nilFunc .nilFunc
  | func (f : Fn) (xs ys xs' ys' : Array Value) : xs.size = xs'.size → (∀ (i : Nat) u v, xs[i]? = some u → xs'[i]? = some v → VQ ρ u v) → ys.size = ys'.size → (∀ (i : Nat) u v, ys[i]? = some u → ys'[i]? = some v → VQ ρ u v) → VQ ρ (.func f xs ys) (.func f xs' ys')
  | nilIface : VQ ρ .nilIface .nilIface
  | iface (t : TypeId) (u v : Value) : VQ ρ u v → VQ ρ (.iface t u) (.iface t v)
  | agg (xs ys : Array Value) : xs.size = ys.size → (∀ (i : Nat) u v, xs[i]? = some u → ys[i]? = some v → VQ ρ u v) → VQ ρ (.agg xs) (.agg ys)
  | tuple (xs ys : Array Value) : xs.size = ys.size → (∀ (i : Nat) u v, xs[i]? = some u → ys[i]? = some v → VQ ρ u v) → VQ ρ (.tuple xs) (.tuple ys)

def VQs (ρ : Rho) (xs ys : Array Value) : Prop := xs.size = ys.size ∧ ∀ (i : Nat) u v, xs[i]? = some u → ys[i]? = some v → VQ ρ u v

theorem VQ.mono {ρ ρ' : Rho} {u v : Value} (hr : ρ.Le ρ') (h : VQ ρ u v) : VQ ρ' u v := by
  induction h with
  | ptr b o s hb => rw [← hr.σ b hb]; exact .ptr b o s (hr.D b hb)
  | slice b o s n c hb hc => rw [← hr.σ b hb]; exact .slice b o s n c (hr.D b hb) hc
  | sliceU b o o' n c c' hb h1 h2 h3 h4 h5 => rw [← hr.σ b hb]; exact .sliceU b o o' n c c' (hr.D b hb) h1 h2 h3 h4 (by rw [hr.Z b hb]; exact h5)
  | map b hb => rw [← hr.σ b hb]; exact .map b (hr.D b hb)
  | func f xs ys xs' ys' h1 _ h3 _ ih1 ih2 => exact .func _ _ _ _ _ h1 ih1 h3 ih2
  | iface t u w _ ih => exact .iface _ _ _ ih
  | agg xs ys h1 _ ih => exact .agg _ _ h1 ih
  | tuple xs ys h1 _ ih => exact .tuple _ _ h1 ih
  | _ => constructor
theorem VQs.mono {ρ ρ' : Rho} {xs ys : Array Value} (hr : ρ.Le ρ') (h : VQs ρ xs ys) : VQs ρ' xs ys := ⟨h.1, fun i u v h1 h2 => (h.2 i u v h1 h2).mono hr⟩

section
variable {ρ : Rho}

theorem VQs.at {xs ys : Array Value} (h : VQs ρ xs ys) {i : Nat} {u : Value} (hu : xs[i]? = some u) : ∃ v, ys[i]? = some v ∧ VQ ρ u v := by
  have hi : i < ys.size := by
    have := (Array.getElem?_eq_some_iff.1 hu).1
    have := h.1; omega
  exact ⟨_, Array.getElem?_eq_getElem hi, h.2 i _ _ hu (Array.getElem?_eq_getElem hi)⟩
theorem VQs.extract {xs ys : Array Value} (h : VQs ρ xs ys) (a b : Nat) : VQs ρ (xs.extract a b) (ys.extract a b) := by
  refine ⟨by simp [h.1], fun i u v hu hv => ?_⟩
  rw [Array.getElem?_extract] at hu hv
  split at hu
  · split at hv
    · exact h.2 _ _ _ hu hv
    · cases hv
  · cases hu
theorem VQs.push {xs ys : Array Value} (h : VQs ρ xs ys) {u v : Value} (hv : VQ ρ u v) : VQs ρ (xs.push u) (ys.push v) := by
  refine ⟨by simp [h.1], fun i a b ha hb => ?_⟩
  rw [Array.getElem?_push] at ha hb
  by_cases hi : i = xs.size
  · rw [if_pos hi] at ha
    rw [if_pos (by rw [hi, h.1])] at hb
    obtain rfl := Option.some.inj ha
    obtain rfl := Option.some.inj hb
    exact hv
  · rw [if_neg hi] at ha
    rw [if_neg (by rw [← h.1]; exact hi)] at hb
    exact h.2 _ _ _ ha hb
theorem VQs.one {u v : Value} (h : VQ ρ u v) : VQs ρ #[u] #[v] := by
  refine ⟨rfl, fun i a b ha hb => ?_⟩
  cases i with
  | zero => simp at ha hb; subst ha; subst hb; exact h
  | succ i => simp at ha
theorem VQ.cells {u v : Value} (h : VQ ρ u v) : VQs ρ u.cells v.cells := by
  cases h with
  | sym j =>
    have hp := Sy.plain j
    have : (Sy.θ j).cells = #[Sy.θ j] := by
      cases e : Sy.θ j <;> rw [e] at hp <;> first | rfl | (cases hp; done)
    rw [this]
    exact VQs.one (.sym j)
  | agg xs ys h1 h2 => exact ⟨h1, h2⟩
  | _ => exact VQs.one (by constructor <;> assumption)
theorem VQ.oneCell {u v : Value} (h : VQ ρ u v) : v.oneCell' = u.oneCell' := by
  cases h with
  | sym j =>
    have hp := Sy.plain j
    cases e : Sy.θ j <;> rw [e] at hp <;> first | rfl | (cases hp; done)
  | _ => rfl
theorem VQs.oneCells {xs ys : Array Value} (h : VQs ρ xs ys) (h1 : xs.all (·.oneCell') = true) : ys.all (·.oneCell') = true := by
  rw [Array.all_eq_true] at h1 ⊢
  intro i hi
  have hi' : i < xs.size := by have := h.1; omega
  have := (h.2 i _ _ (Array.getElem?_eq_getElem hi') (Array.getElem?_eq_getElem hi)).oneCell
  rw [this]
  exact h1 i hi'
theorem VQs.set_row {xs ys us vs : Array Value} (h : VQs ρ xs ys) (hv : VQs ρ us vs) (off : Nat) : VQs ρ (setRow xs off us.toList) (setRow ys off vs.toList) := by
  refine ⟨by rw [setRow_size, setRow_size]; exact h.1, fun i a b ha hb => ?_⟩
  rw [setRow_eq] at ha hb
  simp only [Array.length_toList, Array.getElem?_toList] at ha hb
  have e1 := h.1
  have e2 := hv.1
  by_cases hi : off ≤ i ∧ i < off + us.size ∧ i < xs.size
  · rw [if_pos hi] at ha
    rw [if_pos (by omega)] at hb
    exact hv.2 _ _ _ ha hb
  · rw [if_neg hi] at ha
    rw [if_neg (by omega)] at hb
    exact h.2 _ _ _ ha hb
theorem VQs.bytes_in {xs ys : Array Value} (h : VQs ρ xs ys) {l : List UInt8} (hl : bytesIn xs.toList = some l) : Go.Eng.bytesIn ys.toList = some l := by
  obtain ⟨xs⟩ := xs
  obtain ⟨ys⟩ := ys
  obtain ⟨h1, h2⟩ := h
  simp only [List.size_toArray, List.getElem?_toArray] at h1 h2 hl ⊢
  induction xs generalizing ys l with
  | nil =>
    cases ys with
    | nil => exact hl
    | cons b r => simp at h1
  | cons a r ih =>
    cases ys with
    | nil => simp at h1
    | cons b s =>
      have h0 := h2 0 a b rfl rfl
      cases h0 with
      | int k n =>
        cases k <;> first | (simp only [Go.Eng.bytesIn] at hl; cases hl; done) | skip
        simp only [Go.Eng.bytesIn, Option.map_eq_some_iff] at hl ⊢
        obtain ⟨l', hl', rfl⟩ := hl
        exact ⟨l', ih hl' s (by simpa using h1) (fun i u v hu hv => h2 (i + 1) u v (by simpa using hu) (by simpa using hv)), rfl⟩
      | _ => simp only [Go.Eng.bytesIn] at hl; cases hl

theorem partV_vq {sz : Option Nat} {off : Nat} {xs ys : Array Value} (h : VQs ρ xs ys) {r : Value} (hr : partV sz off xs = some r) : ∃ r', partV sz off ys = some r' ∧ VQ ρ r r' := by
  cases sz with
  | none => exact h.at hr
  | some n =>
    simp only [partV, Option.some.injEq] at hr ⊢
    subst hr
    exact ⟨_, rfl, .agg _ _ (h.extract _ _).1 (h.extract _ _).2⟩

theorem u1_vq {o : U1} {u u' r : Value} (h : VQ ρ u u') (hr : o.ap u = some r) : ∃ r', o.ap u' = some r' ∧ VQ ρ r r' := by
  cases o with
  | isnil k ne => cases h <;> simp only [U1.ap, nilV] at hr ⊢ <;> first | (split at hr <;> first | (simp only [Option.some.injEq] at hr; subst hr; simp_all; constructor) | cases hr) | (simp only [Option.some.injEq] at hr; subst hr; exact ⟨_, rfl, .bool _⟩) | cases hr
  | un op =>
    cases h <;> simp only [U1.ap, unV] at hr ⊢ <;> try (cases hr; done)
    all_goals (split at hr <;> first | (simp only [Option.some.injEq] at hr; subst hr; first | exact ⟨_, rfl, .int _ _⟩ | exact ⟨_, rfl, .bool _⟩) | cases hr)
  | conv k => cases h <;> simp only [U1.ap, convV] at hr ⊢ <;> first | (simp only [Option.some.injEq] at hr; subst hr; exact ⟨_, rfl, .int _ _⟩) | cases hr
  | cstr => cases h <;> simp only [U1.ap, cstrV] at hr ⊢ <;> first | (simp only [Option.some.injEq] at hr; subst hr; exact ⟨_, rfl, .string _⟩) | cases hr
  | proj i =>
    cases h with
    | tuple xs ys h1 h2 => exact VQs.at ⟨h1, h2⟩ hr
    | _ => cases hr
  | part sz off =>
    cases h with
    | agg xs ys h1 h2 => exact partV_vq ⟨h1, h2⟩ hr
    | _ => cases hr
  | offp k =>
    cases h with
    | ptr b o s hb =>
      cases s with
      | none => simp only [U1.ap, offpV, Option.some.injEq] at hr ⊢; subst hr; exact ⟨_, rfl, .ptr _ _ _ hb⟩
      | some s => cases hr
    | _ => cases hr
  | nn =>
    cases h with
    | ptr b o s hb => simp only [U1.ap, nnV, Option.some.injEq] at hr ⊢; subst hr; exact ⟨_, rfl, .ptr _ _ _ hb⟩
    | func f xs ys xs' ys' h1 h2 h3 h4 =>
      cases f with
      | func g => simp only [U1.ap, nnV, Option.some.injEq] at hr ⊢; subst hr; exact ⟨_, rfl, .func _ _ _ _ _ h1 h2 h3 h4⟩
      | _ => cases hr
    | _ => cases hr
  | len str => cases str <;> cases h <;> simp [U1.ap, lenV] at hr ⊢ <;> (subst hr; constructor)
  | mkif t => simp only [U1.ap, Option.some.injEq] at hr ⊢; subst hr; exact ⟨_, rfl, .iface _ _ _ h⟩
  | s2a n =>
    cases h with
    | slice b o s len c hb hc =>
      simp only [U1.ap, s2aV] at hr ⊢
      split at hr
      · rename_i hc; rw [if_pos hc]; simp only [Option.some.injEq] at hr; subst hr; exact ⟨_, rfl, .ptr _ _ _ hb⟩
      · cases hr
    | sliceU b o o' len c c' hb h1 h2 h3 h4 h5 =>
      simp only [U1.ap, s2aV] at hr ⊢
      split at hr
      · rename_i hc
        rw [if_pos hc]
        simp only [Option.some.injEq] at hr
        subst hr
        have e : o = o' := by
          rcases h4 with h4 | h4
          · exact h4
          · omega
        subst e
        exact ⟨_, rfl, .ptr _ _ _ hb⟩
      · cases hr
    | _ => cases hr

theorem vq_int_r {k : IntKind} {n : Int} {v : Value} (h : VQ ρ (.int k n) v) : v = .int k n := by cases h; rfl
theorem vq_string_r {s : ByteArray} {v : Value} (h : VQ ρ (.string s) v) : v = .string s := by cases h; rfl
theorem vq_bool_r {b : Bool} {v : Value} (h : VQ ρ (.bool b) v) : v = .bool b := by cases h; rfl

theorem intBin_vq {op : BinOp} {k k' : IntKind} {a b : Int} {r : Value} (hr : intBin op k a k' b = some r) : VQ ρ r r := by
  cases op <;> simp only [intBin] at hr <;> first | (split at hr <;> first | (cases hr; done) | (simp only [Option.some.injEq] at hr; subst hr; constructor)) | (simp only [Option.some.injEq] at hr; subst hr; constructor)
theorem strBin_vq {op : BinOp} {a b : ByteArray} {r : Value} (hr : strBin op a b = some r) : VQ ρ r r := by
  cases op <;> simp only [strBin] at hr <;> first | (split at hr <;> first | (cases hr; done) | (simp only [Option.some.injEq] at hr; subst hr; constructor)) | (simp only [Option.some.injEq] at hr; subst hr; constructor) | (cases hr; done)

theorem u2_vq {o : U2} {u u' v v' r : Value} (h : VQ ρ u u') (g : VQ ρ v v') (hr : o.ap u v = some r) : ∃ r', o.ap u' v' = some r' ∧ VQ ρ r r' := by
  cases o with
  | bin op =>
    cases h with
    | int k n =>
      cases g with
      | int k' n' => exact ⟨r, hr, intBin_vq hr⟩
      | _ => cases hr
    | string s =>
      cases g with
      | string s' => exact ⟨r, hr, strBin_vq hr⟩
      | _ => cases hr
    | _ => cases hr
  | idxAgg sz esz n =>
    cases h with
    | agg xs ys h1 h2 =>
      cases g with
      | int k i =>
        simp only [U2.ap, idxAggV] at hr ⊢
        split at hr
        · rename_i hi; rw [if_pos hi]; exact partV_vq ⟨h1, h2⟩ hr
        · cases hr
      | _ => cases hr
    | _ => cases hr
  | idxStr =>
    cases h with
    | string s =>
      cases g with
      | int k i =>
        refine ⟨r, hr, ?_⟩
        simp only [U2.ap, idxStrV] at hr
        split at hr
        · simp only [Option.map_eq_some_iff] at hr
          obtain ⟨b, _, rfl⟩ := hr
          constructor
        · cases hr
      | _ => cases hr
    | _ => cases hr
  | ixArr n esz =>
    cases h with
    | ptr b o s hb =>
      cases s with
      | some s => cases g <;> cases hr
      | none =>
        cases g with
        | int k i =>
          simp only [U2.ap, ixArrV] at hr ⊢
          split at hr
          · rename_i hi; rw [if_pos hi]; simp only [Option.some.injEq] at hr; subst hr; exact ⟨_, rfl, .ptr _ _ _ hb⟩
          · cases hr
        | _ => cases hr
    | _ => cases hr
  | ixSl esz =>
    cases h with
    | slice b o s n c hb hc =>
      cases s with
      | some s => cases g <;> cases hr
      | none =>
        cases g with
        | int k i =>
          simp only [U2.ap, ixSlV] at hr ⊢
          split at hr
          · rename_i hi; rw [if_pos hi]; simp only [Option.some.injEq] at hr; subst hr; exact ⟨_, rfl, .ptr _ _ _ hb⟩
          · cases hr
        | _ => cases hr
    | sliceU b o o' n c c' hb h1 h2 h3 h4 h5 =>
      cases g with
      | int k i =>
        simp only [U2.ap, ixSlV] at hr ⊢
        split at hr
        · rename_i hi
          rw [if_pos hi]
          simp only [Option.some.injEq] at hr
          subst hr
          have e : o = o' := by
            rcases h4 with h4 | h4
            · exact h4
            · omega
          subst e
          exact ⟨_, rfl, .ptr _ _ _ hb⟩
        · cases hr
      | _ => cases hr
    | _ => cases hr
  | upd off sz =>
    cases h with
    | agg xs ys h1 h2 =>
      have gc := g.cells
      simp only [U2.ap, updV] at hr ⊢
      split at hr
      · rename_i hi
        rw [if_pos (by rw [← gc.1, ← h1]; exact hi)]
        simp only [Option.some.injEq] at hr
        subst hr
        have := VQs.set_row ⟨h1, h2⟩ gc off
        exact ⟨_, rfl, .agg _ _ this.1 this.2⟩
      · cases hr
    | _ => cases hr
  | fst1 =>
    cases h with
    | func f xs ys xs' ys' h1 h2 h3 h4 =>
      simp only [U2.ap, fst1V, Option.some.injEq] at hr ⊢
      subst hr
      have := VQs.push ⟨h1, h2⟩ g
      exact ⟨_, rfl, .func _ _ _ _ _ this.1 this.2 h3 h4⟩
    | _ => cases hr
  | cap1 =>
    cases h with
    | func f xs ys xs' ys' h1 h2 h3 h4 =>
      simp only [U2.ap, cap1V, Option.some.injEq] at hr ⊢
      subst hr
      have := VQs.push ⟨h3, h4⟩ g
      exact ⟨_, rfl, .func _ _ _ _ _ h1 h2 this.1 this.2⟩
    | _ => cases hr
  | mn =>
    cases h with
    | int k n =>
      cases g with
      | int k' n' => exact ⟨r, hr, by simp only [U2.ap, mnV, Option.some.injEq] at hr; subst hr; constructor⟩
      | _ => cases hr
    | _ => cases hr
  | mx =>
    cases h with
    | int k n =>
      cases g with
      | int k' n' => exact ⟨r, hr, by simp only [U2.ap, mxV, Option.some.injEq] at hr; subst hr; constructor⟩
      | _ => cases hr
    | _ => cases hr

theorem slArr_vq {n esz : Nat} {u u' v v' z z' r : Value} (hn : n < capU) (h : VQ ρ u u') (g : VQ ρ v v') (f : VQ ρ z z') (hr : slArrV n esz u v z = some r) : ∃ r', slArrV n esz u' v' z' = some r' ∧ VQ ρ r r' := by
  cases h with
  | ptr b o s hb =>
    cases s with
    | some s => cases g <;> cases f <;> cases hr
    | none =>
      cases g with
      | int k i =>
        cases f with
        | int k' j =>
          simp only [slArrV] at hr ⊢
          split at hr
          · rename_i hi
            rw [if_pos hi]
            simp only [Option.some.injEq] at hr
            subst hr
            refine ⟨_, rfl, ?_⟩
            split <;> exact .slice _ _ _ _ _ hb (by omega)
          · cases hr
        | _ => cases hr
      | _ => cases hr
  | _ => cases hr
theorem slSl_vq {esz : Nat} {b o : Nat} {s : Option Nat} {n c : Nat} {u' v v' z z' r : Value} (hc : c < capU) (h : VQ ρ (.slice (some ⟨b, o, s⟩) n c) u') (g : VQ ρ v v') (f : VQ ρ z z') (hr : slSlV esz (.slice (some ⟨b, o, s⟩) n c) v z = some r) : ∃ r', slSlV esz u' v' z' = some r' ∧ VQ ρ r r' := by
  cases h with
  | slice b o s n c hb _ =>
    cases g with
    | int k i =>
      cases f with
      | int k' j =>
        simp only [slSlV] at hr ⊢
        split at hr
        · rename_i hi
          rw [if_pos hi]
          simp only [Option.some.injEq] at hr
          subst hr
          refine ⟨_, rfl, ?_⟩
          split
          · exact .slice _ _ _ _ _ hb (by omega)
          · have e : ∀ (b : Nat), (⟨b, o, s⟩ : Addr).add (i.toNat * esz) = ⟨b, ((⟨0, o, s⟩ : Addr).add (i.toNat * esz)).off, ((⟨0, o, s⟩ : Addr).add (i.toNat * esz)).spot⟩ := fun b => by unfold Addr.add; split <;> rfl
            rw [e b, e (ρ.σ b)]
            exact .slice _ _ _ _ _ hb (by omega)
        · cases hr
      | _ => cases hr
    | _ => cases hr
  | sliceU => omega
theorem slNil_vq {esz : Nat} {n c : Nat} {u' v v' z z' r : Value} (h : VQ ρ (.slice none n c) u') (g : VQ ρ v v') (f : VQ ρ z z') (hr : slSlV esz (.slice none n c) v z = some r) : ∃ r', slSlV esz u' v' z' = some r' ∧ VQ ρ r r' := by
  cases h with
  | snil n c =>
    cases g with
    | int k i =>
      cases f with
      | int k' j =>
        simp only [slSlV] at hr ⊢
        split at hr
        · rename_i hi
          rw [if_pos hi]
          simp only [Option.some.injEq] at hr
          subst hr
          exact ⟨_, rfl, .snil _ _⟩
        · cases hr
      | _ => cases hr
    | _ => cases hr
theorem slStr_vq {u u' v v' z z' r : Value} (h : VQ ρ u u') (g : VQ ρ v v') (f : VQ ρ z z') (hr : slStrV u v z = some r) : ∃ r', slStrV u' v' z' = some r' ∧ VQ ρ r r' := by
  cases h with
  | string s =>
    cases g with
    | int k i =>
      cases f with
      | int k' j =>
        refine ⟨r, hr, ?_⟩
        simp only [slStrV] at hr
        split at hr
        · simp only [Option.some.injEq] at hr; subst hr; constructor
        · cases hr
      | _ => cases hr
    | _ => cases hr
  | _ => cases hr
end
end Go.Eng
