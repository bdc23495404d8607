/- Engine, part XF: the interpreter's operations are those of the engine. -/
import Derived.Test.YtkgpmjjleemdlaaGreatEngXE
set_option linter.unusedSimpArgs false
set_option linter.unusedVariables false
set_option linter.unusedSectionVars false
namespace Go.Eng
variable [Sy]

theorem brec_some {α : Type} {b : Bool} {x : Option α} {r : α} (h : (Bool.rec none x b : Option α) = some r) : b = true ∧ x = some r := by
  cases b
  · cases h
  · exact ⟨rfl, h⟩
theorem brec_none {α : Type} {b : Bool} {x : Option α} {r : α} (h : (Bool.rec x none b : Option α) = some r) : b = false ∧ x = some r := by
  cases b
  · exact ⟨rfl, h⟩
  · cases h
theorem blt_true {a b : Nat} (h : Nat.blt a b = true) : a < b := Nat.le_of_ble_eq_true h
theorem blt_false {a b : Nat} (h : Nat.blt a b = false) : b ≤ a := by
  rcases Nat.lt_or_ge a b with g | g
  · exact absurd (Nat.ble_eq_true_of_le g) (by rw [show Nat.ble (a + 1) b = Nat.blt a b from rfl, h]; decide)
  · exact g
theorem xpart_some {sz : Option Nat} {off : Nat} {l : List Value} {r : Value} (h : xpart sz off l = some r) : partV sz off ⟨l⟩ = some r ∧ ∀ n, sz = some n → off + n ≤ l.length ∨ n = 0 := by
  cases sz with
  | none =>
    have h' : nth l off = some r := h
    rw [nth_eq] at h'
    exact ⟨by simpa [partV] using h', fun n e => by cases e⟩
  | some n =>
    have h' : takeK n (dropL off l) (fun l => some (Value.agg ⟨l⟩)) = some r := h
    rw [dropL_eq] at h'
    obtain ⟨h1, h2⟩ := takeK_some h'
    obtain rfl := Option.some.inj h2
    refine ⟨?_, fun k e => ?_⟩
    · simp only [partV, Option.some.injEq, Value.agg.injEq]
      rw [List.extract_toArray, List.extract_eq_take_drop]
      congr 2; omega
    · obtain rfl := Option.some.inj e
      rw [List.length_drop] at h1
      omega
theorem bv_not (k : IntKind) (n : Int) : (BitVec.ofInt k.bits (if k.signed then -1 else k.max) ^^^ BitVec.ofInt k.bits n).toNat = kmask k - 1 - imod (kmask k) n := by
  have e : BitVec.ofInt k.bits (if k.signed then -1 else k.max) = BitVec.allOnes k.bits := by cases k <;> decide
  rw [e, BitVec.allOnes_xor, BitVec.toNat_not, bv_toNat, kmask_pow]
theorem x1_ap {o : U1} {u r : Value} (h : x1 o u = some r) : o.ap u = some r := by
  cases o with
  | isnil k ne => exact h
  | un op =>
    change xun op u = some r at h
    cases op with
    | neg =>
      cases u with
      | int k n =>
        have h' : oi k (Int.neg n) = some r := h
        rw [oi_eq] at h'
        simp only [U1.ap, unV]
        rw [← h', Int.zero_sub]
        rfl
      | _ => cases h
    | xor =>
      cases u with
      | int k n =>
        have h' : oi k (.ofNat (Nat.sub (Nat.sub (kmask k) 1) (imod (kmask k) n))) = some r := h
        rw [oi_eq] at h'
        simp only [U1.ap, unV]
        rw [← h', bv_not]
        rfl
      | _ => cases h
    | not =>
      cases u with
      | bool b => cases b <;> exact h
      | _ => cases h
    | _ => cases h
  | conv k =>
    change xconv k u = some r at h
    cases u with
    | int k' n =>
      have h' : oi k n = some r := h
      rw [oi_eq] at h'
      exact h'
    | _ => cases h
  | cstr => exact h
  | proj i =>
    change xproj i u = some r at h
    cases u with
    | tuple vs =>
      obtain ⟨l⟩ := vs
      have h' : nth l i = some r := h
      rw [nth_eq] at h'
      simpa [U1.ap, projV] using h'
    | _ => cases h
  | part sz off =>
    change vAgg u (xpart sz off) none = some r at h
    cases u with
    | agg vs =>
      obtain ⟨l⟩ := vs
      exact (xpart_some (show xpart sz off l = some r from h)).1
    | _ => cases h
  | offp k =>
    change xoffp k u = some r at h
    cases u with
    | pointer a =>
      rcases a with _ | ⟨b, o, _ | s⟩
      · cases h
      · have h' : fN (o + k) (fun o => some (Value.pointer (some ⟨b, o, none⟩))) = some r := h
        rw [fN_eq] at h'
        exact h'
      · cases h
    | _ => cases h
  | nn => exact h
  | len str =>
    change xlenv str u = some r at h
    cases u with
    | string s =>
      cases str
      · cases h
      · have h' : fN s.size (fun n => some (Value.int .i64 (.ofNat n))) = some r := h
        rw [fN_eq] at h'
        exact h'
    | slice a n c =>
      cases str
      · exact h
      · cases h
    | _ => cases h
  | mkif t => exact h
  | s2a n => exact h

theorem xcells_eq (v : Value) : xcells v = v.cells.toList := by
  cases v with
  | agg vs => obtain ⟨l⟩ := vs; rfl
  | _ => rfl
theorem rec_blt {α : Type} {i n : Nat} {x : Option α} {r : α} (h : (Bool.rec none x (Nat.blt i n) : Option α) = some r) : i < n ∧ x = some r := ⟨blt_true (brec_some h).1, (brec_some h).2⟩
theorem x2_ap {o : U2} {u v r : Value} (h : x2 o u v = some r) : o.ap u v = some r := by
  cases o with
  | bin op =>
    have h : xbin op u v = some r := h
    cases u with
    | int k a =>
      cases v with
      | int k' b => exact xint_eq h
      | _ => cases h
    | _ => exact h
  | idxAgg sz esz n =>
    have h : xidx sz esz n u v = some r := h
    cases v with
    | int k i =>
      cases i with
      | ofNat i =>
        cases u with
        | agg vs =>
          obtain ⟨l⟩ := vs
          obtain ⟨h1, h2⟩ := rec_blt (x := xpart sz (i * esz) l) h
          simp only [U2.ap, idxAggV]
          rw [if_pos ⟨by simp, by simp; omega⟩]
          exact (xpart_some h2).1
        | _ => cases h
      | negSucc i => cases h
    | _ => cases h
  | idxStr => exact h
  | ixArr n esz =>
    have h : xixArr n esz u v = some r := h
    cases v with
    | int k i =>
      cases i with
      | ofNat i =>
        cases u with
        | pointer a =>
          rcases a with _ | ⟨b, o, _ | s⟩
          · cases h
          · obtain ⟨h1, h2⟩ := rec_blt (x := fN (o + i * esz) fun o => some (Value.pointer (some ⟨b, o, none⟩))) h
            rw [fN_eq] at h2
            simp only [U2.ap, ixArrV]
            rw [if_pos ⟨by simp, by simp; omega⟩]
            exact h2
          · cases h
        | _ => cases h
      | negSucc i => cases h
    | _ => cases h
  | ixSl esz =>
    have h : xixSl esz u v = some r := h
    cases v with
    | int k i =>
      cases i with
      | ofNat i =>
        cases u with
        | slice a n c =>
          rcases a with _ | ⟨b, o, _ | s⟩
          · cases h
          · obtain ⟨h1, h2⟩ := rec_blt (x := fN (o + i * esz) fun o => some (Value.pointer (some ⟨b, o, none⟩))) h
            rw [fN_eq] at h2
            simp only [U2.ap, ixSlV]
            rw [if_pos ⟨by simp, by simp; omega⟩]
            exact h2
          · cases h
        | _ => cases h
      | negSucc i => cases h
    | _ => cases h
  | upd off sz =>
    have h : xupd off sz u v = some r := h
    cases u with
    | agg vs =>
      obtain ⟨l⟩ := vs
      obtain ⟨h1, h2⟩ := brec_some (x := putK off (xcells v) l fun l => some (Value.agg ⟨l⟩)) h
      rw [lenIs_eq, decide_eq_true_iff, xcells_eq, Array.length_toList] at h1
      obtain ⟨h3, h4⟩ := putK_some h2
      rw [xcells_eq, Array.length_toList] at h3
      rw [xcells_eq] at h4
      simp only [U2.ap, updV]
      rw [if_pos ⟨h1, by simpa using h3⟩]
      exact h4
    | _ => cases h
  | fst1 => exact h
  | cap1 => exact h
  | mn =>
    have h : xmn u v = some r := h
    cases u with
    | int k x =>
      cases v with
      | int k' y =>
        have h' : (Bool.rec (some (.int k x)) (some (.int k y)) (ilt y x) : Option Value) = some r := h
        rw [ilt_eq] at h'
        simp only [U2.ap, mnV]
        by_cases hc : y < x
        · rw [decide_eq_true hc] at h'; rw [if_pos hc]; exact h'
        · rw [decide_eq_false hc] at h'; rw [if_neg hc]; exact h'
      | _ => cases h
    | _ => cases h
  | mx =>
    have h : xmx u v = some r := h
    cases u with
    | int k x =>
      cases v with
      | int k' y =>
        have h' : (Bool.rec (some (.int k x)) (some (.int k y)) (ilt x y) : Option Value) = some r := h
        rw [ilt_eq] at h'
        simp only [U2.ap, mxV]
        by_cases hc : x < y
        · rw [decide_eq_true hc] at h'; rw [if_pos hc]; exact h'
        · rw [decide_eq_false hc] at h'; rw [if_neg hc]; exact h'
      | _ => cases h
    | _ => cases h
theorem sl4_eq (b o n c : Nat) : sl4 b o n c = some (.slice (some ⟨b, o, none⟩) n c) := by
  unfold sl4
  rw [fN_eq, fN_eq, fN_eq]
theorem vNat_some {v : Value} {f : Nat → Option Value} {r : Value} (h : vNat v f none = some r) : ∃ k i, v = .int k (.ofNat i) ∧ f i = some r := by
  cases v with
  | int k i =>
    cases i with
    | ofNat i => exact ⟨k, i, rfl, h⟩
    | negSucc i => cases h
  | _ => cases h
theorem brec_beq {α : Type} {a b : Nat} {x y : α} : (Bool.rec x y (Nat.beq a b) : α) = if a = b then y else x := by
  rw [beq_dec]
  by_cases h : a = b
  · rw [decide_eq_true h, if_pos h]
  · rw [decide_eq_false h, if_neg h]
section
variable {ρ : Rho}
theorem vq_int {k : IntKind} {n : Int} {v : Value} (h : VQ ρ (.int k n) v) : v = .int k n := by cases h; rfl
theorem x1_vq {o : U1} {u u' r : Value} (h : VQ ρ u u') (hr : x1 o u = some r) : ∃ r', o.ap u' = some r' ∧ VQ ρ r r' := u1_vq h (x1_ap hr)
theorem sy_vq {u u' : Value} (hs : isSy u = true) (h : VQ ρ u u') : u' = syV Sy.θ u := by cases h <;> first | rfl | (cases hs; done)
theorem vq_sy {u : Value} (hs : isSy u = true) : VQ ρ u (syV Sy.θ u) := by
  cases u <;> first | (cases hs; done) | constructor | skip
  rename_i r
  cases r with
  | none => cases hs
  | some j => exact .sym j
theorem y1_vq {o : U1} {u u' r : Value} (h : VQ ρ u u') (hr : y1 o u = some r) : ∃ r', o.ap u' = some r' ∧ VQ ρ r r' := by
  have hr' : (Option.rec (Sy.f1 o u) some (x1 o u) : Option Value) = some r := hr
  cases e : x1 o u with
  | some a => rw [e] at hr'; obtain rfl := Option.some.inj hr'; exact x1_vq h e
  | none =>
    rw [e] at hr'
    obtain ⟨g1, g2, g3⟩ := Sy.ok1 o u r hr'
    rw [sy_vq g1 h]
    exact ⟨_, g3, vq_sy g2⟩
theorem x2_vq {o : U2} {u u' v v' r : Value} (h : VQ ρ u u') (g : VQ ρ v v') (hr : x2 o u v = some r) : ∃ r', o.ap u' v' = some r' ∧ VQ ρ r r' := u2_vq h g (x2_ap hr)
theorem y2_vq {o : U2} {u u' v v' r : Value} (h : VQ ρ u u') (g : VQ ρ v v') (hr : y2 o u v = some r) : ∃ r', o.ap u' v' = some r' ∧ VQ ρ r r' := by
  have hr' : (Option.rec (Sy.f2 o u v) some (x2 o u v) : Option Value) = some r := hr
  cases e : x2 o u v with
  | some a => rw [e] at hr'; obtain rfl := Option.some.inj hr'; exact x2_vq h g e
  | none =>
    rw [e] at hr'
    obtain ⟨g1, g2, g3, g4⟩ := Sy.ok2 o u v r hr'
    rw [sy_vq g1 h, sy_vq g2 g]
    exact ⟨_, g4, vq_sy g3⟩
theorem sy_vq3 {o : U3} {u u' v v' z z' r : Value} (h : VQ ρ u u') (g : VQ ρ v v') (f : VQ ρ z z') (hr : Sy.f3 o u v z = some r) : ∃ r', o.ap u' v' z' = some r' ∧ VQ ρ r r' := by
  obtain ⟨g1, g2, g3, g4, g5⟩ := Sy.ok3 o u v z r hr
  rw [sy_vq g1 h, sy_vq g2 g, sy_vq g3 f]
  exact ⟨_, g5, vq_sy g4⟩
theorem x3_vq {o : U3} {u u' v v' z z' r : Value} (h : VQ ρ u u') (g : VQ ρ v v') (f : VQ ρ z z') (hr : x3 o u v z = some r) : ∃ r', o.ap u' v' z' = some r' ∧ VQ ρ r r' := by
  cases o with
  | slArr n esz =>
    have hr : xslArr n esz u v z = some r := hr
    cases u with
    | pointer a =>
      rcases a with _ | ⟨b, o, _ | s⟩
      · cases hr
      · obtain ⟨k, l, rfl, h1⟩ := vNat_some hr
        obtain ⟨k', t, rfl, h2⟩ := vNat_some h1
        obtain ⟨h3, h4⟩ := brec_some h2
        obtain ⟨h5, h6⟩ := brec_some h4
        obtain ⟨h7, h8⟩ := brec_some h6
        rw [sl4_eq, brec_beq] at h8
        refine slArr_vq (n := n) (esz := esz) (blt_true h7) h g f ?_
        have a1 := Nat.le_of_ble_eq_true h3
        have a2 := Nat.le_of_ble_eq_true h5
        simp only [slArrV]
        rw [if_pos ⟨by simp, by simp; omega, by simp; omega⟩, ← h8]
        simp only [Int.ofNat_eq_natCast, Int.toNat_natCast]
        split <;> rfl
      · cases hr
    | _ => cases hr
  | slSl esz =>
    obtain ⟨k, l, rfl, h1⟩ := vNat_some (show xslSl esz u v z = some r from hr)
    obtain ⟨k', t, rfl, h2⟩ := vNat_some h1
    obtain ⟨h3, h4⟩ := brec_some h2
    have a1 := Nat.le_of_ble_eq_true h3
    cases u with
    | slice a n c =>
      rcases a with _ | ⟨b, o, _ | s⟩
      · obtain ⟨h5, h6⟩ := brec_some (x := fN (t - l) fun n => fN (c - l) fun c => some (Value.slice none n c)) h4
        have a2 := Nat.le_of_ble_eq_true h5
        rw [fN_eq, fN_eq] at h6
        refine slNil_vq (esz := esz) h g f ?_
        simp only [slSlV]
        rw [if_pos ⟨by simp, by simp; omega, by simp; omega⟩, ← h6]
        simp
      · by_cases hc : c < capU
        · have h4' : (Bool.rec none (sl4 b (Bool.rec (o + l * esz) o (Nat.beq c l)) (t - l) (c - l)) (Nat.ble t c) : Option Value) = some r := by
            have e : Nat.blt c capU = true := Nat.ble_eq_true_of_le hc
            have h4 : (Bool.rec (Bool.rec none (Bool.rec none (sl4 b (Nat.rec (motive := fun _ => Nat) o (fun _ _ => Bool.rec (Nat.add o (Nat.mul l esz)) capU (Nat.beq l t)) l) (Nat.sub t l) (capL o l t n c)) (Nat.blt 0 esz)) (Bool.rec (Nat.ble t (Nat.rec (motive := fun _ => Nat) (capB c) (fun _ _ => (nat_lit 0)) o)) true (Nat.ble t n)))
              (Bool.rec none (sl4 b (Bool.rec (Nat.add o (Nat.mul l esz)) o (Nat.beq c l)) (Nat.sub t l) (Nat.sub c l)) (Nat.ble t c)) (Nat.blt c capU) : Option Value) = some r := h4
            rw [e] at h4
            exact h4
          obtain ⟨h5, h6⟩ := brec_some h4'
          have a2 := Nat.le_of_ble_eq_true h5
          rw [sl4_eq, brec_beq] at h6
          refine slSl_vq (esz := esz) hc h g f ?_
          simp only [slSlV]
          rw [if_pos ⟨by simp, by simp; omega, by simp; omega⟩, ← h6]
          simp only [Int.ofNat_eq_natCast, Int.toNat_natCast, add_none]
          split <;> rfl
        · have h4' : (Bool.rec none (Bool.rec none (sl4 b (Nat.rec (motive := fun _ => Nat) o (fun _ _ => Bool.rec (Nat.add o (Nat.mul l esz)) capU (Nat.beq l t)) l) (Nat.sub t l) (capL o l t n c)) (Nat.blt 0 esz)) (Bool.rec (Nat.ble t (Nat.rec (motive := fun _ => Nat) (capB c) (fun _ _ => (nat_lit 0)) o)) true (Nat.ble t n)) : Option Value) = some r := by
            have e : Nat.blt c capU = false := by
              cases e : Nat.blt c capU
              · rfl
              · exact absurd (blt_true e) hc
            have h4 : (Bool.rec (Bool.rec none (Bool.rec none (sl4 b (Nat.rec (motive := fun _ => Nat) o (fun _ _ => Bool.rec (Nat.add o (Nat.mul l esz)) capU (Nat.beq l t)) l) (Nat.sub t l) (capL o l t n c)) (Nat.blt 0 esz)) (Bool.rec (Nat.ble t (Nat.rec (motive := fun _ => Nat) (capB c) (fun _ _ => (nat_lit 0)) o)) true (Nat.ble t n)))
              (Bool.rec none (sl4 b (Bool.rec (Nat.add o (Nat.mul l esz)) o (Nat.beq c l)) (Nat.sub t l) (Nat.sub c l)) (Nat.ble t c)) (Nat.blt c capU) : Option Value) = some r := h4
            rw [e] at h4
            exact h4
          obtain ⟨h5, h6⟩ := brec_some h4'
          obtain ⟨h7, h6⟩ := brec_some h6
          have a2 : t ≤ n ∨ (o = 0 ∧ t ≤ capB c) ∨ t = 0 := by
            cases e : Nat.ble t n with
            | true => exact .inl (Nat.le_of_ble_eq_true e)
            | false =>
              rw [e] at h5
              cases o with
              | zero => exact .inr (.inl ⟨rfl, Nat.le_of_ble_eq_true h5⟩)
              | succ o => exact .inr (.inr (Nat.le_zero.1 (Nat.le_of_ble_eq_true h5)))
          have a3 := blt_true h7
          rw [sl4_eq] at h6
          obtain rfl := Option.some.inj h6
          obtain rfl := vq_int g
          obtain rfl := vq_int f
          cases h with
          | slice => omega
          | sliceU _ _ o' _ _ c' hb g1 g2 g3 g4 g5 =>
            have a4 : t ≤ c' := by
              rcases a2 with a2 | ⟨a2, a5⟩ | a2
              · omega
              · have := (g5 a2).2.2; omega
              · omega
            have a6 : capU ≤ o → n = 0 → t = 0 := fun q1 q2 => by
              rcases a2 with a2 | ⟨a2, a5⟩ | a2
              · omega
              · subst a2; simp [capU] at q1
              · exact a2
            simp only [U3.ap, slSlV]
            rw [if_pos ⟨by simp, by simp; omega, by simp; omega⟩]
            simp only [Int.ofNat_eq_natCast, Int.toNat_natCast, add_none]
            cases l with
            | zero =>
              refine ⟨_, rfl, ?_⟩
              have hz : (if c' = 0 then (⟨ρ.σ b, o', none⟩ : Addr) else ⟨ρ.σ b, o' + 0 * esz, none⟩) = ⟨ρ.σ b, o', none⟩ := by split <;> simp
              simp only [hz]
              show VQ ρ (.slice (some ⟨b, o, none⟩) (t - 0) (capL o 0 t n c)) _
              have hcap : capU ≤ capL o 0 t n c ∧ (o = 0 → o' = 0 ∧ ρ.Z b = c' * capS (capL o 0 t n c) ∧ capB (capL o 0 t n c) ≤ c') := by
                cases o with
                | succ o => exact ⟨g1, fun e => by cases e⟩
                | zero =>
                  show capU ≤ (Bool.rec c (capN (capS c) n) (Bool.rec false (Nat.blt (capB c) n) (Nat.blt t n)) : Nat) ∧ (0 = 0 → o' = 0 ∧ ρ.Z b = c' * capS (Bool.rec c (capN (capS c) n) (Bool.rec false (Nat.blt (capB c) n) (Nat.blt t n)) : Nat) ∧ capB (Bool.rec c (capN (capS c) n) (Bool.rec false (Nat.blt (capB c) n) (Nat.blt t n)) : Nat) ≤ c')
                  cases (Bool.rec false (Nat.blt (capB c) n) (Nat.blt t n) : Bool) with
                  | false => exact ⟨g1, g5⟩
                  | true =>
                    refine ⟨capN_ge _ _, fun _ => ⟨(g5 rfl).1, ?_, Nat.le_trans (capB_add (capS_lt c)) g2⟩⟩
                    show ρ.Z b = c' * capS (capN (capS c) n)
                    rw [capS_add (capS_lt c)]
                    exact (g5 rfl).2.1
              refine .sliceU _ _ _ _ _ _ hb hcap.1 (by omega) (by omega) ?_ hcap.2
              rcases g4 with g4 | g4
              · exact .inl g4
              · exact .inr ⟨g4.1, by have := a6 g4.1 g4.2; omega⟩
            | succ p =>
              refine ⟨_, rfl, ?_⟩
              show VQ ρ (.slice (some ⟨b, (Bool.rec (o + (p + 1) * esz) capU (Nat.beq (p + 1) t) : Nat), none⟩) (t - (p + 1)) c) _
              rw [brec_beq]
              by_cases hlt : p + 1 = t
              · rw [if_pos hlt]
                have hz : ∃ o2, (if c' = p + 1 then (⟨ρ.σ b, o', none⟩ : Addr) else ⟨ρ.σ b, o' + (p + 1) * esz, none⟩) = ⟨ρ.σ b, o2, none⟩ := by split <;> exact ⟨_, rfl⟩
                obtain ⟨o2, hz⟩ := hz
                simp only [hz]
                exact .sliceU _ _ _ _ _ _ hb g1 (by omega) (by omega) (.inr ⟨Nat.le_refl _, by omega⟩) (fun e => by simp only [capU] at e; cases e)
              · rw [if_neg hlt, if_neg (by omega)]
                rcases g4 with g4 | g4
                · subst g4
                  refine .sliceU _ _ _ _ _ _ hb g1 (by omega) (by omega) (.inl rfl) ?_
                  intro e
                  have : 0 < (p + 1) * esz := Nat.mul_pos (by omega) a3
                  omega
                · have := a6 g4.1 g4.2; omega
      · cases h4
    | _ => cases h4
  | slStr => exact slStr_vq h g f hr
end
end Go.Eng
