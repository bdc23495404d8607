/- Engine, part XY: rows that the run didn't make, as symbols. -/
import Derived.Test.YtipfkfecelkhnaaGreatDoorEngXW
set_option linter.unusedSimpArgs false
set_option linter.unusedVariables false
set_option linter.unusedSectionVars false
namespace Go.Eng
noncomputable section
/-- Symbol 1000 * (r + 1) is the r-th row; + 1 + i: the place of its i-th element; + 500 + m: its first m elements. -/
structure RowD where
  a : Option Addr
  n : Nat
  c : Nat
  k : Nat
def ptrX (a : Option Addr) (k i : Nat) : Value := match a with
  | some ⟨b, o, none⟩ => if i < k then .pointer (some ⟨b, o + i, none⟩) else .bool false
  | _ => .bool false
theorem ptrX_plain (a : Option Addr) (k i : Nat) : plainT (ptrX a k i) = true := by
  unfold ptrX
  split
  · split <;> rfl
  · rfl
def thX (θ : Nat → Value) (D : List RowD) (j : Nat) : Value := match Nat.ble 1000 j && Nat.blt j 100000 with
  | false => θ j
  | true => match D[j / 1000 - 1]? with
    | none => .bool false
    | some d => if j % 1000 = 0 then .slice d.a d.n d.c else if j % 1000 < 500 then ptrX d.a d.k (j % 1000 - 1) else .slice d.a (j % 1000 - 500) d.c
theorem thX_plain {θ : Nat → Value} {D : List RowD} (hp : ∀ j, plainT (θ j) = true) (j : Nat) : plainT (thX θ D j) = true := by
  unfold thX
  split
  · exact hp j
  · split
    · rfl
    · split
      · rfl
      · split
        · exact ptrX_plain _ _ _
        · rfl
/-- Of a row: its length, and its first elements. -/
abbrev RowS := Value × List Value
def sel {α : Type} (l : List α) (i : Nat) : Option α := match l with
  | [] => none
  | a :: r => match i with
    | 0 => some a
    | i + 1 => sel r i
theorem sel_eq {α : Type} : ∀ (l : List α) (i : Nat), sel l i = l[i]?
  | [], _ => rfl
  | a :: r, 0 => rfl
  | a :: r, i + 1 => by simp only [sel, List.getElem?_cons_succ]; exact sel_eq r i
def rowAt' (R : List RowS) (j : Nat) : Option RowS := match Nat.ble 1000 j && Nat.blt j 100000 with
  | true => sel R (j / 1000 - 1)
  | false => none
def isZ (j : Nat) : Bool := Nat.beq (j % 1000) 0
def fX1 (f : U1 → Value → Option Value) (R : List RowS) (o : U1) (u : Value) : Option Value := match o, u with
  | .len false, .chan (some j) => match rowAt' R j with
    | some s => match isZ j with
      | true => some s.1
      | false => match Nat.ble 500 (j % 1000) with
        | true => some (.int .i64 (.ofNat (j % 1000 - 500)))
        | false => none
    | none => f o u
  | _, _ => f o u
def fX2 (f : U2 → Value → Value → Option Value) (R : List RowS) (o : U2) (u v : Value) : Option Value := match o, u, v with
  | .ixSl 1, .chan (some j), .int _ (.ofNat i) => match rowAt' R j with
    | some s => match isZ j && Nat.blt i s.2.length with
      | true => some (.chan (some (j + 1 + i)))
      | false => none
    | none => f o u v
  | _, _, _ => f o u v
def fX3 (R : List RowS) (o : U3) (u v z : Value) : Option Value := match o, u, v, z with
  | .slSl 1, .chan (some j), .int _ (.ofNat 0), .int _ (.ofNat m) => match rowAt' R j with
    | some s => match isZ j && Nat.ble m s.2.length with
      | true => some (.chan (some (j + 500 + m)))
      | false => none
    | none => none
  | _, _, _, _ => none
def fXl (R : List RowS) (sz : Option Nat) (u : Value) : Option Value := match sz, u with
  | none, .chan (some j) => match rowAt' R j with
    | some s => match Nat.ble 1 (j % 1000) && Nat.blt (j % 1000) 500 with
      | true => sel s.2 (j % 1000 - 1)
      | false => none
    | none => none
  | _, _ => none
def fXr (R : List RowS) (u : Value) : Option (List Value) := match u with
  | .chan (some j) => match rowAt' R j with
    | some s => match Nat.ble 500 (j % 1000) && Nat.ble (j % 1000 - 500) s.2.length with
      | true => some (s.2.take (j % 1000 - 500))
      | false => match isZ j with
        | true => match s.1 with
          | .int _ (.ofNat n) => match Nat.beq n s.2.length with
            | true => some s.2
            | false => none
          | _ => none
        | false => none
    | none => none
  | _ => none
/-- A symbol that is no row's, or a plain value. -/
def lowS (v : Value) : Bool := match v with
  | .chan (some j) => Nat.blt j 1000 || Nat.ble 100000 j
  | .bool _ => true
  | .int _ _ => true
  | _ => false
theorem low_of {j : Nat} (h : j < 1000) : lowS (.chan (some j)) = true := by
  show (Nat.blt j 1000 || Nat.ble 100000 j) = true
  rw [show Nat.blt j 1000 = true from Nat.ble_eq_true_of_le h]; rfl
theorem low_big {j : Nat} (h : 100000 ≤ j) : lowS (.chan (some j)) = true := by
  show (Nat.blt j 1000 || Nat.ble 100000 j) = true
  rw [Nat.ble_eq_true_of_le h, Bool.or_true]
theorem low_isSy {v : Value} (h : lowS v = true) : isSy v = true := by
  unfold lowS at h
  split at h <;> first | rfl | cases h
theorem low_syV {θ : Nat → Value} {D : List RowD} {v : Value} (h : lowS v = true) : syV (thX θ D) v = syV θ v := by
  unfold lowS at h
  split at h
  · rename_i j
    have h0 : (Nat.blt j 1000 || Nat.ble 100000 j) = true := h
    simp only [Bool.or_eq_true] at h0
    have : (Nat.ble 1000 j && Nat.blt j 100000) = false := by
      cases e : (Nat.ble 1000 j && Nat.blt j 100000) with
      | false => rfl
      | true =>
        simp only [Bool.and_eq_true] at e
        have e1 := Nat.le_of_ble_eq_true e.1
        have e2 : j + 1 ≤ 100000 := Nat.le_of_ble_eq_true e.2
        rcases h0 with h0 | h0
        · have : j + 1 ≤ 1000 := Nat.le_of_ble_eq_true h0
          omega
        · have := Nat.le_of_ble_eq_true h0
          omega
    simp only [syV, thX, this]
  · rfl
  · rfl
  · cases h
/-- How a row stands to its description. -/
structure RowFit (θ : Nat → Value) (s : RowS) (d : RowD) : Prop where
  low : lowS s.1 = true
  len : syV θ s.1 = .int .i64 d.n
  le : s.2.length ≤ d.n
  cap : d.n ≤ d.c
  small : s.2.length < 400
  els : ∀ v ∈ s.2, lowS v = true
  kk : d.k = s.2.length
  pl : s.2.length = 0 ∨ ∃ b o, d.a = some ⟨b, o, none⟩
def Fits (θ : Nat → Value) : List RowS → List RowD → Prop
  | [], [] => True
  | s :: R, d :: D => RowFit θ s d ∧ Fits θ R D
  | _, _ => False
theorem Fits.at {θ : Nat → Value} : ∀ {R : List RowS} {D : List RowD}, Fits θ R D → ∀ {i : Nat} {s : RowS}, R[i]? = some s → ∃ d, D[i]? = some d ∧ RowFit θ s d
  | s :: R, d :: D, h, 0, s', hs => by obtain rfl := Option.some.inj hs; exact ⟨d, rfl, h.1⟩
  | s :: R, d :: D, h, i + 1, s', hs => Fits.at h.2 (by simpa using hs)
  | [], [], _, i, s', hs => by simp at hs
  | [], _ :: _, h, _, _, _ => h.elim
  | _ :: _, [], h, _, _, _ => h.elim
theorem Fits.at' {θ : Nat → Value} : ∀ {R : List RowS} {D : List RowD}, Fits θ R D → ∀ {i : Nat} {d : RowD}, D[i]? = some d → ∃ s, R[i]? = some s ∧ RowFit θ s d
  | s :: R, d :: D, h, 0, d', hs => by obtain rfl := Option.some.inj hs; exact ⟨s, rfl, h.1⟩
  | s :: R, d :: D, h, i + 1, d', hs => Fits.at' h.2 (by simpa using hs)
  | [], [], _, i, s', hs => by simp at hs
  | [], _ :: _, h, _, _, _ => h.elim
  | _ :: _, [], h, _, _, _ => h.elim
/-- The world has the rows. -/
def RowsIn (θ : Nat → Value) : List RowS → List RowD → World → Prop
  | s :: R, d :: D, w => (∀ b o, d.a = some ⟨b, o, none⟩ → s.2.length ≠ 0 → b < w.heap.size ∧ ∀ (i : Nat) v, s.2[i]? = some v → wcell w b (o + i) = some (syV θ v)) ∧ RowsIn θ R D w
  | _, _, _ => True
theorem RowsIn.at {θ : Nat → Value} {w : World} : ∀ {R : List RowS} {D : List RowD}, RowsIn θ R D w → ∀ {i : Nat} {s : RowS} {d : RowD}, R[i]? = some s → D[i]? = some d → ∀ b o, d.a = some ⟨b, o, none⟩ → s.2.length ≠ 0 → b < w.heap.size ∧ ∀ (i : Nat) v, s.2[i]? = some v → wcell w b (o + i) = some (syV θ v)
  | s :: R, d :: D, h, 0, _, _, hs, hd => by obtain rfl := Option.some.inj hs; obtain rfl := Option.some.inj hd; exact h.1
  | s :: R, d :: D, h, i + 1, _, _, hs, hd => RowsIn.at h.2 (by simpa using hs) (by simpa using hd)
  | [], _, _, _, _, _, hs, _ => by simp at hs
  | _ :: _, [], _, _, _, _, _, hd => by simp at hd
theorem RowsIn.keep {θ : Nat → Value} {w w' : World} (hk : Kept none' w w') : ∀ {R : List RowS} {D : List RowD}, RowsIn θ R D w → RowsIn θ R D w'
  | s :: R, d :: D, h => ⟨fun b o ha hn => ⟨Nat.lt_of_lt_of_le (h.1 b o ha hn).1 hk.size, fun i v hv => by
      have := (h.1 b o ha hn).2 i v hv
      unfold wcell at this ⊢
      rw [hk.block b (h.1 b o ha hn).1 fun h => h]
      exact this⟩, RowsIn.keep hk h.2⟩
  | [], _, _ => trivial
  | _ :: _, [], _ => trivial
theorem rowAt_some {R : List RowS} {j : Nat} {s : RowS} (h : rowAt' R j = some s) : (1000 ≤ j ∧ j < 100000) ∧ R[j / 1000 - 1]? = some s := by
  unfold rowAt' at h
  split at h
  · rename_i e
    rw [sel_eq] at h
    simp only [Bool.and_eq_true] at e
    exact ⟨⟨Nat.le_of_ble_eq_true e.1, Nat.le_of_ble_eq_true e.2⟩, h⟩
  · cases h
theorem thX_at {θ : Nat → Value} {D : List RowD} {j : Nat} {d : RowD} (h1 : 1000 ≤ j ∧ j < 100000) (hd : D[j / 1000 - 1]? = some d) : thX θ D j = if j % 1000 = 0 then .slice d.a d.n d.c else if j % 1000 < 500 then ptrX d.a d.k (j % 1000 - 1) else .slice d.a (j % 1000 - 500) d.c := by
  unfold thX
  rw [Nat.ble_eq_true_of_le h1.1, show Nat.blt j 100000 = true from Nat.ble_eq_true_of_le h1.2]
  simp only [hd, Bool.and_self]
theorem isZ_true {j : Nat} (h : isZ j = true) : j % 1000 = 0 := Nat.eq_of_beq_eq_true h
section
variable {θ : Nat → Value} {R : List RowS} {D : List RowD}
theorem fX1_ok (hf : Fits θ R D) {f : U1 → Value → Option Value} (hl : ∀ o u r, f o u = some r → lowS u = true ∧ lowS r = true ∧ o.ap (syV θ u) = some (syV θ r)) (o : U1) (u r : Value) (h : fX1 f R o u = some r) : isSy u = true ∧ isSy r = true ∧ o.ap (syV (thX θ D) u) = some (syV (thX θ D) r) := by
  have base : f o u = some r → isSy u = true ∧ isSy r = true ∧ o.ap (syV (thX θ D) u) = some (syV (thX θ D) r) := fun h => by
    obtain ⟨h1, h2, h3⟩ := hl o u r h
    exact ⟨low_isSy h1, low_isSy h2, by rw [low_syV h1, low_syV h2]; exact h3⟩
  unfold fX1 at h
  split at h
  · rename_i j
    split at h
    · rename_i s hs
      obtain ⟨h1, h2⟩ := rowAt_some hs
      obtain ⟨d, hd, ft⟩ := hf.at h2
      have e := thX_at (θ := θ) h1 hd
      split at h
      · rename_i hz
        obtain rfl := Option.some.inj h
        refine ⟨rfl, low_isSy ft.low, ?_⟩
        rw [low_syV ft.low, ft.len]
        show U1.ap (.len false) (thX θ D j) = _
        rw [e, if_pos (isZ_true hz)]
        rfl
      · rename_i hz
        split at h
        · rename_i h5
          obtain rfl := Option.some.inj h
          have h5 := Nat.le_of_ble_eq_true h5
          refine ⟨rfl, rfl, ?_⟩
          show U1.ap (.len false) (thX θ D j) = _
          rw [e, if_neg (by omega), if_neg (by omega)]
          rfl
        · cases h
    · exact base h
  · exact base h
theorem fX2_ok (hf : Fits θ R D) {f : U2 → Value → Value → Option Value} (hl : ∀ o u v r, f o u v = some r → lowS u = true ∧ lowS v = true ∧ lowS r = true ∧ o.ap (syV θ u) (syV θ v) = some (syV θ r)) (o : U2) (u v r : Value) (h : fX2 f R o u v = some r) : isSy u = true ∧ isSy v = true ∧ isSy r = true ∧ o.ap (syV (thX θ D) u) (syV (thX θ D) v) = some (syV (thX θ D) r) := by
  have base : f o u v = some r → isSy u = true ∧ isSy v = true ∧ isSy r = true ∧ o.ap (syV (thX θ D) u) (syV (thX θ D) v) = some (syV (thX θ D) r) := fun h => by
    obtain ⟨h1, h2, h3, h4⟩ := hl o u v r h
    exact ⟨low_isSy h1, low_isSy h2, low_isSy h3, by rw [low_syV h1, low_syV h2, low_syV h3]; exact h4⟩
  unfold fX2 at h
  split at h
  · rename_i j k i
    split at h
    · rename_i s hs
      obtain ⟨h1, h2⟩ := rowAt_some hs
      obtain ⟨d, hd, ft⟩ := hf.at h2
      have e := thX_at (θ := θ) h1 hd
      split at h
      · rename_i hz
        simp only [Bool.and_eq_true] at hz
        obtain rfl := Option.some.inj h
        have hz0 := isZ_true hz.1
        have hi : i < s.2.length := Nat.le_of_ble_eq_true (show Nat.ble (i + 1) _ = true from hz.2)
        have := ft.le
        have := ft.small
        have e1 : (j + 1 + i) / 1000 - 1 = j / 1000 - 1 := by omega
        have e2 := thX_at (θ := θ) (D := D) (j := j + 1 + i) (by omega) (by rw [e1]; exact hd)
        refine ⟨rfl, rfl, rfl, ?_⟩
        show U2.ap (.ixSl 1) (thX θ D j) (.int k (.ofNat i)) = some (thX θ D (j + 1 + i))
        obtain ⟨b, ob, ha⟩ := ft.pl.resolve_left (by omega)
        have e3 : (j + 1 + i) % 1000 - 1 = i := by omega
        rw [e, if_pos hz0, e2, if_neg (by omega), if_pos (by omega), e3, ha]
        unfold ptrX
        simp only
        rw [if_pos (by rw [ft.kk]; exact hi)]
        simp only [U2.ap, ixSlV]
        rw [if_pos ⟨by simp, by simp; omega⟩]
        simp
      · cases h
    · exact base h
  · exact base h
theorem fX3_ok (hf : Fits θ R D) (o : U3) (u v z r : Value) (h : fX3 R o u v z = some r) : isSy u = true ∧ isSy v = true ∧ isSy z = true ∧ isSy r = true ∧ o.ap (syV (thX θ D) u) (syV (thX θ D) v) (syV (thX θ D) z) = some (syV (thX θ D) r) := by
  unfold fX3 at h
  split at h
  · rename_i j k k' m
    split at h
    · rename_i s hs
      obtain ⟨h1, h2⟩ := rowAt_some hs
      obtain ⟨d, hd, ft⟩ := hf.at h2
      have e := thX_at (θ := θ) h1 hd
      split at h
      · rename_i hz
        simp only [Bool.and_eq_true] at hz
        obtain rfl := Option.some.inj h
        have hz0 := isZ_true hz.1
        have hi := Nat.le_of_ble_eq_true hz.2
        have := ft.le
        have := ft.cap
        have := ft.small
        have e1 : (j + 500 + m) / 1000 - 1 = j / 1000 - 1 := by omega
        have e2 := thX_at (θ := θ) (D := D) (j := j + 500 + m) (by omega) (by rw [e1]; exact hd)
        refine ⟨rfl, rfl, rfl, rfl, ?_⟩
        show U3.ap (.slSl 1) (thX θ D j) (.int k (.ofNat 0)) (.int k' (.ofNat m)) = some (thX θ D (j + 500 + m))
        rw [e, if_pos hz0, e2, if_neg (by omega), if_neg (by omega)]
        have e3 : (j + 500 + m) % 1000 - 500 = m := by omega
        rw [e3]
        cases d.a with
        | none =>
          simp only [U3.ap, slSlV]
          rw [if_pos ⟨by simp, by simp, by simp; omega⟩]
          simp
        | some ad =>
          simp only [U3.ap, slSlV]
          rw [if_pos ⟨by simp, by simp, by simp; omega⟩]
          have e4 : ad.add 0 = ad := by
            obtain ⟨b, o, sp⟩ := ad
            unfold Addr.add
            cases sp <;> rfl
          simp [e4]
      · cases h
    · cases h
  · cases h
theorem fXl_ok (hf : Fits θ R D) (sz : Option Nat) (u r : Value) (h : fXl R sz u = some r) : isSy u = true ∧ isSy r = true ∧ ∀ w, RowsIn θ R D w → ldv w sz (syV (thX θ D) u) = some (syV (thX θ D) r) := by
  unfold fXl at h
  split at h
  · rename_i j
    split at h
    · rename_i s hs
      obtain ⟨h1, h2⟩ := rowAt_some hs
      obtain ⟨d, hd, ft⟩ := hf.at h2
      have e := thX_at (θ := θ) h1 hd
      split at h
      · rename_i hz
        simp only [Bool.and_eq_true] at hz
        rw [sel_eq] at h
        have hlow := ft.els r (List.mem_of_getElem? h)
        refine ⟨rfl, low_isSy hlow, fun w hw => ?_⟩
        have h3 := Nat.le_of_ble_eq_true hz.1
        have h4 : j % 1000 < 500 := Nat.le_of_ble_eq_true (show Nat.ble (j % 1000 + 1) 500 = true from hz.2)
        have hlt : j % 1000 - 1 < s.2.length := (List.getElem?_eq_some_iff.1 h).1
        obtain ⟨b, ob, ha⟩ := ft.pl.resolve_left (by omega)
        show ldv w none (thX θ D j) = _
        rw [e, if_neg (by omega), if_pos h4, low_syV hlow, ha]
        unfold ptrX
        simp only
        rw [if_pos (by rw [ft.kk]; exact hlt)]
        exact (hw.at h2 hd b ob ha (by omega)).2 _ r h
      · cases h
    · cases h
  · cases h
theorem fXr_ok (hf : Fits θ R D) (u : Value) (l : List Value) (h : fXr R u = some l) : isSy u = true ∧ (∀ v ∈ l, isSy v = true) ∧ ∀ w, RowsIn θ R D w → ∃ a c, syV (thX θ D) u = .slice a l.length c ∧ (l.length = 0 ∨ ∃ b o, a = some ⟨b, o, none⟩ ∧ ∀ (i : Nat) v, l[i]? = some v → wcell w b (o + i) = some (syV (thX θ D) v)) := by
  unfold fXr at h
  split at h
  · rename_i j
    split at h
    · rename_i s hs
      obtain ⟨h1, h2⟩ := rowAt_some hs
      obtain ⟨d, hd, ft⟩ := hf.at h2
      have e := thX_at (θ := θ) h1 hd
      split at h
      · rename_i hz
        simp only [Bool.and_eq_true] at hz
        obtain rfl := Option.some.inj h
        have h3 := Nat.le_of_ble_eq_true hz.1
        have h4 := Nat.le_of_ble_eq_true hz.2
        refine ⟨rfl, fun v hv => low_isSy (ft.els v (List.mem_of_mem_take hv)), fun w hw => ⟨d.a, d.c, ?_, ?_⟩⟩
        · show thX θ D j = _
          rw [e, if_neg (by omega), if_neg (by omega), List.length_take, Nat.min_eq_left h4]
        · by_cases hz2 : s.2.length = 0
          · left; rw [List.length_take, hz2]; simp
          · right
            obtain ⟨b, ob, ha⟩ := ft.pl.resolve_left hz2
            refine ⟨b, ob, ha, fun i v hv => ?_⟩
            rw [List.getElem?_take] at hv
            split at hv
            · rw [low_syV (ft.els v (List.mem_of_getElem? hv))]
              exact (hw.at h2 hd b ob ha hz2).2 i v hv
            · cases hv
      · split at h
        · rename_i hz
          split at h
          · rename_i k n hs1
            split at h
            · rename_i hn
              obtain rfl := Option.some.inj h
              obtain rfl := Nat.eq_of_beq_eq_true hn
              refine ⟨rfl, fun v hv => low_isSy (ft.els v hv), fun w hw => ⟨d.a, d.c, ?_, ?_⟩⟩
              · show thX θ D j = _
                have hl := ft.len
                rw [hs1] at hl
                have hl' : (Value.int k (.ofNat s.2.length)) = .int .i64 d.n := hl
                injection hl' with _ hl'
                have : s.2.length = d.n := by injection hl'
                rw [e, if_pos (isZ_true hz), this]
              · by_cases hz2 : s.2.length = 0
                · exact .inl hz2
                · right
                  obtain ⟨b, ob, ha⟩ := ft.pl.resolve_left hz2
                  refine ⟨b, ob, ha, fun i v hv => ?_⟩
                  rw [low_syV (ft.els v (List.mem_of_getElem? hv))]
                  exact (hw.at h2 hd b ob ha hz2).2 i v hv
            · cases h
          · cases h
        · cases h
    · cases h
  · cases h
theorem thX_ptr (hf : Fits θ R D) (hp : ∀ j, plainV (θ j) = true) (w : World) (j b o : Nat) (sp : Option Nat) (hw : RowsIn θ R D w) (h : thX θ D j = .pointer (some ⟨b, o, sp⟩)) : b < w.heap.size := by
  unfold thX at h
  split at h
  · have := hp j
    rw [h] at this
    cases this
  · split at h
    · cases h
    · rename_i d hd
      obtain ⟨s, hs, ft⟩ := hf.at' hd
      have := hw.at hs hd
      split at h
      · cases h
      · split at h
        · unfold ptrX at h
          split at h
          · rename_i b' o' ha
            split at h
            · rename_i hlt
              cases h
              exact (this _ _ ha (by rw [ft.kk] at hlt; omega)).1
            · cases h
          · cases h
        · cases h
end
def low1 (l : List (U1 × Value × Value)) : Bool := l.all fun p => lowS p.2.1 && lowS p.2.2
def low2 (l : List (U2 × Value × Value × Value)) : Bool := l.all fun p => lowS p.2.1 && (lowS p.2.2.1 && lowS p.2.2.2)
def lowE (l : List (Value × Value × Bool)) : Bool := l.all fun p => lowS p.1 && lowS p.2.1
theorem find1_low {l : List (U1 × Value × Value)} (hl : low1 l = true) {o : U1} {u r : Value} (hf : find1 l o u = some r) : lowS u = true ∧ lowS r = true := by
  induction l with
  | nil => cases hf
  | cons p l ih =>
    simp only [low1, List.all_cons, Bool.and_eq_true] at hl
    unfold find1 at hf
    split at hf
    · rename_i hb
      simp only [Bool.and_eq_true] at hb
      obtain rfl := Option.some.inj hf
      rw [← beqV_eq 3 _ _ hb.2]
      exact hl.1
    · exact ih hl.2 hf
theorem find2_low {l : List (U2 × Value × Value × Value)} (hl : low2 l = true) {o : U2} {u v r : Value} (hf : find2 l o u v = some r) : lowS u = true ∧ lowS v = true ∧ lowS r = true := by
  induction l with
  | nil => cases hf
  | cons p l ih =>
    simp only [low2, List.all_cons, Bool.and_eq_true] at hl
    unfold find2 at hf
    split at hf
    · rename_i hb
      simp only [Bool.and_eq_true] at hb
      obtain rfl := Option.some.inj hf
      rw [← beqV_eq 3 _ _ hb.2.1, ← beqV_eq 3 _ _ hb.2.2]
      exact hl.1
    · exact ih hl.2 hf
theorem findQ_low {l : List (Value × Value × Bool)} (hl : lowE l = true) {u v : Value} {b : Bool} (hf : findQ l u v = some b) : lowS u = true ∧ lowS v = true := by
  induction l with
  | nil => cases hf
  | cons p l ih =>
    simp only [lowE, List.all_cons, Bool.and_eq_true] at hl
    unfold findQ at hf
    split at hf
    · rename_i hb
      simp only [Bool.and_eq_true] at hb
      rw [← beqV_eq 3 _ _ hb.1, ← beqV_eq 3 _ _ hb.2]
      exact hl.1
    · exact ih hl.2 hf
/-- Symbols, from rules, and rows. -/
abbrev syRows (θ : Nat → Value) (hp : ∀ j, plainV (θ j) = true) (r1 : List (U1 × Value × Value)) (r2 : List (U2 × Value × Value × Value)) (re : List (Value × Value × Bool)) (h1 : ∀ p ∈ r1, Rule1 θ p) (h2 : ∀ p ∈ r2, Rule2 θ p) (he : ∀ p ∈ re, RuleE θ p)
    (l1 : low1 r1 = true) (l2 : low2 r2 = true) (le : lowE re = true) (R : List RowS) (D : List RowD) (hf : Fits θ R D) : Sy where
  θ := thX θ D
  plain := thX_plain fun j => plainT_of (hp j)
  f1 := fX1 (find1 r1) R
  f2 := fX2 (find2 r2) R
  f3 := fX3 R
  fe := findQ re
  fl := fXl R
  fr := fXr R
  K := RowsIn θ R D
  kk := fun _ _ h hk => h.keep hk
  ok1 := fX1_ok hf fun o u r h => ⟨(find1_low l1 h).1, (find1_low l1 h).2, (find1_ok h1 h).2.2⟩
  ok2 := fX2_ok hf fun o u v r h => ⟨(find2_low l2 h).1, (find2_low l2 h).2.1, (find2_low l2 h).2.2, (find2_ok h2 h).2.2.2⟩
  ok3 := fX3_ok hf
  okl := fXl_ok hf
  okr := fXr_ok hf
  okp := thX_ptr hf hp
  oke := fun u v b h => by
    obtain ⟨g1, g2⟩ := findQ_low le h
    obtain ⟨q1, q2, q3⟩ := findQ_ok he h
    rw [low_syV g1, low_syV g2]
    exact ⟨q1, q2, q3⟩
/-- A row of whole numbers, as it lies in the memory. -/
def RowAt1 (w : World) (k : IntKind) (a : Option Addr) (n : Nat) (xs : List Int) : Prop := n = xs.length ∧ (n = 0 ∨ ∃ b off, a = some ⟨b, off, none⟩ ∧ ∀ i, i < n → wcell w b (off + i) = some (.int k (xs.getD i 0)))
theorem wcell_size {w : World} {b o : Nat} {v : Value} (h : wcell w b o = some v) : b < w.heap.size := by
  unfold wcell at h
  split at h
  · rename_i c T fz hb; exact (Array.getElem?_eq_some_iff.1 hb).1
  · cases h
theorem fits_one {θ : Nat → Value} {w : World} {k : IntKind} {s : RowS} {a : Option Addr} {n c q : Nat} {xs : List Int} (hr : RowAt1 w k a n xs) (h1 : lowS s.1 = true) (h2 : syV θ s.1 = .int .i64 n) (h3 : s.2.length ≤ n) (h4 : n ≤ c) (h5 : s.2.length < 400) (h6 : ∀ v ∈ s.2, lowS v = true) (h7 : q = s.2.length) : Fits θ [s] [⟨a, n, c, q⟩] := by
  refine ⟨⟨h1, h2, h3, h4, h5, h6, h7, ?_⟩, trivial⟩
  rcases hr.2 with h | ⟨b, o, h, _⟩
  · left; omega
  · exact .inr ⟨b, o, h⟩
theorem rowsIn_one {θ : Nat → Value} {w : World} {k : IntKind} {s : RowS} {a : Option Addr} {n c q : Nat} {xs : List Int} (hr : RowAt1 w k a n xs) (h3 : s.2.length ≤ n) (hs : ∀ (i : Nat) v, s.2[i]? = some v → syV θ v = .int k (xs.getD i 0)) : RowsIn θ [s] [⟨a, n, c, q⟩] w := by
  refine ⟨fun b o ha hn => ?_, trivial⟩
  rcases hr.2 with h | ⟨b', o', h, hc⟩
  · omega
  · have ha : a = some ⟨b, o, none⟩ := ha
    rw [h] at ha
    cases ha
    have h0 : 0 < n := by omega
    refine ⟨wcell_size (hc 0 h0), fun i v hv => ?_⟩
    rw [hs i v hv]
    exact hc i (by have := (List.getElem?_eq_some_iff.1 hv).1; omega)
end
end Go.Eng
