/- Engine, part XY, numbers that are alike: symbols 40 * i .. 40 * i + 39 are of the i-th number, by the same rules. -/
import Derived.Test.YtmpgfgemnhbkhaaGreatDoorEngXY
set_option linter.unusedSimpArgs false
set_option linter.unusedVariables false
set_option linter.unusedSectionVars false
namespace Go.Eng
noncomputable section
/-- What the symbols stand for: below lim, of the i-th number; else of their own. -/
def thP (θb : Int → Nat → Value) (θe : Nat → Value) (x : Nat → Int) (lim : Nat) (j : Nat) : Value := match Nat.blt j lim with
  | true => θb (x (j / 40)) (j % 40)
  | false => θe j
theorem thP_plain {θb : Int → Nat → Value} {θe : Nat → Value} {x : Nat → Int} {lim : Nat} (h1 : ∀ x j, plainV (θb x j) = true) (h2 : ∀ j, plainV (θe j) = true) (j : Nat) : plainV (thP θb θe x lim j) = true := by
  unfold thP
  split
  · exact h1 _ _
  · exact h2 _
/-- Back to the i-th number's. -/
def shV (i : Nat) (v : Value) : Value := match v with
  | .chan (some k) => .chan (some (40 * i + k))
  | v => v
def nrmV (j : Nat) : Value := .chan (some (j % 40))
def f1P (r e : List (U1 × Value × Value)) (lim : Nat) (o : U1) (u : Value) : Option Value := match u with
  | .chan (some j) => match Nat.blt j lim with
    | true => match find1 r o (nrmV j) with
      | some v => some (shV (j / 40) v)
      | none => none
    | false => find1 e o u
  | _ => none
def f2P (r e : List (U2 × Value × Value × Value)) (lim : Nat) (o : U2) (u v : Value) : Option Value := match u, v with
  | .chan (some j), .chan (some j') => match Nat.blt j lim && (Nat.blt j' lim && Nat.beq (j / 40) (j' / 40)) with
    | true => match find2 r o (nrmV j) (nrmV j') with
      | some v => some (shV (j / 40) v)
      | none => none
    | false => find2 e o u v
  | .chan (some j), v => match Nat.blt j lim with
    | true => match find2 r o (nrmV j) v with
      | some v => some (shV (j / 40) v)
      | none => none
    | false => find2 e o u v
  | u, .chan (some j) => match Nat.blt j lim with
    | true => match find2 r o u (nrmV j) with
      | some v => some (shV (j / 40) v)
      | none => none
    | false => find2 e o u v
  | _, _ => none
def fqP (r e : List (Value × Value × Bool)) (lim : Nat) (u v : Value) : Option Bool := match u, v with
  | .chan (some j), .chan (some j') => match Nat.blt j lim && (Nat.blt j' lim && Nat.beq (j / 40) (j' / 40)) with
    | true => findQ r (nrmV j) (nrmV j')
    | false => findQ e u v
  | _, _ => findQ e u v
/-- A number's own symbol, or a plain value. -/
def ownS (v : Value) : Bool := match v with
  | .chan (some j) => Nat.blt j 40
  | .bool _ => true
  | .int _ _ => true
  | _ => false
def own1 (l : List (U1 × Value × Value)) : Bool := l.all fun p => ownS p.2.2
def own2 (l : List (U2 × Value × Value × Value)) : Bool := l.all fun p => ownS p.2.1 && (ownS p.2.2.1 && ownS p.2.2.2)
theorem find1_own {l : List (U1 × Value × Value)} (hl : own1 l = true) {o : U1} {u r : Value} (hf : find1 l o u = some r) : ownS r = true := by
  induction l with
  | nil => cases hf
  | cons p l ih =>
    simp only [own1, List.all_cons, Bool.and_eq_true] at hl
    unfold find1 at hf
    split at hf
    · obtain rfl := Option.some.inj hf
      exact hl.1
    · exact ih hl.2 hf
theorem find2_own {l : List (U2 × Value × Value × Value)} (hl : own2 l = true) {o : U2} {u v r : Value} (hf : find2 l o u v = some r) : ownS u = true ∧ ownS v = true ∧ ownS r = true := by
  induction l with
  | nil => cases hf
  | cons p l ih =>
    simp only [own2, List.all_cons, Bool.and_eq_true] at hl
    unfold find2 at hf
    split at hf
    · rename_i hb
      simp only [Bool.and_eq_true] at hb
      obtain rfl := Option.some.inj hf
      rw [← beqV_eq 3 _ _ hb.2.1, ← beqV_eq 3 _ _ hb.2.2]
      exact hl.1
    · exact ih hl.2 hf
section
variable {θb : Int → Nat → Value} {θe : Nat → Value} {x : Nat → Int} {lim : Nat}
theorem thP_at {j : Nat} (h : Nat.blt j lim = true) : thP θb θe x lim j = θb (x (j / 40)) (j % 40) := by
  unfold thP; rw [h]
theorem sy_sh (h40 : lim % 40 = 0) {j : Nat} (h : Nat.blt j lim = true) {v : Value} (hv : ownS v = true) : syV (thP θb θe x lim) (shV (j / 40) v) = syV (θb (x (j / 40))) v := by
  unfold ownS at hv
  split at hv
  · rename_i k
    have hk : k < 40 := Nat.le_of_ble_eq_true (show Nat.ble (k + 1) 40 = true from hv)
    have hj : j < lim := Nat.le_of_ble_eq_true (show Nat.ble (j + 1) lim = true from h)
    have e1 : (40 * (j / 40) + k) / 40 = j / 40 := by omega
    have e2 : (40 * (j / 40) + k) % 40 = k := by omega
    have e3 : Nat.blt (40 * (j / 40) + k) lim = true := Nat.ble_eq_true_of_le (show 40 * (j / 40) + k + 1 ≤ lim by omega)
    show thP θb θe x lim (40 * (j / 40) + k) = _
    rw [thP_at e3, e1, e2]
    rfl
  · rfl
  · rfl
  · cases hv
theorem low_sh (h1 : lim ≤ 1000) (h40 : lim % 40 = 0) {j : Nat} (h : Nat.blt j lim = true) {v : Value} (hv : ownS v = true) : lowS (shV (j / 40) v) = true := by
  unfold ownS at hv
  split at hv
  · rename_i k
    have hk : k < 40 := Nat.le_of_ble_eq_true (show Nat.ble (k + 1) 40 = true from hv)
    have hj : j < lim := Nat.le_of_ble_eq_true (show Nat.ble (j + 1) lim = true from h)
    exact Nat.ble_eq_true_of_le (show 40 * (j / 40) + k + 1 ≤ 1000 by omega)
  · rfl
  · rfl
  · cases hv
theorem low_blt (h1 : lim ≤ 1000) {j : Nat} (h : Nat.blt j lim = true) : lowS (.chan (some j)) = true := by
  have hj : j < lim := Nat.le_of_ble_eq_true (show Nat.ble (j + 1) lim = true from h)
  exact Nat.ble_eq_true_of_le (show j + 1 ≤ 1000 by omega)
theorem f1P_ok (hl : lim ≤ 1000) (h40 : lim % 40 = 0) {r e : List (U1 × Value × Value)} (hr : ∀ i, i < lim / 40 → ∀ p ∈ r, Rule1 (θb (x i)) p) (ho : own1 r = true) (he : ∀ p ∈ e, Rule1 (thP θb θe x lim) p) (le : low1 e = true) (o : U1) (u v : Value) (h : f1P r e lim o u = some v) : lowS u = true ∧ lowS v = true ∧ o.ap (syV (thP θb θe x lim) u) = some (syV (thP θb θe x lim) v) := by
  unfold f1P at h
  split at h
  · rename_i j
    split at h
    · rename_i hj
      split at h
      · rename_i v0 hf
        obtain rfl := Option.some.inj h
        have hv := find1_own ho hf
        have hi : j / 40 < lim / 40 := by
          have : j < lim := Nat.le_of_ble_eq_true (show Nat.ble (j + 1) lim = true from hj)
          omega
        obtain ⟨_, _, h3⟩ := find1_ok (hr _ hi) hf
        refine ⟨low_blt hl hj, low_sh hl h40 hj hv, ?_⟩
        rw [sy_sh h40 hj hv, ← h3]
        show o.ap (thP θb θe x lim j) = o.ap (θb (x (j / 40)) (j % 40))
        rw [thP_at hj]
      · cases h
    · obtain ⟨h1, h2⟩ := find1_low le h
      exact ⟨h1, h2, (find1_ok he h).2.2⟩
  · cases h
theorem own_low {v : Value} (h : ownS v = true) (hn : ∀ j, v ≠ .chan (some j)) : lowS v = true ∧ ∀ θ, syV θ v = v := by
  unfold ownS at h
  split at h
  · rename_i j; exact absurd rfl (hn j)
  · exact ⟨rfl, fun _ => rfl⟩
  · exact ⟨rfl, fun _ => rfl⟩
  · cases h
theorem f2P_ok (hl : lim ≤ 1000) (h40 : lim % 40 = 0) {r e : List (U2 × Value × Value × Value)} (hr : ∀ i, i < lim / 40 → ∀ p ∈ r, Rule2 (θb (x i)) p) (ho : own2 r = true) (he : ∀ p ∈ e, Rule2 (thP θb θe x lim) p) (le : low2 e = true) (o : U2) (u v z : Value) (h : f2P r e lim o u v = some z) : lowS u = true ∧ lowS v = true ∧ lowS z = true ∧ o.ap (syV (thP θb θe x lim) u) (syV (thP θb θe x lim) v) = some (syV (thP θb θe x lim) z) := by
  have hlt : ∀ {j}, Nat.blt j lim = true → j / 40 < lim / 40 := fun {j} hj => by
    have : j < lim := Nat.le_of_ble_eq_true (show Nat.ble (j + 1) lim = true from hj)
    omega
  have hext : find2 e o u v = some z → lowS u = true ∧ lowS v = true ∧ lowS z = true ∧ o.ap (syV (thP θb θe x lim) u) (syV (thP θb θe x lim) v) = some (syV (thP θb θe x lim) z) := fun h => by
    obtain ⟨h1, h2, h3⟩ := find2_low le h
    exact ⟨h1, h2, h3, (find2_ok he h).2.2.2⟩
  unfold f2P at h
  split at h
  · rename_i j j'
    split at h
    · rename_i hb
      simp only [Bool.and_eq_true] at hb
      obtain ⟨b1, b2, b3⟩ := hb
      have b3 := Nat.eq_of_beq_eq_true b3
      split at h
      · rename_i v0 hf
        obtain rfl := Option.some.inj h
        obtain ⟨_, _, hv⟩ := find2_own ho hf
        obtain ⟨_, _, _, h3⟩ := find2_ok (hr _ (hlt b1)) hf
        refine ⟨low_blt hl b1, low_blt hl b2, low_sh hl h40 b1 hv, ?_⟩
        rw [sy_sh h40 b1 hv, ← h3]
        show o.ap (thP θb θe x lim j) (thP θb θe x lim j') = o.ap (θb (x (j / 40)) (j % 40)) (θb (x (j / 40)) (j' % 40))
        rw [thP_at b1, thP_at b2, b3]
      · cases h
    · exact hext h
  · rename_i j hn
    split at h
    · rename_i b1
      split at h
      · rename_i v0 hf
        obtain rfl := Option.some.inj h
        obtain ⟨_, hv2, hv⟩ := find2_own ho hf
        obtain ⟨_, _, _, h3⟩ := find2_ok (hr _ (hlt b1)) hf
        obtain ⟨q1, q2⟩ := own_low hv2 fun j' e => hn j' e
        refine ⟨low_blt hl b1, q1, low_sh hl h40 b1 hv, ?_⟩
        rw [sy_sh h40 b1 hv, ← h3, q2, q2]
        show o.ap (thP θb θe x lim j) _ = o.ap (θb (x (j / 40)) (j % 40)) _
        rw [thP_at b1]
      · cases h
    · exact hext h
  · rename_i j hn
    split at h
    · rename_i b1
      split at h
      · rename_i v0 hf
        obtain rfl := Option.some.inj h
        obtain ⟨hv1, _, hv⟩ := find2_own ho hf
        obtain ⟨_, _, _, h3⟩ := find2_ok (hr _ (hlt b1)) hf
        obtain ⟨q1, q2⟩ := own_low hv1 fun j' e => hn j' e
        refine ⟨q1, low_blt hl b1, low_sh hl h40 b1 hv, ?_⟩
        rw [sy_sh h40 b1 hv, ← h3, q2, q2]
        show o.ap _ (thP θb θe x lim j) = o.ap _ (θb (x (j / 40)) (j % 40))
        rw [thP_at b1]
      · cases h
    · exact hext h
  · cases h
theorem fqP_ok (hl : lim ≤ 1000) (h40 : lim % 40 = 0) {r e : List (Value × Value × Bool)} (hr : ∀ i, i < lim / 40 → ∀ p ∈ r, RuleE (θb (x i)) p) (he : ∀ p ∈ e, RuleE (thP θb θe x lim) p) (le : lowE e = true) (u v : Value) (b : Bool) (h : fqP r e lim u v = some b) : lowS u = true ∧ lowS v = true ∧ ∃ k a c, syV (thP θb θe x lim) u = .int k a ∧ syV (thP θb θe x lim) v = .int k c ∧ b = (a == c) := by
  have hext : findQ e u v = some b → lowS u = true ∧ lowS v = true ∧ ∃ k a c, syV (thP θb θe x lim) u = .int k a ∧ syV (thP θb θe x lim) v = .int k c ∧ b = (a == c) := fun h => by
    obtain ⟨h1, h2⟩ := findQ_low le h
    exact ⟨h1, h2, (findQ_ok he h).2.2⟩
  unfold fqP at h
  split at h
  · rename_i j j'
    split at h
    · rename_i hb
      simp only [Bool.and_eq_true] at hb
      obtain ⟨b1, b2, b3⟩ := hb
      have b3 := Nat.eq_of_beq_eq_true b3
      have hi : j / 40 < lim / 40 := by
        have : j < lim := Nat.le_of_ble_eq_true (show Nat.ble (j + 1) lim = true from b1)
        omega
      obtain ⟨_, _, k, a, c, h1, h2, h3⟩ := findQ_ok (hr _ hi) h
      refine ⟨low_blt hl b1, low_blt hl b2, k, a, c, ?_, ?_, h3⟩
      · show thP θb θe x lim j = _
        rw [thP_at b1]; exact h1
      · show thP θb θe x lim j' = _
        rw [thP_at b2, ← b3]; exact h2
    · exact hext h
  · exact hext h
end
/-- Symbols of numbers that are alike, and rows. -/
abbrev syRowsP (θb : Int → Nat → Value) (θe : Nat → Value) (x : Nat → Int) (lim : Nat) (hp : ∀ x j, plainV (θb x j) = true) (hq : ∀ j, plainV (θe j) = true) (hl : lim ≤ 1000) (h40 : lim % 40 = 0)
    (r1 e1 : List (U1 × Value × Value)) (r2 e2 : List (U2 × Value × Value × Value)) (rq eq : List (Value × Value × Bool))
    (h1 : ∀ i, i < lim / 40 → ∀ p ∈ r1, Rule1 (θb (x i)) p) (o1 : own1 r1 = true) (g1 : ∀ p ∈ e1, Rule1 (thP θb θe x lim) p) (l1 : low1 e1 = true)
    (h2 : ∀ i, i < lim / 40 → ∀ p ∈ r2, Rule2 (θb (x i)) p) (o2 : own2 r2 = true) (g2 : ∀ p ∈ e2, Rule2 (thP θb θe x lim) p) (l2 : low2 e2 = true)
    (h3 : ∀ i, i < lim / 40 → ∀ p ∈ rq, RuleE (θb (x i)) p) (g3 : ∀ p ∈ eq, RuleE (thP θb θe x lim) p) (l3 : lowE eq = true)
    (R : List RowS) (D : List RowD) (hf : Fits (thP θb θe x lim) R D) : Sy where
  θ := thX (thP θb θe x lim) D
  plain := thX_plain fun j => plainT_of (thP_plain hp hq j)
  f1 := fX1 (f1P r1 e1 lim) R
  f2 := fX2 (f2P r2 e2 lim) R
  f3 := fX3 R
  fe := fqP rq eq lim
  fl := fXl R
  fr := fXr R
  K := RowsIn (thP θb θe x lim) R D
  kk := fun _ _ h hk => h.keep hk
  ok1 := fX1_ok hf (f1P_ok hl h40 h1 o1 g1 l1)
  ok2 := fX2_ok hf (f2P_ok hl h40 h2 o2 g2 l2)
  ok3 := fX3_ok hf
  okl := fXl_ok hf
  okr := fXr_ok hf
  okp := thX_ptr hf (thP_plain hp hq)
  oke := fun u v b h => by
    obtain ⟨q1, q2, q3⟩ := fqP_ok hl h40 h3 g3 l3 u v b h
    rw [low_syV q1, low_syV q2]
    exact ⟨low_isSy q1, low_isSy q2, q3⟩
end
end Go.Eng
