/- Rows of numbers that are sorted: an array of numbers in a block; two cells swapped; two compared. -/
import Derived.Test.YtkgpmjjleemdlaaGreatBase
import Derived.Test.YtkgpmjjleemdlaaGreatEngO
import Derived.Sort.AssemblyPlain
import Derived.Test.YtkgpmjjleemdlaaGreatCmdsA
set_option linter.unusedSimpArgs false
set_option linter.unusedVariables false
set_option maxRecDepth 8000
namespace Go.Eng

/-- A stored cell of a row. -/
theorem row_put {T : TypeId} {k : Nat} {w : World} {n : Nat} {xs : List Value} {g c : Nat} (h : Row T k w (.slice (some ⟨g, 0, none⟩) n c) n xs) {j : Nat} (hj : j < n * k) {x : Value} (hx : x.cells = #[x]) (h1 : x.oneCell' = true) :
    ∃ w', stv w 1 (.pointer (some ⟨g, j, none⟩)) x = some w' ∧ Row T k w' (.slice (some ⟨g, 0, none⟩) n c) n (xs.set j x) ∧ Kept (fun i => i = g) w w' := by
  obtain ⟨hl, h2⟩ := h
  rcases h2 with ⟨h, _⟩ | ⟨g', cap, cur, hv, hb, hg, hc, hm, hs, hx2⟩
  · cases h
  · cases hv
    have hlen : cur.size = c * k := hs
    have hnk : n * k ≤ c * k := Nat.mul_le_mul_right _ hc
    refine ⟨_, stv_of (n := 1) (v := x) hg (by rw [hx]; rfl) (by omega) (.inl (by simp)) (by rw [hx]; simpa using h1), ⟨by simpa using hl, .inr ⟨g, c, _, rfl, hb, put_same (blk_lt hg), hc, hm, by rw [Go.Eng.setRow_size]; exact hs, ?_⟩⟩, (Kept.refl (fun i => i = g) w).put (b := g) (fun _ => rfl) _⟩
    rw [hx]
    simp only [setRow_cons, setRow_nil]
    rw [← hx2]
    show ((cur.setIfInBounds j x).toList).take (n * k) = _
    rw [Array.toList_setIfInBounds, List.take_set]

/-! Arrays of numbers. -/
abbrev numC (k : IntKind) (d : Array Int) : List Value := d.toList.map (Value.int k)
def ArrAt (T : TypeId) (k : IntKind) (w : World) (g c : Nat) (d : Array Int) : Prop := Row T 1 w (.slice (some ⟨g, 0, none⟩) d.size c) d.size (numC k d)
section
variable {T : TypeId} {k : IntKind} {w w' : World} {g c : Nat} {d : Array Int}
theorem ArrAt.calm (h : ArrAt T k w g c d) (hk : Kept none' w w') : ArrAt T k w' g c d := by
  unfold ArrAt at h ⊢
  refine ⟨h.1, ?_⟩
  rcases h.2 with h2 | ⟨g', cap, cur, e, hb, h2, h3⟩
  · exact .inl h2
  · exact .inr ⟨g', cap, cur, e, hb, hk.has h2 (fun h => h), h3⟩
theorem ArrAt.keep {S : Nat → Prop} (h : ArrAt T k w g c d) (hk : Kept S w w') (hg : ¬ S g) : ArrAt T k w' g c d := by
  unfold ArrAt at h ⊢
  refine ⟨h.1, ?_⟩
  rcases h.2 with h2 | ⟨g', cap, cur, e, hb, h2, h3⟩
  · exact .inl h2
  · cases e
    exact .inr ⟨g, c, cur, rfl, hb, hk.has h2 hg, h3⟩
theorem ArrAt.lt (h : ArrAt T k w g c d) : g < w.heap.size := by
  unfold ArrAt at h
  rcases h.2 with ⟨h2, _⟩ | ⟨g', cap, cur, e, hb, h2, h3⟩
  · cases h2
  · cases e
    exact blk_lt h2
theorem ArrAt.get (h : ArrAt T k w g c d) {i : Nat} (hi : i < d.size) : wcell w g i = some (.int k d[i]!) := by
  unfold ArrAt at h
  rcases h.2 with ⟨h0, _⟩ | ⟨g', cap, cur, e, hb, h2, h3, h4, h5, h6⟩
  · cases h0
  · cases e
    rw [wcell_of h2]
    have : (cur.toList.take (d.size * 1))[i]? = (numC k d)[i]? := by rw [h6]
    rw [List.getElem?_take, if_pos (by omega)] at this
    simp [numC, hi] at this
    simpa [hi] using this
theorem ArrAt.put (h : ArrAt T k w g c d) {i : Nat} (hi : i < d.size) (x : Int) : ∃ w', stv w 1 (.pointer (some ⟨g, i, none⟩)) (.int k x) = some w' ∧ ArrAt T k w' g c (d.setIfInBounds i x) ∧ Kept (fun j => j = g) w w' := by
  unfold ArrAt at h
  obtain ⟨w', hs, hr, hk⟩ := row_put h (j := i) (by omega) (x := .int k x) rfl rfl
  refine ⟨w', hs, ?_, hk⟩
  unfold ArrAt
  have e : numC k (d.setIfInBounds i x) = (numC k d).set i (.int k x) := by
    simp [numC, Array.toList_setIfInBounds, List.map_set]
  rw [e, Array.size_setIfInBounds]
  exact hr
end
section
variable {P : Program} {T : TypeId} {k : IntKind} {R : Env → World → Prop} {K : List It} {env : Env} {w : World} {g c : Nat} {d : Array Int}
open Go.Sort
/-- An index in slot 0's slice. -/
theorem ix_row (hs : (Ex.var 0).ev env w = some (.slice (some ⟨g, 0, none⟩) d.size c)) {e : Ex} {i : Nat} (he : e.ev env w = some (.int .i64 i)) (hi : i < d.size) : (Ex.ixSl 1 (.var 0) e).ev env w = some (.pointer (some ⟨g, i, none⟩)) := by
  show ((Ex.var 0).ev env w).bind _ = _
  rw [hs]
  show (e.ev env w).bind _ = _
  rw [he]
  have h1 : (0 : Int) ≤ i ∧ (i : Int) < d.size := by omega
  show (if (0 : Int) ≤ i ∧ (i : Int) < d.size then some (Value.pointer (some ⟨g, 0 + (i : Int).toNat * 1, none⟩)) else none) = _
  rw [if_pos h1]
  simp
theorem ld_row (h : ArrAt T k w g c d) (hs : (Ex.var 0).ev env w = some (.slice (some ⟨g, 0, none⟩) d.size c)) {e : Ex} {i : Nat} (he : e.ev env w = some (.int .i64 i)) (hi : i < d.size) : (Ex.ld none (.ixSl 1 (.var 0) e)).ev env w = some (.int k d[i]!) := by
  show ((Ex.ixSl 1 (.var 0) e).ev env w).bind _ = _
  rw [ix_row hs he hi]
  have := h.get hi
  simp [this]
theorem evs_two {a b : Ex} {u v : Value} (ha : a.ev env w = some u) (hb : b.ev env w = some v) : evs env w [a, b] = some [u, v] := by simp [evs, ha, hb]
theorem evs_one {a : Ex} {u : Value} (ha : a.ev env w = some u) : evs env w [a] = some [u] := by simp [evs, ha]
/-- Two cells swapped. -/
theorem W_swap {t : Nat} {ei ej : Ex} {i j : Nat} (h : ArrAt T k w g c d) (hi : i < d.size) (hj : j < d.size)
    (h0 : ∀ w' : World, (Ex.var 0).ev env w' = some (.slice (some ⟨g, 0, none⟩) d.size c)) (he : ∀ w' : World, ei.ev env w' = some (.int .i64 i)) (hf : ∀ w' : World, ej.ev env w' = some (.int .i64 j))
    (h0' : ∀ (x : Int) (w' : World), (Ex.var 0).ev (env.set t (.int k x)) w' = some (.slice (some ⟨g, 0, none⟩) d.size c)) (he' : ∀ (x : Int) (w' : World), ei.ev (env.set t (.int k x)) w' = some (.int .i64 i)) (hf' : ∀ (x : Int) (w' : World), ej.ev (env.set t (.int k x)) w' = some (.int .i64 j))
    (ht : ∀ (x : Int) (w' : World), (Ex.var t).ev (env.set t (.int k x)) w' = some (.int k x))
    (hk : ∀ w', ArrAt T k w' g c (swp d i j) → Kept (fun b => b = g) w w' → W P R K (env.set t (.int k d[i]!)) w') :
    W P R (.c .draw :: .c (.seq (.chk [.ld none (.ixSl 1 (.var 0) ej)]) (.seq (.set t (.ld none (.ixSl 1 (.var 0) ei))) (.seq (.store 1 (.ixSl 1 (.var 0) ei) (.ld none (.ixSl 1 (.var 0) ej)) []) (.store 1 (.ixSl 1 (.var 0) ej) (.var t) [])))) :: K) env w := by
  have hd : ArrAt T k w.drew g c d := h.calm (Kept.refl none' w).drew
  have hkd : Kept (fun b => b = g) w w.drew := (Kept.refl _ w).drew
  rw [W_draw, W_seq]
  generalize w.drew = w1 at *
  refine W_chkIn [.int k d[j]!] (evs_one (ld_row hd (h0 w1) (hf w1) hj)) ?_
  rw [W_seq, W_set]
  refine ok_intro (.int k d[i]!) (ld_row hd (h0 w1) (he w1) hi) ?_
  rw [W_seq]
  obtain ⟨w2, hs2, hd2, hk2⟩ := hd.put hi d[j]!
  refine W_store (ix_row (h0' _ w1) (he' _ w1) hi) (ld_row hd (h0' _ w1) (hf' _ w1) hj) hs2 (stab_nil _ _ _) ?_
  obtain ⟨w3, hs3, hd3, hk3⟩ := hd2.put (i := j) (by simpa using hj) d[i]!
  refine W_store (ix_row (h0' _ w2) (hf' _ w2) hj) (ht _ w2) hs3 (stab_nil _ _ _) ?_
  exact hk w3 hd3 ((hkd.trans hk2).trans hk3)
/-- Two cells compared, where a condition holds. -/
theorem W_less {fl : FuncId} {t : Nat} {C e1 e2 fin : Ex} {i1 i2 : Nat} {cb neg : Bool} {A B : Cmd} (hless : ∀ (w : World) (x y : Int), Eng.T P w fl [.int k x, .int k y] = some (.bool (ltInt x y))) (h : ArrAt T k w g c d)
    (h0 : ∀ w' : World, (Ex.var 0).ev env w' = some (.slice (some ⟨g, 0, none⟩) d.size c)) (hC : ∀ w' : World, C.ev env w' = some (.bool cb))
    (hi : cb = true → i1 < d.size ∧ i2 < d.size) (h1 : cb = true → ∀ w' : World, e1.ev env w' = some (.int .i64 i1)) (h2 : cb = true → ∀ w' : World, e2.ev env w' = some (.int .i64 i2))
    (hf1 : cb = true → ∀ (b : Bool) (w' : World), fin.ev (env.set t (.bool b)) w' = some (.bool (if neg then !b else b))) (hf0 : cb = false → ∀ w' : World, fin.ev (env.set t undef) w' = some (.bool false))
    (hA : cb = true → ltInt d[i1]! d[i2]! = !neg → ∀ (tv : Value) (w' : World), ArrAt T k w' g c d → Kept none' w w' → W P R (.c A :: K) (env.set t tv) w')
    (hB : (cb = true → ltInt d[i1]! d[i2]! = neg) → ∀ (tv : Value) (w' : World), ArrAt T k w' g c d → Kept none' w w' → W P R (.c B :: K) (env.set t tv) w') :
    W P R (.c .draw :: .c (.seq (.chk [.pick C (.ld none (.ixSl 1 (.var 0) e2)) (.const (.bool false)), .pick C (.ld none (.ixSl 1 (.var 0) e1)) (.const (.bool false))]) (.cond (.pick C (.const (.bool true)) (.const (.bool false))) (.call (some t) fl [.ld none (.ixSl 1 (.var 0) e1), .ld none (.ixSl 1 (.var 0) e2)] []) (.clr [t]))) :: .c (.cond fin A B) :: K) env w := by
  have hd : ArrAt T k w.drew g c d := h.calm (Kept.refl none' w).drew
  have hkd : Kept none' w w.drew := (Kept.refl _ w).drew
  rw [W_draw, W_seq]
  generalize w.drew = w1 at *
  have pk : ∀ (a b : Ex) (w' : World), (Ex.pick C a b).ev env w' = if cb then a.ev env w' else b.ev env w' := by
    intro a b w'
    show ((C.ev env w').bind fun c => pickV c (a.ev env w') (b.ev env w')) = _
    rw [hC]
    cases cb <;> rfl
  cases hcb : cb with
  | true =>
    rw [hcb] at hi h1 h2 hf1 hA hB pk
    obtain ⟨hi1, hi2⟩ := hi rfl
    have l1 := ld_row hd (h0 w1) (h1 rfl w1) hi1
    have l2 := ld_row hd (h0 w1) (h2 rfl w1) hi2
    refine W_chkIn [.int k d[i2]!, .int k d[i1]!] (evs_two (by rw [pk]; exact l2) (by rw [pk]; exact l1)) ?_
    refine W_yes (by rw [pk]; rfl) ?_
    refine W_calm (evs_two l1 l2) (ret_of_T (hless w1 _ _)) ?_
    intro w2 hk2
    have hk02 := hkd.trans hk2
    refine W_cond (hf1 rfl _ w2) ?_ ?_
    · intro hb
      refine hA rfl ?_ _ w2 (hd.calm hk2) hk02
      cases neg <;> simpa using hb
    · intro hb
      refine hB (fun _ => ?_) _ w2 (hd.calm hk2) hk02
      cases neg <;> simpa using hb
  | false =>
    rw [hcb] at hf0 hB pk
    refine W_chkIn [.bool false, .bool false] (evs_two (by rw [pk]; rfl) (by rw [pk]; rfl)) ?_
    refine W_no (by rw [pk]; rfl) ?_
    rw [W_clr]
    refine W_no (hf0 rfl w1) ?_
    exact hB (fun h => by cases h) _ w1 hd hkd
/-- Likewise; the condition behind it is still to be asked. -/
theorem W_lessC {fl : FuncId} {t : Nat} {C e1 e2 fin : Ex} {i1 i2 : Nat} {cb neg : Bool} {A B : Cmd} (hless : ∀ (w : World) (x y : Int), Eng.T P w fl [.int k x, .int k y] = some (.bool (ltInt x y))) (h : ArrAt T k w g c d)
    (h0 : ∀ w' : World, (Ex.var 0).ev env w' = some (.slice (some ⟨g, 0, none⟩) d.size c)) (hC : ∀ w' : World, C.ev env w' = some (.bool cb))
    (hi : cb = true → i1 < d.size ∧ i2 < d.size) (h1 : cb = true → ∀ w' : World, e1.ev env w' = some (.int .i64 i1)) (h2 : cb = true → ∀ w' : World, e2.ev env w' = some (.int .i64 i2))
    (hf1 : cb = true → ∀ (b : Bool) (w' : World), fin.ev (env.set t (.bool b)) w' = some (.bool (if neg then !b else b))) (hf0 : cb = false → ∀ w' : World, fin.ev (env.set t undef) w' = some (.bool false))
    (hK : ∀ (tv : Value) (w' : World), ArrAt T k w' g c d → Kept none' w w' → (∀ w'' : World, fin.ev (env.set t tv) w'' = some (.bool (cb && (if neg then !(ltInt d[i1]! d[i2]!) else ltInt d[i1]! d[i2]!)))) → W P R (.c (.cond fin A B) :: K) (env.set t tv) w') :
    W P R (.c .draw :: .c (.seq (.chk [.pick C (.ld none (.ixSl 1 (.var 0) e2)) (.const (.bool false)), .pick C (.ld none (.ixSl 1 (.var 0) e1)) (.const (.bool false))]) (.cond (.pick C (.const (.bool true)) (.const (.bool false))) (.call (some t) fl [.ld none (.ixSl 1 (.var 0) e1), .ld none (.ixSl 1 (.var 0) e2)] []) (.clr [t]))) :: .c (.cond fin A B) :: K) env w := by
  have hd : ArrAt T k w.drew g c d := h.calm (Kept.refl none' w).drew
  have hkd : Kept none' w w.drew := (Kept.refl _ w).drew
  rw [W_draw, W_seq]
  generalize w.drew = w1 at *
  have pk : ∀ (a b : Ex) (w' : World), (Ex.pick C a b).ev env w' = if cb then a.ev env w' else b.ev env w' := by
    intro a b w'
    show ((C.ev env w').bind fun c => pickV c (a.ev env w') (b.ev env w')) = _
    rw [hC]
    cases cb <;> rfl
  cases hcb : cb with
  | true =>
    rw [hcb] at hi h1 h2 hf1 hK pk
    obtain ⟨hi1, hi2⟩ := hi rfl
    have l1 := ld_row hd (h0 w1) (h1 rfl w1) hi1
    have l2 := ld_row hd (h0 w1) (h2 rfl w1) hi2
    refine W_chkIn [.int k d[i2]!, .int k d[i1]!] (evs_two (by rw [pk]; exact l2) (by rw [pk]; exact l1)) ?_
    refine W_yes (by rw [pk]; rfl) ?_
    refine W_calm (evs_two l1 l2) (ret_of_T (hless w1 _ _)) ?_
    intro w2 hk2
    have hk02 := hkd.trans hk2
    exact hK _ w2 (hd.calm hk2) hk02 fun w'' => by rw [hf1 rfl _ w'', Bool.true_and]
  | false =>
    rw [hcb] at hf0 hK pk
    refine W_chkIn [.bool false, .bool false] (evs_two (by rw [pk]; rfl) (by rw [pk]; rfl)) ?_
    refine W_no (by rw [pk]; rfl) ?_
    rw [W_clr]
    exact hK _ w1 hd hkd fun w'' => by show fin.ev (env.set t undef) w'' = _; rw [hf0 rfl w'', Bool.false_and]
/-- Two cells compared. -/
theorem W_less1 {fl : FuncId} {t : Nat} {e1 e2 fin : Ex} {i1 i2 : Nat} {neg : Bool} {A B : Cmd} (hless : ∀ (w : World) (x y : Int), Eng.T P w fl [.int k x, .int k y] = some (.bool (ltInt x y))) (h : ArrAt T k w g c d)
    (h0 : ∀ w' : World, (Ex.var 0).ev env w' = some (.slice (some ⟨g, 0, none⟩) d.size c))
    (hi1 : i1 < d.size) (hi2 : i2 < d.size) (h1 : ∀ w' : World, e1.ev env w' = some (.int .i64 i1)) (h2 : ∀ w' : World, e2.ev env w' = some (.int .i64 i2))
    (hf1 : ∀ (b : Bool) (w' : World), fin.ev (env.set t (.bool b)) w' = some (.bool (if neg then !b else b)))
    (hA : ltInt d[i1]! d[i2]! = !neg → ∀ (tv : Value) (w' : World), ArrAt T k w' g c d → Kept none' w w' → W P R (.c A :: K) (env.set t tv) w')
    (hB : ltInt d[i1]! d[i2]! = neg → ∀ (tv : Value) (w' : World), ArrAt T k w' g c d → Kept none' w w' → W P R (.c B :: K) (env.set t tv) w') :
    W P R (.c .draw :: .c (.call (some t) fl [.ld none (.ixSl 1 (.var 0) e1), .ld none (.ixSl 1 (.var 0) e2)] []) :: .c (.cond fin A B) :: K) env w := by
  have hd : ArrAt T k w.drew g c d := h.calm (Kept.refl none' w).drew
  have hkd : Kept none' w w.drew := (Kept.refl _ w).drew
  rw [W_draw]
  generalize w.drew = w1 at *
  have l1 := ld_row hd (h0 w1) (h1 w1) hi1
  have l2 := ld_row hd (h0 w1) (h2 w1) hi2
  refine W_calm (evs_two l1 l2) (ret_of_T (hless w1 _ _)) ?_
  intro w2 hk2
  have hk02 := hkd.trans hk2
  refine W_cond (hf1 _ w2) ?_ ?_
  · intro hb
    refine hA ?_ _ w2 (hd.calm hk2) hk02
    cases neg <;> simpa using hb
  · intro hb
    refine hB ?_ _ w2 (hd.calm hk2) hk02
    cases neg <;> simpa using hb
end
end Go.Eng

set_option linter.unusedSimpArgs false
set_option linter.unusedVariables false
set_option maxRecDepth 8000
namespace Go.Proofs.YtkgpmjjleemdlaaGreat
open Go.Eng Go.Sort

abbrev A32 (w : World) (g c : Nat) (d : Array Int) : Prop := ArrAt 21 .i32 w g c d
attribute [local irreducible] Go.Eng.W
theorem swp_len (d : Array Int) (i j : Nat) : (swp d i j).size = d.size := swp_size d i j
theorem i64_pred {j : Nat} (h : 0 < j) (h2 : j ≤ 1000000) : IntKind.i64.wrap ((j : Int) - 1) = ((j - 1 : Nat) : Int) := by rw [i64w (by omega) (by omega)]; omega
theorem i64_succ {j : Nat} (h2 : j ≤ 1000000) : IntKind.i64.wrap ((j : Int) + 1) = ((j + 1 : Nat) : Int) := by rw [i64w (by omega) (by omega)]; omega
theorem insOuter_eq (a b i : Nat) (d : Array Int) : insOuter ltInt a b i d = if i < b then insOuter ltInt a b (i + 1) (insInner ltInt a i d) else d := by rw [insOuter]
end Go.Proofs.YtkgpmjjleemdlaaGreat

set_option linter.unusedSimpArgs false
set_option linter.unusedVariables false
set_option maxRecDepth 8000
namespace Go.Proofs.YtkgpmjjleemdlaaGreat
open Go.Eng Go.Sort
attribute [local irreducible] Go.Eng.W

theorem nat_add (a b : Nat) (h : a + b ≤ 1000000) : IntKind.i64.wrap ((a : Int) + (b : Int)) = ((a + b : Nat) : Int) := by rw [i64w (by omega) (by omega)]; omega
theorem nat_sub (a b : Nat) (h : b ≤ a) (h2 : a ≤ 1000000) : IntKind.i64.wrap ((a : Int) - (b : Int)) = ((a - b : Nat) : Int) := by rw [i64w (by omega) (by omega)]; omega
theorem nat_dbl (a : Nat) (h : a ≤ 1000000) : IntKind.i64.wrap (2 * (a : Int)) = ((2 * a : Nat) : Int) := by rw [i64w (by omega) (by omega)]; omega
theorem lt_nat (a b : Nat) : decide ((a : Int) < (b : Int)) = decide (a < b) := by
  by_cases h : a < b
  · rw [decide_eq_true h, decide_eq_true (by omega)]
  · rw [decide_eq_false h, decide_eq_false (by omega)]
theorem le_nat (a b : Nat) : decide ((a : Int) ≤ (b : Int)) = decide (a ≤ b) := by
  by_cases h : a ≤ b
  · rw [decide_eq_true h, decide_eq_true (by omega)]
  · rw [decide_eq_false h, decide_eq_false (by omega)]
/-- One way down. -/
theorem sift_step (hi f r : Nat) (d : Array Int) (h : 2 * r + 1 < hi) (c : Nat) (hc : c = if 2 * r + 1 + 1 < hi ∧ ltInt d[f + (2 * r + 1)]! d[f + (2 * r + 1) + 1]! = true then 2 * r + 2 else 2 * r + 1) :
    siftDown ltInt hi f r d = if ltInt d[f + r]! d[f + c]! = true then siftDown ltInt hi f c (swp d (f + r) (f + c)) else d := by
  rw [siftDown, dif_neg (by omega)]
  by_cases h1 : 2 * r + 1 + 1 < hi ∧ ltInt d[f + (2 * r + 1)]! d[f + (2 * r + 1) + 1]! = true
  · rw [if_pos h1] at hc
    subst hc
    rw [if_pos (by simp only [Bool.and_eq_true, decide_eq_true_eq]; exact h1)]
    cases hl : ltInt d[f + r]! d[f + (2 * r + 2)]! with
    | true => rw [if_neg (by simp), dif_pos (by omega), if_pos rfl]
    | false => rw [if_pos (by simp), if_neg (by simp)]
  · rw [if_neg h1] at hc
    subst hc
    rw [if_neg (by simp only [Bool.and_eq_true, decide_eq_true_eq]; exact h1)]
    cases hl : ltInt d[f + r]! d[f + (2 * r + 1)]! with
    | true => rw [if_neg (by simp), if_pos rfl]
    | false => rw [if_pos (by simp), if_neg (by simp)]
theorem sift_end (hi f r : Nat) (d : Array Int) (h : ¬ 2 * r + 1 < hi) : siftDown ltInt hi f r d = d := by rw [siftDown, dif_pos (by omega)]
def sucAt (env : List Value) (i : Nat) : Nat := match env[i]? with
  | some (.int _ n) => (n + 1).toNat
  | _ => 0
theorem tdiv2 (n : Nat) : (n : Int).tdiv 2 = ((n / 2 : Nat) : Int) := by rw [Int.tdiv_eq_ediv_of_nonneg (by omega)]; rfl
theorem reverseLoop_eq (i j : Nat) (d : Array Int) : reverseLoop i j d = if i < j then reverseLoop (i + 1) (j - 1) (swp d i j) else d := by rw [reverseLoop]
end Go.Proofs.YtkgpmjjleemdlaaGreat

set_option linter.unusedSimpArgs false
set_option linter.unusedVariables false
set_option maxRecDepth 8000
namespace Go.Proofs.YtkgpmjjleemdlaaGreat
open Go.Eng Go.Sort

theorem len_quot (n k : Nat) (h : 2 ^ k ≤ n) : bitsLen n = bitsLen (n / 2 ^ k) + k := by
  have key : ∀ m, bitsLen n ≤ m + k ↔ bitsLen (n / 2 ^ k) ≤ m := by
    intro m
    rw [bitsLen_le_iff, bitsLen_le_iff, Nat.div_lt_iff_lt_mul (Nat.two_pow_pos k), ← Nat.pow_add]
  have h1 := (key (bitsLen (n / 2 ^ k))).2 (Nat.le_refl _)
  have h2 : k ≤ bitsLen n := by
    rcases Nat.lt_or_ge (bitsLen n) k with h3 | h3
    · have := (bitsLen_le_iff n (bitsLen n)).1 (Nat.le_refl _)
      have h4 : 2 ^ bitsLen n ≤ 2 ^ k := Nat.pow_le_pow_right (by omega) (by omega)
      omega
    · exact h3
  have h3 := (key (bitsLen n - k)).1 (by omega)
  omega
theorem u64xor (a b : Nat) (ha : a < 18446744073709551616) (hb : b < 18446744073709551616) : bitXor .u64 (a : Int) (b : Int) = ((a ^^^ b : Nat) : Int) := by
  have h : a ^^^ b < 18446744073709551616 := Nat.xor_lt_two_pow (n := 64) ha hb
  show IntKind.u64.wrap (((BitVec.ofInt 64 (a : Int) ^^^ BitVec.ofInt 64 (b : Int)).toNat : Nat) : Int) = _
  rw [BitVec.toNat_xor, BitVec.ofInt_natCast, BitVec.ofInt_natCast, BitVec.toNat_ofNat, BitVec.toNat_ofNat, Nat.mod_eq_of_lt ha, Nat.mod_eq_of_lt hb]
  exact u64w (by omega) (by omega)
theorem u64and (a b : Nat) (ha : a < 18446744073709551616) (hb : b < 18446744073709551616) : bitAnd .u64 (a : Int) (b : Int) = ((a &&& b : Nat) : Int) := by
  have h : a &&& b < 18446744073709551616 := Nat.lt_of_le_of_lt Nat.and_le_left ha
  show IntKind.u64.wrap (((BitVec.ofInt 64 (a : Int) &&& BitVec.ofInt 64 (b : Int)).toNat : Nat) : Int) = _
  rw [BitVec.toNat_and, BitVec.ofInt_natCast, BitVec.ofInt_natCast, BitVec.toNat_ofNat, BitVec.toNat_ofNat, Nat.mod_eq_of_lt ha, Nat.mod_eq_of_lt hb]
  exact u64w (by omega) (by omega)
theorem u64mod (n : Nat) : IntKind.u64.wrap (n : Int) = ((n % 18446744073709551616 : Nat) : Int) := by
  show ((n : Int) % (2 ^ 64)) = _
  simp
theorem toNat_lt (r : UInt64) : r.toNat < 18446744073709551616 := r.toNat_lt
theorem shl_toNat (r : UInt64) (k : Nat) (hk : k < 64) (s : UInt64) (hs : s.toNat = k) : (r <<< s).toNat = (r.toNat * 2 ^ k) % 18446744073709551616 := by
  rw [UInt64.toNat_shiftLeft, hs, Nat.mod_eq_of_lt hk, Nat.shiftLeft_eq]
theorem shr_toNat (r : UInt64) (k : Nat) (hk : k < 64) (s : UInt64) (hs : s.toNat = k) : (r >>> s).toNat = r.toNat / 2 ^ k := by
  rw [UInt64.toNat_shiftRight, hs, Nat.mod_eq_of_lt hk, Nat.shiftRight_eq_div_pow]
theorem nat_fdiv' (a b : Nat) : Int.fdiv (a : Int) (b : Int) = ((a / b : Nat) : Int) := by
  rw [Int.fdiv_eq_ediv_of_nonneg _ (by omega)]
  rfl
theorem tab8 (n : Nat) (h : n < 256) : (#[0, 1, 2, 2, 3, 3, 3, 3, 4, 4, 4, 4, 4, 4, 4, 4, 5, 5, 5, 5, 5, 5, 5, 5, 5, 5, 5, 5, 5, 5, 5, 5, 6, 6, 6, 6, 6, 6, 6, 6, 6, 6, 6, 6, 6, 6, 6, 6, 6, 6, 6, 6, 6, 6, 6, 6, 6, 6, 6, 6, 6, 6, 6, 6, 7, 7, 7, 7, 7, 7, 7, 7, 7, 7, 7, 7, 7, 7, 7, 7, 7, 7, 7, 7, 7, 7, 7, 7, 7, 7, 7, 7, 7, 7, 7, 7, 7, 7, 7, 7, 7, 7, 7, 7, 7, 7, 7, 7, 7, 7, 7, 7, 7, 7, 7, 7, 7, 7, 7, 7, 7, 7, 7, 7, 7, 7, 7, 7, 8, 8, 8, 8, 8, 8, 8, 8, 8, 8, 8, 8, 8, 8, 8, 8, 8, 8, 8, 8, 8, 8, 8, 8, 8, 8, 8, 8, 8, 8, 8, 8, 8, 8, 8, 8, 8, 8, 8, 8, 8, 8, 8, 8, 8, 8, 8, 8, 8, 8, 8, 8, 8, 8, 8, 8, 8, 8, 8, 8, 8, 8, 8, 8, 8, 8, 8, 8, 8, 8, 8, 8, 8, 8, 8, 8, 8, 8, 8, 8, 8, 8, 8, 8, 8, 8, 8, 8, 8, 8, 8, 8, 8, 8, 8, 8, 8, 8, 8, 8, 8, 8, 8, 8, 8, 8, 8, 8, 8, 8, 8, 8, 8, 8, 8, 8, 8, 8, 8, 8, 8, 8, 8, 8, 8, 8, 8, 8] : Array UInt8)[n]? = some (UInt8.ofNat (bitsLen n)) := by
  have key : ∀ i : Fin 256, (#[0, 1, 2, 2, 3, 3, 3, 3, 4, 4, 4, 4, 4, 4, 4, 4, 5, 5, 5, 5, 5, 5, 5, 5, 5, 5, 5, 5, 5, 5, 5, 5, 6, 6, 6, 6, 6, 6, 6, 6, 6, 6, 6, 6, 6, 6, 6, 6, 6, 6, 6, 6, 6, 6, 6, 6, 6, 6, 6, 6, 6, 6, 6, 6, 7, 7, 7, 7, 7, 7, 7, 7, 7, 7, 7, 7, 7, 7, 7, 7, 7, 7, 7, 7, 7, 7, 7, 7, 7, 7, 7, 7, 7, 7, 7, 7, 7, 7, 7, 7, 7, 7, 7, 7, 7, 7, 7, 7, 7, 7, 7, 7, 7, 7, 7, 7, 7, 7, 7, 7, 7, 7, 7, 7, 7, 7, 7, 7, 8, 8, 8, 8, 8, 8, 8, 8, 8, 8, 8, 8, 8, 8, 8, 8, 8, 8, 8, 8, 8, 8, 8, 8, 8, 8, 8, 8, 8, 8, 8, 8, 8, 8, 8, 8, 8, 8, 8, 8, 8, 8, 8, 8, 8, 8, 8, 8, 8, 8, 8, 8, 8, 8, 8, 8, 8, 8, 8, 8, 8, 8, 8, 8, 8, 8, 8, 8, 8, 8, 8, 8, 8, 8, 8, 8, 8, 8, 8, 8, 8, 8, 8, 8, 8, 8, 8, 8, 8, 8, 8, 8, 8, 8, 8, 8, 8, 8, 8, 8, 8, 8, 8, 8, 8, 8, 8, 8, 8, 8, 8, 8, 8, 8, 8, 8, 8, 8, 8, 8, 8, 8, 8, 8, 8, 8, 8, 8] : Array UInt8)[i.val]? = some (UInt8.ofNat (bitsLen i.val)) := by decide +kernel
  exact key ⟨n, h⟩
theorem len8 (n : Nat) (h : n < 256) : (UInt8.ofNat (bitsLen n)).toNat = bitsLen n := by
  have : bitsLen n ≤ 8 := (bitsLen_le_iff n 8).2 (by simpa using h)
  simp
  omega
theorem len64_T (w0 : World) {n : Nat} (hn : n < 1000000) : T Tryz.prog w0 71 [.int .u64 n] = some (.int .i64 (bitsLen n)) :=
  T_of (by kernel_rfl) Tryz.func71 rfl ok_math_bits_Len64 (by simp) (by simp) fun B hB => by
    have h32 : ¬ (4294967296 : Int) ≤ n := by omega
    have hb := bitsLen_mono (show n ≤ 1000000 by omega)
    have hb2 : bitsLen 1000000 = 20 := by decide +kernel
    have c16 : IntKind.i64.wrap 16 = 16 := by decide +kernel
    have c8 : IntKind.i64.wrap 8 = 8 := by decide +kernel
    by_cases h16 : 65536 ≤ n
    · have h16' : (65536 : Int) ≤ n := by omega
      have e1 := len_quot n 16 (by simpa using h16)
      have e2 : (n : Int).fdiv (2 ^ (min 16 (IntKind.bits .u64))) = ((n / 65536 : Nat) : Int) := nat_fdiv' n 65536
      have h8 : ¬ (256 : Int) ≤ ((n / 65536 : Nat) : Int) := by omega
      have hlt : n / 65536 < 256 := by omega
      have e1' : bitsLen n = bitsLen (n / 65536) + 16 := e1
      have e3 := tab8 _ hlt
      have e4 := len8 _ hlt
      rw [e1'] at hb ⊢
      generalize n / 65536 = q at *
      have e5 : IntKind.u8.wrap (q : Int) = q := u8w (by omega) (by omega)
      have e6 : IntKind.i64.wrap (bitsLen q : Int) = bitsLen q := i64w (by omega) (by omega)
      have e7 : IntKind.i64.wrap (16 + (bitsLen q : Int)) = ((bitsLen q + 16 : Nat) : Int) := by rw [i64w (by omega) (by omega)]; omega
      simp [c_math_bits_Len64, C_cond_eq, h32, h16', e2, h8, e5, e3, e4, e6, c16, c8, e7, -Int.natCast_add, -UInt8.toNat_ofNat']
    · have h16' : ¬ (65536 : Int) ≤ n := by omega
      by_cases h8 : 256 ≤ n
      · have h8' : (256 : Int) ≤ n := by omega
        have e1 := len_quot n 8 (by simpa using h8)
        have e2 : (n : Int).fdiv (2 ^ (min 8 (IntKind.bits .u64))) = ((n / 256 : Nat) : Int) := nat_fdiv' n 256
        have hlt : n / 256 < 256 := by omega
        have e1' : bitsLen n = bitsLen (n / 256) + 8 := e1
        have e3 := tab8 _ hlt
        have e4 := len8 _ hlt
        rw [e1'] at hb ⊢
        generalize n / 256 = q at *
        have e5 : IntKind.u8.wrap (q : Int) = q := u8w (by omega) (by omega)
        have e6 : IntKind.i64.wrap (bitsLen q : Int) = bitsLen q := i64w (by omega) (by omega)
        have e7 : IntKind.i64.wrap (8 + (bitsLen q : Int)) = ((bitsLen q + 8 : Nat) : Int) := by rw [i64w (by omega) (by omega)]; omega
        simp [c_math_bits_Len64, C_cond_eq, h32, h16', h8', e2, e5, e3, e4, e6, c16, c8, e7, -Int.natCast_add, -UInt8.toNat_ofNat']
      · have h8' : ¬ (256 : Int) ≤ n := by omega
        have hlt : n < 256 := by omega
        have e3 := tab8 _ hlt
        have e4 := len8 _ hlt
        have e5 : IntKind.u8.wrap (n : Int) = n := u8w (by omega) (by omega)
        have e6 : IntKind.i64.wrap (bitsLen n : Int) = bitsLen n := i64w (by omega) (by omega)
        simp [c_math_bits_Len64, C_cond_eq, h32, h16', h8', e5, e3, e4, e6, -UInt8.toNat_ofNat']
theorem len_T (w0 : World) {n : Nat} (hn : n < 1000000) : T Tryz.prog w0 41 [.int .u64 n] = some (.int .i64 (bitsLen n)) :=
  T_of (by kernel_rfl) Tryz.func41 rfl ok_math_bits_Len (by simp) (by simp) fun B hB => by
    have e := len64_T w0 hn
    simp [c_math_bits_Len, C_cond_eq, e]
theorem pow_T (w0 : World) {n : Nat} (hn : n < 1000000) : T Tryz.prog w0 107 [.int .i64 n] = some (.int .u64 ((2 ^ bitsLen n : Nat) : Int)) :=
  T_of (by kernel_rfl) Tryz.func107 rfl ok_slices_nextPowerOfTwo (by simp) (by simp) fun B hB => by
    have e := len_T w0 hn
    have e1 : IntKind.u64.wrap (n : Int) = n := u64w (by omega) (by omega)
    have hb := bitsLen_mono (show n ≤ 1000000 by omega)
    have hb2 : bitsLen 1000000 = 20 := by decide +kernel
    have hp : 2 ^ bitsLen n ≤ 2 ^ 20 := Nat.pow_le_pow_right (by omega) (by omega)
    have hp' : 2 ^ bitsLen n ≤ 1048576 := by simpa using hp
    have hm : min (bitsLen n) (IntKind.bits .u64) = bitsLen n := Nat.min_eq_left (by show bitsLen n ≤ 64; omega)
    have e2 : IntKind.u64.wrap ((2 : Int) ^ bitsLen n) = ((2 ^ bitsLen n : Nat) : Int) := by
      have : (2 : Int) ^ bitsLen n = ((2 ^ bitsLen n : Nat) : Int) := by simp
      rw [this]
      have hq : ∀ m : Nat, m ≤ 1048576 → IntKind.u64.wrap (m : Int) = m := fun m hm => u64w (by omega) (by omega)
      exact hq _ hp'
    simp [c_slices_nextPowerOfTwo, C_cond_eq, e, e1, hm, e2, -Int.natCast_pow]
attribute [local irreducible] Go.Eng.W
abbrev RngAt (w : World) (x : Nat) (r : UInt64) : Prop := w.heap[x]? = some (.cells #[.int .u64 (r.toNat : Int)] 165 (0, 0))
theorem rng_put {w : World} {x : Nat} {r : UInt64} (h : RngAt w x r) (s : UInt64) : ∃ w', stv w 1 (.pointer (some ⟨x, 0, none⟩)) (.int .u64 (s.toNat : Int)) = some w' ∧ RngAt w' x s ∧ Kept (fun j => j = x) w w' :=
  ⟨_, box_store (n := 1) (v := .int .u64 (s.toNat : Int)) h rfl rfl (by simp [Value.cells, Value.oneCell']), put_same (blk_lt h), (Kept.refl (fun j => j = x) w).put (b := x) (fun _ => rfl) _⟩
theorem rng_drew {w : World} {x : Nat} {r : UInt64} (h : RngAt w x r) : RngAt w.drew x r := h
theorem next_ret' {x : Nat} {r : UInt64} (w : World) (h : RngAt w x r) : Ret Tryz.prog 108 [.pointer (some ⟨x, 0, none⟩)] w fun v w' => v = .int .u64 ((xorNext r).toNat : Int) ∧ RngAt w' x (xorNext r) ∧ Kept (fun j => j = x) w w' := by
  refine ret_of_W Tryz.func108 rfl ok_slices_xorshift_Next ?_
  simp only [c_slices_xorshift_Next, W_seq, W_set, W_draw]
  refine ok_intro (.int .u64 0) (by simp) ?_
  try simp only [W_seq, W_draw]
  have step : ∀ (r : UInt64) (k : Nat) (s : UInt64), k < 64 → s.toNat = k → bitXor .u64 (r.toNat : Int) (IntKind.u64.wrap ((r.toNat : Int) * 2 ^ k)) = (((r ^^^ (r <<< s)).toNat : Nat) : Int) := by
    intro r k s hk hs
    have e : (r.toNat : Int) * 2 ^ k = ((r.toNat * 2 ^ k : Nat) : Int) := by simp
    rw [e, u64mod, u64xor _ _ (toNat_lt r) (Nat.mod_lt _ (by omega)), UInt64.toNat_xor, shl_toNat r k hk s hs]
  have stepR : ∀ (r : UInt64) (k : Nat) (s : UInt64), k < 64 → s.toNat = k → bitXor .u64 (r.toNat : Int) ((r.toNat : Int).fdiv (2 ^ k)) = (((r ^^^ (r >>> s)).toNat : Nat) : Int) := by
    intro r k s hk hs
    have e : (r.toNat : Int).fdiv (2 ^ k) = ((r.toNat / 2 ^ k : Nat) : Int) := by
      have := nat_fdiv' r.toNat (2 ^ k)
      simpa using this
    rw [e, u64xor _ _ (toNat_lt r) (Nat.lt_of_le_of_lt (Nat.div_le_self _ _) (toNat_lt r)), UInt64.toNat_xor, shr_toNat r k hk s hs]
  have m13 : min 13 (IntKind.bits .u64) = 13 := rfl
  have m7 : min 7 (IntKind.bits .u64) = 7 := rfl
  have m17 : min 17 (IntKind.bits .u64) = 17 := rfl
  have hd := rng_drew h
  have hkd : Kept (fun j => j = x) w w.drew := (Kept.refl _ w).drew
  generalize w.drew = w1 at *
  obtain ⟨w2, hs2, h2, hk2⟩ := rng_put hd (r ^^^ (r <<< 13))
  have c1 : wcell w1 x 0 = some (.int .u64 (r.toNat : Int)) := by rw [wcell_of hd]; rfl
  refine W_store (vv := .int .u64 ((r ^^^ (r <<< 13)).toNat : Int)) (by simp) (by simp [c1, m13]; exact step r 13 13 (by omega) rfl) hs2 (stab_nil _ _ _) ?_
  try simp only [W_seq, W_draw]
  have hd2 := rng_drew h2
  have hkd2 : Kept (fun j => j = x) w w2.drew := (hkd.trans hk2).drew
  have hx : xorNext r = (let q := r ^^^ (r <<< 13); let p := q ^^^ (q >>> 7); p ^^^ (p <<< 17)) := rfl
  rw [hx]
  simp only
  clear hx
  generalize (r ^^^ (r <<< 13)) = r1 at *
  generalize w2.drew = w3 at *
  obtain ⟨w4, hs4, h4, hk4⟩ := rng_put hd2 (r1 ^^^ (r1 >>> 7))
  have c3 : wcell w3 x 0 = some (.int .u64 (r1.toNat : Int)) := by rw [wcell_of hd2]; rfl
  refine W_store (vv := .int .u64 ((r1 ^^^ (r1 >>> 7)).toNat : Int)) (by simp) (by simp [c3, m7]; exact stepR r1 7 7 (by omega) rfl) hs4 (stab_nil _ _ _) ?_
  try simp only [W_seq, W_draw]
  have hd4 := rng_drew h4
  have hkd4 : Kept (fun j => j = x) w w4.drew := (hkd2.trans hk4).drew
  generalize (r1 ^^^ (r1 >>> 7)) = r2 at *
  generalize w4.drew = w5 at *
  obtain ⟨w6, hs6, h6, hk6⟩ := rng_put hd4 (r2 ^^^ (r2 <<< 17))
  have c5 : wcell w5 x 0 = some (.int .u64 (r2.toNat : Int)) := by rw [wcell_of hd4]; rfl
  refine W_store (vv := .int .u64 ((r2 ^^^ (r2 <<< 17)).toNat : Int)) (by simp) (by simp [c5, m17]; exact step r2 17 17 (by omega) rfl) hs6 (stab_nil _ _ _) ?_
  have c6 : wcell w6 x 0 = some (.int .u64 ((r2 ^^^ (r2 <<< 17)).toNat : Int)) := by rw [wcell_of h6]; rfl
  simp [c6]
  exact ⟨h6, hkd4.trans hk6⟩
end Go.Proofs.YtkgpmjjleemdlaaGreat

set_option linter.unusedSimpArgs false
set_option linter.unusedVariables false
set_option maxRecDepth 8000
namespace Go.Proofs.YtkgpmjjleemdlaaGreat
open Go.Eng Go.Sort
attribute [local irreducible] Go.Eng.W

theorem keptS {S S' : Nat → Prop} {a b c : World} (h : Kept S a b) (k : Kept S' b c) (hs : ∀ i, i < a.heap.size → S' i → S i) : Kept S a c :=
  ⟨k.os.trans h.os, k.tape.trans h.tape, k.output.trans h.output, Nat.le_trans h.size k.size, fun i hi hn => (k.block i (Nat.lt_of_lt_of_le hi h.size) fun hk => hn (hs i hi hk)).trans (h.block i hi hn)⟩
/-- So many rounds. -/
def brk (a n m idx : Nat) (d : Array Int) : Nat → UInt64 × Array Int
  | 0 => (UInt64.ofNat n, d)
  | i + 1 => breakStep a n m (brk a n m idx d i) (idx + i)
theorem brk_three (d : Array Int) (a b : Nat) (h : 8 ≤ b - a) : breakPatterns d a b = (brk a (b - a) (1 <<< bitsLen (b - a)) (a + (b - a) / 4 * 2 - 1) d 3).2 := by
  unfold breakPatterns
  rw [if_pos h]
  rfl
theorem tdiv4 (n : Nat) : (n : Int).tdiv 4 = ((n / 4 : Nat) : Int) := by rw [Int.tdiv_eq_ediv_of_nonneg (by omega)]; rfl
theorem tdiv8 (n : Nat) : (n : Int).tdiv 8 = ((n / 8 : Nat) : Int) := by rw [Int.tdiv_eq_ediv_of_nonneg (by omega)]; rfl
theorem i64n (n : Nat) (h : n ≤ 9000000000) : IntKind.i64.wrap (n : Int) = n := i64w (by omega) (by omega)
abbrev CntAt (w : World) (s n : Nat) : Prop := w.heap[s]? = some (.cells #[.int .i64 (n : Int)] 3 (0, 0))
theorem cnt_put {w : World} {s n : Nat} (h : CntAt w s n) (m : Nat) : ∃ w', stv w 1 (.pointer (some ⟨s, 0, none⟩)) (.int .i64 (m : Int)) = some w' ∧ CntAt w' s m ∧ Kept (fun j => j = s) w w' :=
  ⟨_, box_store (n := 1) (v := .int .i64 (m : Int)) h rfl rfl (by simp [Value.cells, Value.oneCell']), put_same (blk_lt h), (Kept.refl (fun j => j = s) w).put (b := s) (fun _ => rfl) _⟩
theorem order2_lt (d : Array Int) {a b n N : Nat} (ha : a < N) (hb : b < N) : (order2 ltInt d a b n).1 < N ∧ (order2 ltInt d a b n).2.1 < N ∧ (order2 ltInt d a b n).2.2 ≤ n + 1 := by
  unfold order2
  split
  · exact ⟨hb, ha, Nat.le_refl _⟩
  · exact ⟨ha, hb, Nat.le_succ _⟩
theorem median_lt (d : Array Int) {a b e n N : Nat} (ha : a < N) (hb : b < N) (he : e < N) : (median ltInt d a b e n).1 < N ∧ (median ltInt d a b e n).2 ≤ n + 3 := by
  unfold median
  obtain ⟨q1, q2, q3⟩ := order2_lt d (n := n) ha hb
  obtain ⟨p1, p2, p3⟩ := order2_lt d (n := (order2 ltInt d a b n).2.2) q2 he
  obtain ⟨r1, r2, r3⟩ := order2_lt d (n := (order2 ltInt d (order2 ltInt d a b n).2.1 e (order2 ltInt d a b n).2.2).2.2) q1 p1
  exact ⟨r2, by simp only; omega⟩
def hintN : Hint → Int
  | .unknown => 0
  | .increasing => 1
  | .decreasing => 2
end Go.Proofs.YtkgpmjjleemdlaaGreat

set_option linter.unusedSimpArgs false
set_option linter.unusedVariables false
set_option maxRecDepth 8000
namespace Go.Proofs.YtkgpmjjleemdlaaGreat
open Go.Eng Go.Sort
attribute [local irreducible] Go.Eng.W

/-- Alike; it isn't put in. -/
def SameA (x y : Array Int) : Prop := x = y
theorem scanSorted_eq (d : Array Int) (b i : Nat) : scanSorted ltInt d b i = if i < b && !ltInt d[i]! d[i - 1]! then scanSorted ltInt d b (i + 1) else i := by rw [scanSorted]
theorem scanSorted_le (d : Array Int) (b : Nat) : ∀ n i, b - i ≤ n → i ≤ b → i ≤ scanSorted ltInt d b i ∧ scanSorted ltInt d b i ≤ b := by
  intro n
  induction n with
  | zero =>
    intro i h1 h2
    rw [scanSorted_eq, if_neg (by simp; omega)]
    omega
  | succ n ih =>
    intro i h1 h2
    rw [scanSorted_eq]
    split
    · rename_i h
      simp at h
      have := ih (i + 1) (by omega) (by omega)
      omega
    · omega
theorem shiftUp_eq (b j : Nat) (d : Array Int) : shiftUp ltInt b j d = if j < b then (if !ltInt d[j]! d[j - 1]! then d else shiftUp ltInt b (j + 1) (swp d j (j - 1))) else d := by rw [shiftUp]
theorem partialIns_next (a b s i : Nat) (d : Array Int) : partialIns ltInt a b (s + 1) i d =
    if scanSorted ltInt d b i = b then (d, true) else if b - a < 50 then (d, false) else
      partialIns ltInt a b s (scanSorted ltInt d b i) (if b - scanSorted ltInt d b i ≥ 2 then shiftUp ltInt b (scanSorted ltInt d b i + 1) (if scanSorted ltInt d b i - a ≥ 2 then shiftDown ltInt (scanSorted ltInt d b i - 1) (swp d (scanSorted ltInt d b i) (scanSorted ltInt d b i - 1)) else swp d (scanSorted ltInt d b i) (scanSorted ltInt d b i - 1))
        else (if scanSorted ltInt d b i - a ≥ 2 then shiftDown ltInt (scanSorted ltInt d b i - 1) (swp d (scanSorted ltInt d b i) (scanSorted ltInt d b i - 1)) else swp d (scanSorted ltInt d b i) (scanSorted ltInt d b i - 1))) := by
  rw [partialIns]
end Go.Proofs.YtkgpmjjleemdlaaGreat

set_option linter.unusedSimpArgs false
set_option linter.unusedVariables false
set_option maxRecDepth 8000
namespace Go.Proofs.YtkgpmjjleemdlaaGreat
open Go.Eng Go.Sort
attribute [local irreducible] Go.Eng.W

theorem scanUp_eq (p : Int → Bool) (d : Array Int) (j i : Nat) : scanUp p d j i = if i ≤ j && p d[i]! then scanUp p d j (i + 1) else i := by rw [scanUp]
theorem scanDown_succ (p : Int → Bool) (d : Array Int) (i j : Nat) : scanDown p d i (j + 1) = if i ≤ j + 1 && p d[j + 1]! then scanDown p d i j else j + 1 := rfl
/-- What a round finds. -/
theorem round_lt (p q : Int → Bool) (hq : ∀ x, q x = !p x) (d : Array Int) (i j : Nat) (hi : 0 < i) (hij : i ≤ j + 1) :
    i ≤ scanUp p d j i ∧ scanUp p d j i ≤ j + 1 ∧ scanDown q d (scanUp p d j i) j ≤ j ∧ scanUp p d j i ≤ scanDown q d (scanUp p d j i) j + 1 ∧
    (¬ scanUp p d j i > scanDown q d (scanUp p d j i) j → scanUp p d j i < scanDown q d (scanUp p d j i) j) := by
  obtain ⟨r1, r2, r3, r4, _, _, r7⟩ := round_facts p q hq d (i - 1) (j + 1) i j (by omega) hij (fun t h1 h2 => by omega) (fun t h1 h2 => by omega)
  exact ⟨r1, r2, r3, r4, fun h => (r7 h).2.2⟩
end Go.Proofs.YtkgpmjjleemdlaaGreat

set_option linter.unusedSimpArgs false
set_option linter.unusedVariables false
set_option maxRecDepth 8000
namespace Go.Proofs.YtkgpmjjleemdlaaGreat
open Go.Eng Go.Sort
attribute [local irreducible] Go.Eng.W

def pdqC (d3 : Array Int) (a b lim pv : Nat) (wb wp : Bool) : Array Int :=
  if a > 0 && !ltInt d3[a - 1]! d3[pv]! then
    (if _h : a < (partitionEqual ltInt d3 a b pv).1 ∧ (partitionEqual ltInt d3 a b pv).1 ≤ b then pdq ltInt (partitionEqual ltInt d3 a b pv).2 (partitionEqual ltInt d3 a b pv).1 b lim wb wp else (partitionEqual ltInt d3 a b pv).2)
  else
    (if _h : a ≤ (partition ltInt d3 a b pv).1 ∧ (partition ltInt d3 a b pv).1 < b then
      (if (partition ltInt d3 a b pv).1 - a < b - (partition ltInt d3 a b pv).1 then
        pdq ltInt (pdq ltInt (partition ltInt d3 a b pv).2.2 a (partition ltInt d3 a b pv).1 lim true true) ((partition ltInt d3 a b pv).1 + 1) b lim (decide ((partition ltInt d3 a b pv).1 - a ≥ (b - a) / 8)) (partition ltInt d3 a b pv).2.1
      else
        pdq ltInt (pdq ltInt (partition ltInt d3 a b pv).2.2 ((partition ltInt d3 a b pv).1 + 1) b lim true true) a (partition ltInt d3 a b pv).1 lim (decide (b - (partition ltInt d3 a b pv).1 ≥ (b - a) / 8)) (partition ltInt d3 a b pv).2.1)
    else (partition ltInt d3 a b pv).2.2)
def pdqB (d2 : Array Int) (a b lim pv : Nat) (hint : Hint) (wb wp : Bool) : Array Int :=
  if (if wb && wp && hint = .increasing then partialInsertionSort ltInt d2 a b else (d2, false)).2 then (if wb && wp && hint = .increasing then partialInsertionSort ltInt d2 a b else (d2, false)).1
  else pdqC (if wb && wp && hint = .increasing then partialInsertionSort ltInt d2 a b else (d2, false)).1 a b lim pv wb wp
def pdqA (d1 : Array Int) (a b lim : Nat) (wb wp : Bool) : Array Int :=
  pdqB (if (choosePivot ltInt d1 a b).2 = .decreasing then reverseRange d1 a b else d1) a b lim (if (choosePivot ltInt d1 a b).2 = .decreasing then (b - 1) - ((choosePivot ltInt d1 a b).1 - a) else (choosePivot ltInt d1 a b).1)
    (if (choosePivot ltInt d1 a b).2 = .decreasing then Hint.increasing else (choosePivot ltInt d1 a b).2) wb wp
theorem pdq_step {d : Array Int} {a b lim : Nat} {wb wp : Bool} (h12 : ¬ b - a ≤ 12) (hl : ¬ lim = 0) : pdq ltInt d a b lim wb wp = pdqA (if !wb then breakPatterns d a b else d) a b (if !wb then lim - 1 else lim) wb wp := by
  rw [pdq, if_neg h12, if_neg hl]
  unfold pdqA pdqB pdqC
  rfl
theorem pdq_small {d : Array Int} {a b lim : Nat} {wb wp : Bool} (h12 : b - a ≤ 12) : pdq ltInt d a b lim wb wp = insertionSort ltInt d a b := by rw [pdq, if_pos h12]
theorem pdq_heap {d : Array Int} {a b lim : Nat} {wb wp : Bool} (h12 : ¬ b - a ≤ 12) (hl : lim = 0) : pdq ltInt d a b lim wb wp = heapSort ltInt d a b := by rw [pdq, if_neg h12, if_pos hl]
theorem equal_range (d : Array Int) {a b p : Nat} (hap : a ≤ p) (hpb : p < b) (hb : b ≤ d.size) : a < (partitionEqual ltInt d a b p).1 ∧ (partitionEqual ltInt d a b p).1 ≤ b := by
  have key : ∀ (n i j : Nat) (d : Array Int), j + 1 - i ≤ n → a < i → i ≤ j + 1 → j < b → a < (partEqLoop ltInt a i j d).1 ∧ (partEqLoop ltInt a i j d).1 ≤ b := by
    intro n
    induction n with
    | zero =>
      intro i j d hn hai hij hjb
      obtain ⟨r1, r2, r3, r4, r5⟩ := round_lt (fun x => !ltInt d[a]! x) (fun x => ltInt d[a]! x) (fun x => by simp) d i j (by omega) hij
      rw [partEqLoop_eq, if_pos (by omega)]
      exact ⟨by simp only; omega, by simp only; omega⟩
    | succ n ih =>
      intro i j d hn hai hij hjb
      obtain ⟨r1, r2, r3, r4, r5⟩ := round_lt (fun x => !ltInt d[a]! x) (fun x => ltInt d[a]! x) (fun x => by simp) d i j (by omega) hij
      rw [partEqLoop_eq]
      split
      · exact ⟨by simp only; omega, by simp only; omega⟩
      · rename_i hg
        have := r5 hg
        exact ih _ _ _ (by omega) (by omega) (by omega) (by omega)
  unfold partitionEqual
  exact key _ _ _ _ (Nat.le_refl _) (by omega) (by omega) (by omega)
theorem part_range (d : Array Int) {a b p : Nat} (hap : a ≤ p) (hpb : p < b) (hb : b ≤ d.size) : a ≤ (partition ltInt d a b p).1 ∧ (partition ltInt d a b p).1 < b := by
  obtain ⟨h1, h2, _⟩ := partition_holds ltInt swo_ltInt d a b p hap hpb hb
  exact ⟨h1, h2⟩
structure PdqI (g c a b lim : Nat) (d : Array Int) (w : World) (env : Env) (w' : World) : Prop where
  ex : ∃ (a1 b1 l1 : Nat) (wb wp : Bool) (d' : Array Int), Kept (fun i => i = g) w w' ∧ A32 w' g c d' ∧ d'.size = d.size ∧ pdq ltInt d' a1 b1 l1 wb wp = pdq ltInt d a b lim true true ∧ a1 ≤ b1 ∧ b1 ≤ d.size ∧ b1 - a1 ≤ b - a ∧ l1 ≤ 1000 ∧
    env = [.slice (some ⟨g, 0, none⟩) d'.size c, .int .i64 (a1 : Nat), .int .i64 (b1 : Nat), .int .i64 (l1 : Nat), .bool wb, .bool wp, undef, undef, undef, undef, undef, undef, undef, undef, undef, undef, undef, undef, undef, undef]
end Go.Proofs.YtkgpmjjleemdlaaGreat

set_option linter.unusedSimpArgs false
set_option linter.unusedVariables false
namespace Go.Eng

/-! Rows of elements of one cell. -/
abbrev Row1 (T : TypeId) (w : World) (v : Value) (xs : List Value) : Prop := Row T 1 w v xs.length xs
theorem row1_nil (T : TypeId) (w : World) : Row1 T w (.slice none 0 0) [] := row_nil T 1 w
theorem row1_one {T : TypeId} (w : World) (x : Value) : Row1 T (w.alloc (.cells #[x] T)) (.slice (some ⟨w.heap.size, 0, none⟩) 1 1) [x] :=
  ⟨by simp, .inr ⟨w.heap.size, 1, #[x], rfl, by omega, hp_new w _, by simp, by unfold maxLen; omega, by simp, by simp⟩⟩
theorem row1_len {T : TypeId} {w : World} {v : Value} {xs : List Value} (h : Row1 T w v xs) : lenV false v = some (.int .i64 xs.length) := rowLen h
theorem row1_ix {T : TypeId} {w : World} {v : Value} {xs : List Value} (h : Row1 T w v xs) {i : Nat} {x : Value} (hx : xs[i]? = some x) : ∃ g c, v = .slice (some ⟨g, 0, none⟩) xs.length c ∧ wcell w g i = some x := by
  have hi : i < xs.length := (List.getElem?_eq_some_iff.1 hx).1
  obtain ⟨g, c, rfl, _, _, hy⟩ := rowForm h (by omega)
  exact ⟨g, c, rfl, hy i x hx⟩
section
variable {P : Program} {R : Env → World → Prop} {k : List It} {env : Env} {w : World}
end
end Go.Eng

set_option linter.unusedSimpArgs false
set_option linter.unusedVariables false
set_option maxRecDepth 8000
namespace Go.Eng
theorem ArrAt.clear {P : Program} {t ty T : TypeId} {k : IntKind} {w : World} {g c : Nat} {d : Array Int} (ht : P.underlying t = some (.slice T)) (hz : (P.info? T).bind (·.zero) = some (.int k 0)) (h : ArrAt T k w g c d) {j : Nat} (hj : j < d.size) (c' : Nat) :
    ∃ (w' : World) (d' : Array Int), (builtin .clear #[t] ty #[] #[.slice (some ⟨g, j, none⟩) (d.size - j) c']).run P w = .ok (.value (.tuple #[])) w' ∧ ArrAt T k w' g c d' ∧ d'.size = d.size ∧ d'.toList.take j = d.toList.take j ∧ Kept (fun i => i = g) w w' := by
  obtain ⟨i, hi, hiz⟩ : ∃ i, P.info? T = some i ∧ i.zero = some (.int k 0) := by
    cases e : P.info? T with
    | none => rw [e] at hz; cases hz
    | some i => rw [e] at hz; exact ⟨i, rfl, hz⟩
  have hzero : ∀ w, (zeroValue T).run P w = .ok (.int k 0) w := fun w => by simp [zeroValue, run_info hi, hiz]
  unfold ArrAt at h
  rcases h.2 with ⟨h0, _⟩ | ⟨g', cap, cur, e, hb, h2, h3, h4, h5, h6⟩
  · cases h0
  cases e
  have hn : d.size ≤ c := h3
  have hcs : cur.size = c * 1 := h5
  have hlen : (List.replicate (d.size - j) (Value.int k 0)).length = d.size - j := by simp
  have hst := run_storeCells (P := P) (b := g) (T := T) (fz := (0, 0)) j (List.replicate (d.size - j) (Value.int k 0)) 0 cur w h2 (by rw [hlen]; omega) (.inl (by simp)) (fun v hv => by rw [List.eq_of_mem_replicate hv]; rfl)
  refine ⟨Go.Eng.put w g (.cells (setRow cur j (List.replicate (d.size - j) (Value.int k 0))) T (0, 0)), (d.toList.take j ++ List.replicate (d.size - j) 0).toArray, ?_, ?_, ?_, ?_, (Kept.refl (fun i => i = g) w).put (b := g) (fun _ => rfl) _⟩
  · have hzc : (Builtin.zeroCells (Value.int k 0).cells (d.size - j)).toList = List.replicate (d.size - j) (Value.int k 0) := by
      show (Builtin.zeroCells #[Value.int k 0] (d.size - j)).toList = _
      simp [Builtin.zeroCells]
      apply List.ext_getElem
      · simp
      · intro i h1 h2
        simp [Nat.mod_one]
    obtain ⟨m, hm⟩ : ∃ m, d.size - j = m + 1 := ⟨d.size - j - 1, by omega⟩
    rw [hm] at hzc hst ⊢
    change (Builtin.zeroCells #[Value.int k 0] (m + 1)).toList = _ at hzc
    simp [builtin, Builtin.clear_, run_underlying ht, hzero, hzc, hst]
    rfl
  · unfold ArrAt
    have hsz : ((d.toList.take j ++ List.replicate (d.size - j) 0).toArray : Array Int).size = d.size := by simp [List.length_take]; omega
    rw [hsz]
    refine ⟨by simp [numC, List.length_take]; omega, .inr ⟨g, c, _, rfl, hb, put_same (blk_lt h2), h3, h4, by rw [setRow_size]; exact h5, ?_⟩⟩
    apply List.ext_getElem?
    intro q
    rw [List.getElem?_take]
    have h6q : ∀ q, q < d.size → cur.toList[q]? = (numC k d)[q]? := fun q hq => by
      rw [← h6, List.getElem?_take, if_pos (by omega)]
    by_cases hq : q < d.size * 1
    · rw [if_pos hq, Array.getElem?_toList, setRow_eq]
      simp only [numC, List.map_append, List.map_take, List.map_replicate, hlen]
      by_cases hqj : q < j
      · rw [if_neg (by omega), List.getElem?_append_left (by simp [List.length_take]; omega), List.getElem?_take, if_pos hqj]
        have := h6q q (by omega)
        rw [Array.getElem?_toList] at this
        exact this
      · rw [if_pos (by omega), List.getElem?_append_right (by simp [List.length_take]; omega)]
        have e : ((d.toList.map (Value.int k)).take j).length = j := by simp [List.length_take]; omega
        rw [e]
    · rw [if_neg hq]
      symm
      rw [List.getElem?_eq_none]
      simp [numC, List.length_take]; omega
  · simp [List.length_take]; omega
  · rw [List.toList_toArray, List.take_append_of_le_length (by simp [List.length_take]; omega), List.take_take, Nat.min_self]
end Go.Eng
namespace Go.Proofs.YtkgpmjjleemdlaaGreat
open Go.Eng Go.Sort
attribute [local irreducible] Go.Eng.W
theorem row_arr {T : TypeId} {k : IntKind} {w : World} {v : Value} {xs : List Int} (h : Row1 T w v (xs.map (Value.int k))) : v = .slice none 0 0 ∧ xs = [] ∨ ∃ g c, v = .slice (some ⟨g, 0, none⟩) xs.length c ∧ ArrAt T k w g c xs.toArray ∧ v.ownBlock = some g ∧ xs.length ≤ c := by
  rcases h.2 with ⟨rfl, h0⟩ | ⟨g, cap, cur, rfl, hb, h2, h3, h4, h5, h6⟩
  · left
    exact ⟨rfl, by simpa using h0⟩
  · right
    rw [List.length_map] at h3 h
    refine ⟨g, cap, by rw [List.length_map], ?_, rfl, h3⟩
    unfold ArrAt
    have e1 : (xs.toArray).size = xs.length := by simp
    have e2 : numC k xs.toArray = xs.map (Value.int k) := by simp [numC]
    rw [e1, e2]
    have e3 : (xs.map (Value.int k)).length = xs.length := by simp
    unfold Row1 at h
    rw [e3] at h
    exact h
theorem arr_row {T : TypeId} {k : IntKind} {w : World} {g c : Nat} {d : Array Int} (h : ArrAt T k w g c d) : Row1 T w (.slice (some ⟨g, 0, none⟩) d.size c) (d.toList.map (Value.int k)) := by
  unfold ArrAt at h
  have e : (d.toList.map (Value.int k)).length = d.size := by simp
  unfold Row1
  rw [e]
  exact h
/-- A row's beginning. -/
theorem arr_take {T : TypeId} {k : IntKind} {w : World} {g c : Nat} {d : Array Int} (h : ArrAt T k w g c d) (m : Nat) (hm : m ≤ d.size) : Row1 T w (.slice (some ⟨g, 0, none⟩) m c) ((d.toList.take m).map (Value.int k)) := by
  unfold ArrAt at h
  rcases h.2 with ⟨h0, _⟩ | ⟨g', cap, cur, e, hb, h2, h3, h4, h5, h6⟩
  · cases h0
  cases e
  have hl : ((d.toList.take m).map (Value.int k)).length = m := by simp [List.length_take]; omega
  unfold Row1
  rw [hl]
  refine ⟨by simp [List.length_take]; omega, .inr ⟨g, c, cur, rfl, hb, h2, by omega, h4, h5, ?_⟩⟩
  have : cur.toList.take (m * 1) = (cur.toList.take (d.size * 1)).take m := by rw [List.take_take, Nat.mul_one, Nat.mul_one, Nat.min_eq_left hm]
  rw [this, h6, ← List.map_take]
/-! Each once, where neighbours are alike. -/
def ddP (d : Array Int) : Nat → List Int
  | 0 => []
  | n + 1 => if 0 < n ∧ d[n]! = d[n - 1]! then ddP d n else ddP d n ++ [d[n]!]
theorem take_next (d : Array Int) {k : Nat} (hk : k < d.size) : d.toList.take (k + 1) = d.toList.take k ++ [d[k]!] := by
  rw [List.take_add_one]
  congr 1
  have : d.toList[k]? = some d[k]! := by simp [hk]
  rw [this]
  rfl
theorem get_set (d : Array Int) (k q : Nat) (x : Int) (hk : k < d.size) : (d.setIfInBounds k x)[q]! = if q = k then x else d[q]! := by
  by_cases h : q = k
  · subst h
    simp [hk]
  · rw [if_neg h]
    simp [Array.getElem!_eq_getD, Array.getD_getElem?, Array.getElem?_setIfInBounds, Ne.symm h]
theorem take_set (d : Array Int) (k : Nat) (x : Int) (hk : k < d.size) : (d.setIfInBounds k x).toList.take (k + 1) = d.toList.take k ++ [x] := by
  rw [take_next _ (by simpa using hk), get_set d k k x hk, if_pos rfl]
  congr 1
  rw [Array.toList_setIfInBounds, List.take_set_of_le (Nat.le_refl k)]
end Go.Proofs.YtkgpmjjleemdlaaGreat

