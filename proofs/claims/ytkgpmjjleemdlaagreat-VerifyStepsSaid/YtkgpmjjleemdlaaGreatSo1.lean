/- Rows of numbers that are sorted: an array of numbers in a block; two cells swapped; two compared. -/
import Derived.Test.YtkgpmjjleemdlaaGreatBase
import Derived.Test.YtkgpmjjleemdlaaGreatEngO
import Derived.Sort.AssemblyPlain
import Derived.Test.YtkgpmjjleemdlaaGreatCmdsSoj
set_option linter.unusedSimpArgs false
set_option linter.unusedVariables false
set_option maxRecDepth 8000
namespace Go.Eng

/-- A stored cell of a row. -/
theorem row_put {T : TypeId} {k : Nat} {w : World} {n : Nat} {xs : List Value} {g c : Nat} (h : Row T k w (.slice (some ⟨g, 0, none⟩) n c) n xs) {j : Nat} (hj : j < n * k) {x : Value} (hx : x.cells = #[x]) (h1 : x.oneCell' = true) :
    ∃ w', stv w 1 (.pointer (some ⟨g, j, none⟩)) x = some w' ∧ Row T k w' (.slice (some ⟨g, 0, none⟩) n c) n (xs.set j x) ∧ Kept (fun i => i = g) w w' := by
  obtain ⟨hl, h2⟩ := h
  rcases h2 with ⟨h, _⟩ | ⟨g', cap, cur, hv, hb, hg, hc, hm, hs, hx2⟩
  · cases h
  · cases hv
    have hlen : cur.size = c * k := hs
    have hnk : n * k ≤ c * k := Nat.mul_le_mul_right _ hc
    refine ⟨_, stv_of (n := 1) (v := x) hg (by rw [hx]; rfl) (by omega) (.inl (by simp)) (by rw [hx]; simpa using h1), ⟨by simpa using hl, .inr ⟨g, c, _, rfl, hb, put_same (blk_lt hg), hc, hm, by rw [Go.Eng.setRow_size]; exact hs, ?_⟩⟩, (Kept.refl (fun i => i = g) w).put (b := g) (fun _ => rfl) _⟩
    rw [hx]
    simp only [setRow_cons, setRow_nil]
    rw [← hx2]
    show ((cur.setIfInBounds j x).toList).take (n * k) = _
    rw [Array.toList_setIfInBounds, List.take_set]

/-! Arrays of numbers. -/
abbrev numC (k : IntKind) (d : Array Int) : List Value := d.toList.map (Value.int k)
def ArrAt (T : TypeId) (k : IntKind) (w : World) (g c : Nat) (d : Array Int) : Prop := Row T 1 w (.slice (some ⟨g, 0, none⟩) d.size c) d.size (numC k d)
section
variable {T : TypeId} {k : IntKind} {w w' : World} {g c : Nat} {d : Array Int}
theorem ArrAt.calm (h : ArrAt T k w g c d) (hk : Kept none' w w') : ArrAt T k w' g c d := by
  unfold ArrAt at h ⊢
  refine ⟨h.1, ?_⟩
  rcases h.2 with h2 | ⟨g', cap, cur, e, hb, h2, h3⟩
  · exact .inl h2
  · exact .inr ⟨g', cap, cur, e, hb, hk.has h2 (fun h => h), h3⟩
theorem ArrAt.keep {S : Nat → Prop} (h : ArrAt T k w g c d) (hk : Kept S w w') (hg : ¬ S g) : ArrAt T k w' g c d := by
  unfold ArrAt at h ⊢
  refine ⟨h.1, ?_⟩
  rcases h.2 with h2 | ⟨g', cap, cur, e, hb, h2, h3⟩
  · exact .inl h2
  · cases e
    exact .inr ⟨g, c, cur, rfl, hb, hk.has h2 hg, h3⟩
theorem ArrAt.lt (h : ArrAt T k w g c d) : g < w.heap.size := by
  unfold ArrAt at h
  rcases h.2 with ⟨h2, _⟩ | ⟨g', cap, cur, e, hb, h2, h3⟩
  · cases h2
  · cases e
    exact blk_lt h2
theorem ArrAt.get (h : ArrAt T k w g c d) {i : Nat} (hi : i < d.size) : wcell w g i = some (.int k d[i]!) := by
  unfold ArrAt at h
  rcases h.2 with ⟨h0, _⟩ | ⟨g', cap, cur, e, hb, h2, h3, h4, h5, h6⟩
  · cases h0
  · cases e
    rw [wcell_of h2]
    have : (cur.toList.take (d.size * 1))[i]? = (numC k d)[i]? := by rw [h6]
    rw [List.getElem?_take, if_pos (by omega)] at this
    simp [numC, hi] at this
    simpa [hi] using this
theorem ArrAt.put (h : ArrAt T k w g c d) {i : Nat} (hi : i < d.size) (x : Int) : ∃ w', stv w 1 (.pointer (some ⟨g, i, none⟩)) (.int k x) = some w' ∧ ArrAt T k w' g c (d.setIfInBounds i x) ∧ Kept (fun j => j = g) w w' := by
  unfold ArrAt at h
  obtain ⟨w', hs, hr, hk⟩ := row_put h (j := i) (by omega) (x := .int k x) rfl rfl
  refine ⟨w', hs, ?_, hk⟩
  unfold ArrAt
  have e : numC k (d.setIfInBounds i x) = (numC k d).set i (.int k x) := by
    simp [numC, Array.toList_setIfInBounds, List.map_set]
  rw [e, Array.size_setIfInBounds]
  exact hr
end
section
variable {P : Program} {T : TypeId} {k : IntKind} {R : Env → World → Prop} {K : List It} {env : Env} {w : World} {g c : Nat} {d : Array Int}
open Go.Sort
/-- An index in slot 0's slice. -/
theorem ix_row (hs : (Ex.var 0).ev env w = some (.slice (some ⟨g, 0, none⟩) d.size c)) {e : Ex} {i : Nat} (he : e.ev env w = some (.int .i64 i)) (hi : i < d.size) : (Ex.ixSl 1 (.var 0) e).ev env w = some (.pointer (some ⟨g, i, none⟩)) := by
  show ((Ex.var 0).ev env w).bind _ = _
  rw [hs]
  show (e.ev env w).bind _ = _
  rw [he]
  have h1 : (0 : Int) ≤ i ∧ (i : Int) < d.size := by omega
  show (if (0 : Int) ≤ i ∧ (i : Int) < d.size then some (Value.pointer (some ⟨g, 0 + (i : Int).toNat * 1, none⟩)) else none) = _
  rw [if_pos h1]
  simp
theorem ld_row (h : ArrAt T k w g c d) (hs : (Ex.var 0).ev env w = some (.slice (some ⟨g, 0, none⟩) d.size c)) {e : Ex} {i : Nat} (he : e.ev env w = some (.int .i64 i)) (hi : i < d.size) : (Ex.ld none (.ixSl 1 (.var 0) e)).ev env w = some (.int k d[i]!) := by
  show ((Ex.ixSl 1 (.var 0) e).ev env w).bind _ = _
  rw [ix_row hs he hi]
  have := h.get hi
  simp [this]
theorem evs_two {a b : Ex} {u v : Value} (ha : a.ev env w = some u) (hb : b.ev env w = some v) : evs env w [a, b] = some [u, v] := by simp [evs, ha, hb]
theorem evs_one {a : Ex} {u : Value} (ha : a.ev env w = some u) : evs env w [a] = some [u] := by simp [evs, ha]
/-- Two cells swapped. -/
theorem W_swap {t : Nat} {ei ej : Ex} {i j : Nat} (h : ArrAt T k w g c d) (hi : i < d.size) (hj : j < d.size)
    (h0 : ∀ w' : World, (Ex.var 0).ev env w' = some (.slice (some ⟨g, 0, none⟩) d.size c)) (he : ∀ w' : World, ei.ev env w' = some (.int .i64 i)) (hf : ∀ w' : World, ej.ev env w' = some (.int .i64 j))
    (h0' : ∀ (x : Int) (w' : World), (Ex.var 0).ev (env.set t (.int k x)) w' = some (.slice (some ⟨g, 0, none⟩) d.size c)) (he' : ∀ (x : Int) (w' : World), ei.ev (env.set t (.int k x)) w' = some (.int .i64 i)) (hf' : ∀ (x : Int) (w' : World), ej.ev (env.set t (.int k x)) w' = some (.int .i64 j))
    (ht : ∀ (x : Int) (w' : World), (Ex.var t).ev (env.set t (.int k x)) w' = some (.int k x))
    (hk : ∀ w', ArrAt T k w' g c (swp d i j) → Kept (fun b => b = g) w w' → W P R K (env.set t (.int k d[i]!)) w') :
    W P R (.c .draw :: .c (.seq (.chk [.ld none (.ixSl 1 (.var 0) ej)]) (.seq (.set t (.ld none (.ixSl 1 (.var 0) ei))) (.seq (.store 1 (.ixSl 1 (.var 0) ei) (.ld none (.ixSl 1 (.var 0) ej)) []) (.store 1 (.ixSl 1 (.var 0) ej) (.var t) [])))) :: K) env w := by
  have hd : ArrAt T k w.drew g c d := h.calm (Kept.refl none' w).drew
  have hkd : Kept (fun b => b = g) w w.drew := (Kept.refl _ w).drew
  rw [W_draw, W_seq]
  generalize w.drew = w1 at *
  refine W_chkIn [.int k d[j]!] (evs_one (ld_row hd (h0 w1) (hf w1) hj)) ?_
  rw [W_seq, W_set]
  refine ok_intro (.int k d[i]!) (ld_row hd (h0 w1) (he w1) hi) ?_
  rw [W_seq]
  obtain ⟨w2, hs2, hd2, hk2⟩ := hd.put hi d[j]!
  refine W_store (ix_row (h0' _ w1) (he' _ w1) hi) (ld_row hd (h0' _ w1) (hf' _ w1) hj) hs2 (stab_nil _ _ _) ?_
  obtain ⟨w3, hs3, hd3, hk3⟩ := hd2.put (i := j) (by simpa using hj) d[i]!
  refine W_store (ix_row (h0' _ w2) (hf' _ w2) hj) (ht _ w2) hs3 (stab_nil _ _ _) ?_
  exact hk w3 hd3 ((hkd.trans hk2).trans hk3)
/-- Two cells compared, where a condition holds. -/
theorem W_less {fl : FuncId} {t : Nat} {C e1 e2 fin : Ex} {i1 i2 : Nat} {cb neg : Bool} {A B : Cmd} (hless : ∀ (w : World) (x y : Int), Eng.T P w fl [.int k x, .int k y] = some (.bool (ltInt x y))) (h : ArrAt T k w g c d)
    (h0 : ∀ w' : World, (Ex.var 0).ev env w' = some (.slice (some ⟨g, 0, none⟩) d.size c)) (hC : ∀ w' : World, C.ev env w' = some (.bool cb))
    (hi : cb = true → i1 < d.size ∧ i2 < d.size) (h1 : cb = true → ∀ w' : World, e1.ev env w' = some (.int .i64 i1)) (h2 : cb = true → ∀ w' : World, e2.ev env w' = some (.int .i64 i2))
    (hf1 : cb = true → ∀ (b : Bool) (w' : World), fin.ev (env.set t (.bool b)) w' = some (.bool (if neg then !b else b))) (hf0 : cb = false → ∀ w' : World, fin.ev (env.set t undef) w' = some (.bool false))
    (hA : cb = true → ltInt d[i1]! d[i2]! = !neg → ∀ (tv : Value) (w' : World), ArrAt T k w' g c d → Kept none' w w' → W P R (.c A :: K) (env.set t tv) w')
    (hB : (cb = true → ltInt d[i1]! d[i2]! = neg) → ∀ (tv : Value) (w' : World), ArrAt T k w' g c d → Kept none' w w' → W P R (.c B :: K) (env.set t tv) w') :
    W P R (.c .draw :: .c (.seq (.chk [.pick C (.ld none (.ixSl 1 (.var 0) e2)) (.const (.bool false)), .pick C (.ld none (.ixSl 1 (.var 0) e1)) (.const (.bool false))]) (.cond (.pick C (.const (.bool true)) (.const (.bool false))) (.call (some t) fl [.ld none (.ixSl 1 (.var 0) e1), .ld none (.ixSl 1 (.var 0) e2)] []) (.clr [t]))) :: .c (.cond fin A B) :: K) env w := by
  have hd : ArrAt T k w.drew g c d := h.calm (Kept.refl none' w).drew
  have hkd : Kept none' w w.drew := (Kept.refl _ w).drew
  rw [W_draw, W_seq]
  generalize w.drew = w1 at *
  have pk : ∀ (a b : Ex) (w' : World), (Ex.pick C a b).ev env w' = if cb then a.ev env w' else b.ev env w' := by
    intro a b w'
    show ((C.ev env w').bind fun c => pickV c (a.ev env w') (b.ev env w')) = _
    rw [hC]
    cases cb <;> rfl
  cases hcb : cb with
  | true =>
    rw [hcb] at hi h1 h2 hf1 hA hB pk
    obtain ⟨hi1, hi2⟩ := hi rfl
    have l1 := ld_row hd (h0 w1) (h1 rfl w1) hi1
    have l2 := ld_row hd (h0 w1) (h2 rfl w1) hi2
    refine W_chkIn [.int k d[i2]!, .int k d[i1]!] (evs_two (by rw [pk]; exact l2) (by rw [pk]; exact l1)) ?_
    refine W_yes (by rw [pk]; rfl) ?_
    refine W_calm (evs_two l1 l2) (ret_of_T (hless w1 _ _)) ?_
    intro w2 hk2
    have hk02 := hkd.trans hk2
    refine W_cond (hf1 rfl _ w2) ?_ ?_
    · intro hb
      refine hA rfl ?_ _ w2 (hd.calm hk2) hk02
      cases neg <;> simpa using hb
    · intro hb
      refine hB (fun _ => ?_) _ w2 (hd.calm hk2) hk02
      cases neg <;> simpa using hb
  | false =>
    rw [hcb] at hf0 hB pk
    refine W_chkIn [.bool false, .bool false] (evs_two (by rw [pk]; rfl) (by rw [pk]; rfl)) ?_
    refine W_no (by rw [pk]; rfl) ?_
    rw [W_clr]
    refine W_no (hf0 rfl w1) ?_
    exact hB (fun h => by cases h) _ w1 hd hkd
/-- Likewise; the condition behind it is still to be asked. -/
theorem W_lessC {fl : FuncId} {t : Nat} {C e1 e2 fin : Ex} {i1 i2 : Nat} {cb neg : Bool} {A B : Cmd} (hless : ∀ (w : World) (x y : Int), Eng.T P w fl [.int k x, .int k y] = some (.bool (ltInt x y))) (h : ArrAt T k w g c d)
    (h0 : ∀ w' : World, (Ex.var 0).ev env w' = some (.slice (some ⟨g, 0, none⟩) d.size c)) (hC : ∀ w' : World, C.ev env w' = some (.bool cb))
    (hi : cb = true → i1 < d.size ∧ i2 < d.size) (h1 : cb = true → ∀ w' : World, e1.ev env w' = some (.int .i64 i1)) (h2 : cb = true → ∀ w' : World, e2.ev env w' = some (.int .i64 i2))
    (hf1 : cb = true → ∀ (b : Bool) (w' : World), fin.ev (env.set t (.bool b)) w' = some (.bool (if neg then !b else b))) (hf0 : cb = false → ∀ w' : World, fin.ev (env.set t undef) w' = some (.bool false))
    (hK : ∀ (tv : Value) (w' : World), ArrAt T k w' g c d → Kept none' w w' → (∀ w'' : World, fin.ev (env.set t tv) w'' = some (.bool (cb && (if neg then !(ltInt d[i1]! d[i2]!) else ltInt d[i1]! d[i2]!)))) → W P R (.c (.cond fin A B) :: K) (env.set t tv) w') :
    W P R (.c .draw :: .c (.seq (.chk [.pick C (.ld none (.ixSl 1 (.var 0) e2)) (.const (.bool false)), .pick C (.ld none (.ixSl 1 (.var 0) e1)) (.const (.bool false))]) (.cond (.pick C (.const (.bool true)) (.const (.bool false))) (.call (some t) fl [.ld none (.ixSl 1 (.var 0) e1), .ld none (.ixSl 1 (.var 0) e2)] []) (.clr [t]))) :: .c (.cond fin A B) :: K) env w := by
  have hd : ArrAt T k w.drew g c d := h.calm (Kept.refl none' w).drew
  have hkd : Kept none' w w.drew := (Kept.refl _ w).drew
  rw [W_draw, W_seq]
  generalize w.drew = w1 at *
  have pk : ∀ (a b : Ex) (w' : World), (Ex.pick C a b).ev env w' = if cb then a.ev env w' else b.ev env w' := by
    intro a b w'
    show ((C.ev env w').bind fun c => pickV c (a.ev env w') (b.ev env w')) = _
    rw [hC]
    cases cb <;> rfl
  cases hcb : cb with
  | true =>
    rw [hcb] at hi h1 h2 hf1 hK pk
    obtain ⟨hi1, hi2⟩ := hi rfl
    have l1 := ld_row hd (h0 w1) (h1 rfl w1) hi1
    have l2 := ld_row hd (h0 w1) (h2 rfl w1) hi2
    refine W_chkIn [.int k d[i2]!, .int k d[i1]!] (evs_two (by rw [pk]; exact l2) (by rw [pk]; exact l1)) ?_
    refine W_yes (by rw [pk]; rfl) ?_
    refine W_calm (evs_two l1 l2) (ret_of_T (hless w1 _ _)) ?_
    intro w2 hk2
    have hk02 := hkd.trans hk2
    exact hK _ w2 (hd.calm hk2) hk02 fun w'' => by rw [hf1 rfl _ w'', Bool.true_and]
  | false =>
    rw [hcb] at hf0 hK pk
    refine W_chkIn [.bool false, .bool false] (evs_two (by rw [pk]; rfl) (by rw [pk]; rfl)) ?_
    refine W_no (by rw [pk]; rfl) ?_
    rw [W_clr]
    exact hK _ w1 hd hkd fun w'' => by show fin.ev (env.set t undef) w'' = _; rw [hf0 rfl w'', Bool.false_and]
/-- Two cells compared. -/
theorem W_less1 {fl : FuncId} {t : Nat} {e1 e2 fin : Ex} {i1 i2 : Nat} {neg : Bool} {A B : Cmd} (hless : ∀ (w : World) (x y : Int), Eng.T P w fl [.int k x, .int k y] = some (.bool (ltInt x y))) (h : ArrAt T k w g c d)
    (h0 : ∀ w' : World, (Ex.var 0).ev env w' = some (.slice (some ⟨g, 0, none⟩) d.size c))
    (hi1 : i1 < d.size) (hi2 : i2 < d.size) (h1 : ∀ w' : World, e1.ev env w' = some (.int .i64 i1)) (h2 : ∀ w' : World, e2.ev env w' = some (.int .i64 i2))
    (hf1 : ∀ (b : Bool) (w' : World), fin.ev (env.set t (.bool b)) w' = some (.bool (if neg then !b else b)))
    (hA : ltInt d[i1]! d[i2]! = !neg → ∀ (tv : Value) (w' : World), ArrAt T k w' g c d → Kept none' w w' → W P R (.c A :: K) (env.set t tv) w')
    (hB : ltInt d[i1]! d[i2]! = neg → ∀ (tv : Value) (w' : World), ArrAt T k w' g c d → Kept none' w w' → W P R (.c B :: K) (env.set t tv) w') :
    W P R (.c .draw :: .c (.call (some t) fl [.ld none (.ixSl 1 (.var 0) e1), .ld none (.ixSl 1 (.var 0) e2)] []) :: .c (.cond fin A B) :: K) env w := by
  have hd : ArrAt T k w.drew g c d := h.calm (Kept.refl none' w).drew
  have hkd : Kept none' w w.drew := (Kept.refl _ w).drew
  rw [W_draw]
  generalize w.drew = w1 at *
  have l1 := ld_row hd (h0 w1) (h1 w1) hi1
  have l2 := ld_row hd (h0 w1) (h2 w1) hi2
  refine W_calm (evs_two l1 l2) (ret_of_T (hless w1 _ _)) ?_
  intro w2 hk2
  have hk02 := hkd.trans hk2
  refine W_cond (hf1 _ w2) ?_ ?_
  · intro hb
    refine hA ?_ _ w2 (hd.calm hk2) hk02
    cases neg <;> simpa using hb
  · intro hb
    refine hB ?_ _ w2 (hd.calm hk2) hk02
    cases neg <;> simpa using hb
end
end Go.Eng
namespace Go.Proofs.YtkgpmjjleemdlaaGreat
open Go.Eng Go.Sort

theorem len_quot (n k : Nat) (h : 2 ^ k ≤ n) : bitsLen n = bitsLen (n / 2 ^ k) + k := by
  have key : ∀ m, bitsLen n ≤ m + k ↔ bitsLen (n / 2 ^ k) ≤ m := by
    intro m
    rw [bitsLen_le_iff, bitsLen_le_iff, Nat.div_lt_iff_lt_mul (Nat.two_pow_pos k), ← Nat.pow_add]
  have h1 := (key (bitsLen (n / 2 ^ k))).2 (Nat.le_refl _)
  have h2 : k ≤ bitsLen n := by
    rcases Nat.lt_or_ge (bitsLen n) k with h3 | h3
    · have := (bitsLen_le_iff n (bitsLen n)).1 (Nat.le_refl _)
      have h4 : 2 ^ bitsLen n ≤ 2 ^ k := Nat.pow_le_pow_right (by omega) (by omega)
      omega
    · exact h3
  have h3 := (key (bitsLen n - k)).1 (by omega)
  omega
theorem u64xor (a b : Nat) (ha : a < 18446744073709551616) (hb : b < 18446744073709551616) : bitXor .u64 (a : Int) (b : Int) = ((a ^^^ b : Nat) : Int) := by
  have h : a ^^^ b < 18446744073709551616 := Nat.xor_lt_two_pow (n := 64) ha hb
  show IntKind.u64.wrap (((BitVec.ofInt 64 (a : Int) ^^^ BitVec.ofInt 64 (b : Int)).toNat : Nat) : Int) = _
  rw [BitVec.toNat_xor, BitVec.ofInt_natCast, BitVec.ofInt_natCast, BitVec.toNat_ofNat, BitVec.toNat_ofNat, Nat.mod_eq_of_lt ha, Nat.mod_eq_of_lt hb]
  exact u64w (by omega) (by omega)
theorem u64and (a b : Nat) (ha : a < 18446744073709551616) (hb : b < 18446744073709551616) : bitAnd .u64 (a : Int) (b : Int) = ((a &&& b : Nat) : Int) := by
  have h : a &&& b < 18446744073709551616 := Nat.lt_of_le_of_lt Nat.and_le_left ha
  show IntKind.u64.wrap (((BitVec.ofInt 64 (a : Int) &&& BitVec.ofInt 64 (b : Int)).toNat : Nat) : Int) = _
  rw [BitVec.toNat_and, BitVec.ofInt_natCast, BitVec.ofInt_natCast, BitVec.toNat_ofNat, BitVec.toNat_ofNat, Nat.mod_eq_of_lt ha, Nat.mod_eq_of_lt hb]
  exact u64w (by omega) (by omega)
theorem u64mod (n : Nat) : IntKind.u64.wrap (n : Int) = ((n % 18446744073709551616 : Nat) : Int) := by
  show ((n : Int) % (2 ^ 64)) = _
  simp
theorem toNat_lt (r : UInt64) : r.toNat < 18446744073709551616 := r.toNat_lt
theorem shl_toNat (r : UInt64) (k : Nat) (hk : k < 64) (s : UInt64) (hs : s.toNat = k) : (r <<< s).toNat = (r.toNat * 2 ^ k) % 18446744073709551616 := by
  rw [UInt64.toNat_shiftLeft, hs, Nat.mod_eq_of_lt hk, Nat.shiftLeft_eq]
theorem shr_toNat (r : UInt64) (k : Nat) (hk : k < 64) (s : UInt64) (hs : s.toNat = k) : (r >>> s).toNat = r.toNat / 2 ^ k := by
  rw [UInt64.toNat_shiftRight, hs, Nat.mod_eq_of_lt hk, Nat.shiftRight_eq_div_pow]
theorem nat_fdiv' (a b : Nat) : Int.fdiv (a : Int) (b : Int) = ((a / b : Nat) : Int) := by
  rw [Int.fdiv_eq_ediv_of_nonneg _ (by omega)]
  rfl
theorem tab8 (n : Nat) (h : n < 256) : (#[0, 1, 2, 2, 3, 3, 3, 3, 4, 4, 4, 4, 4, 4, 4, 4, 5, 5, 5, 5, 5, 5, 5, 5, 5, 5, 5, 5, 5, 5, 5, 5, 6, 6, 6, 6, 6, 6, 6, 6, 6, 6, 6, 6, 6, 6, 6, 6, 6, 6, 6, 6, 6, 6, 6, 6, 6, 6, 6, 6, 6, 6, 6, 6, 7, 7, 7, 7, 7, 7, 7, 7, 7, 7, 7, 7, 7, 7, 7, 7, 7, 7, 7, 7, 7, 7, 7, 7, 7, 7, 7, 7, 7, 7, 7, 7, 7, 7, 7, 7, 7, 7, 7, 7, 7, 7, 7, 7, 7, 7, 7, 7, 7, 7, 7, 7, 7, 7, 7, 7, 7, 7, 7, 7, 7, 7, 7, 7, 8, 8, 8, 8, 8, 8, 8, 8, 8, 8, 8, 8, 8, 8, 8, 8, 8, 8, 8, 8, 8, 8, 8, 8, 8, 8, 8, 8, 8, 8, 8, 8, 8, 8, 8, 8, 8, 8, 8, 8, 8, 8, 8, 8, 8, 8, 8, 8, 8, 8, 8, 8, 8, 8, 8, 8, 8, 8, 8, 8, 8, 8, 8, 8, 8, 8, 8, 8, 8, 8, 8, 8, 8, 8, 8, 8, 8, 8, 8, 8, 8, 8, 8, 8, 8, 8, 8, 8, 8, 8, 8, 8, 8, 8, 8, 8, 8, 8, 8, 8, 8, 8, 8, 8, 8, 8, 8, 8, 8, 8, 8, 8, 8, 8, 8, 8, 8, 8, 8, 8, 8, 8, 8, 8, 8, 8, 8, 8] : Array UInt8)[n]? = some (UInt8.ofNat (bitsLen n)) := by
  have key : ∀ i : Fin 256, (#[0, 1, 2, 2, 3, 3, 3, 3, 4, 4, 4, 4, 4, 4, 4, 4, 5, 5, 5, 5, 5, 5, 5, 5, 5, 5, 5, 5, 5, 5, 5, 5, 6, 6, 6, 6, 6, 6, 6, 6, 6, 6, 6, 6, 6, 6, 6, 6, 6, 6, 6, 6, 6, 6, 6, 6, 6, 6, 6, 6, 6, 6, 6, 6, 7, 7, 7, 7, 7, 7, 7, 7, 7, 7, 7, 7, 7, 7, 7, 7, 7, 7, 7, 7, 7, 7, 7, 7, 7, 7, 7, 7, 7, 7, 7, 7, 7, 7, 7, 7, 7, 7, 7, 7, 7, 7, 7, 7, 7, 7, 7, 7, 7, 7, 7, 7, 7, 7, 7, 7, 7, 7, 7, 7, 7, 7, 7, 7, 8, 8, 8, 8, 8, 8, 8, 8, 8, 8, 8, 8, 8, 8, 8, 8, 8, 8, 8, 8, 8, 8, 8, 8, 8, 8, 8, 8, 8, 8, 8, 8, 8, 8, 8, 8, 8, 8, 8, 8, 8, 8, 8, 8, 8, 8, 8, 8, 8, 8, 8, 8, 8, 8, 8, 8, 8, 8, 8, 8, 8, 8, 8, 8, 8, 8, 8, 8, 8, 8, 8, 8, 8, 8, 8, 8, 8, 8, 8, 8, 8, 8, 8, 8, 8, 8, 8, 8, 8, 8, 8, 8, 8, 8, 8, 8, 8, 8, 8, 8, 8, 8, 8, 8, 8, 8, 8, 8, 8, 8, 8, 8, 8, 8, 8, 8, 8, 8, 8, 8, 8, 8, 8, 8, 8, 8, 8, 8] : Array UInt8)[i.val]? = some (UInt8.ofNat (bitsLen i.val)) := by decide +kernel
  exact key ⟨n, h⟩
theorem len8 (n : Nat) (h : n < 256) : (UInt8.ofNat (bitsLen n)).toNat = bitsLen n := by
  have : bitsLen n ≤ 8 := (bitsLen_le_iff n 8).2 (by simpa using h)
  simp
  omega
theorem len64_T (w0 : World) {n : Nat} (hn : n < 1000000) : T Tryz.prog w0 71 [.int .u64 n] = some (.int .i64 (bitsLen n)) :=
  T_of (by kernel_rfl) Tryz.func71 rfl ok_math_bits_Len64 (by simp) (by simp) fun B hB => by
    have h32 : ¬ (4294967296 : Int) ≤ n := by omega
    have hb := bitsLen_mono (show n ≤ 1000000 by omega)
    have hb2 : bitsLen 1000000 = 20 := by decide +kernel
    have c16 : IntKind.i64.wrap 16 = 16 := by decide +kernel
    have c8 : IntKind.i64.wrap 8 = 8 := by decide +kernel
    by_cases h16 : 65536 ≤ n
    · have h16' : (65536 : Int) ≤ n := by omega
      have e1 := len_quot n 16 (by simpa using h16)
      have e2 : (n : Int).fdiv (2 ^ (min 16 (IntKind.bits .u64))) = ((n / 65536 : Nat) : Int) := nat_fdiv' n 65536
      have h8 : ¬ (256 : Int) ≤ ((n / 65536 : Nat) : Int) := by omega
      have hlt : n / 65536 < 256 := by omega
      have e1' : bitsLen n = bitsLen (n / 65536) + 16 := e1
      have e3 := tab8 _ hlt
      have e4 := len8 _ hlt
      rw [e1'] at hb ⊢
      generalize n / 65536 = q at *
      have e5 : IntKind.u8.wrap (q : Int) = q := u8w (by omega) (by omega)
      have e6 : IntKind.i64.wrap (bitsLen q : Int) = bitsLen q := i64w (by omega) (by omega)
      have e7 : IntKind.i64.wrap (16 + (bitsLen q : Int)) = ((bitsLen q + 16 : Nat) : Int) := by rw [i64w (by omega) (by omega)]; omega
      simp [c_math_bits_Len64, C_cond_eq, h32, h16', e2, h8, e5, e3, e4, e6, c16, c8, e7, -Int.natCast_add, -UInt8.toNat_ofNat']
    · have h16' : ¬ (65536 : Int) ≤ n := by omega
      by_cases h8 : 256 ≤ n
      · have h8' : (256 : Int) ≤ n := by omega
        have e1 := len_quot n 8 (by simpa using h8)
        have e2 : (n : Int).fdiv (2 ^ (min 8 (IntKind.bits .u64))) = ((n / 256 : Nat) : Int) := nat_fdiv' n 256
        have hlt : n / 256 < 256 := by omega
        have e1' : bitsLen n = bitsLen (n / 256) + 8 := e1
        have e3 := tab8 _ hlt
        have e4 := len8 _ hlt
        rw [e1'] at hb ⊢
        generalize n / 256 = q at *
        have e5 : IntKind.u8.wrap (q : Int) = q := u8w (by omega) (by omega)
        have e6 : IntKind.i64.wrap (bitsLen q : Int) = bitsLen q := i64w (by omega) (by omega)
        have e7 : IntKind.i64.wrap (8 + (bitsLen q : Int)) = ((bitsLen q + 8 : Nat) : Int) := by rw [i64w (by omega) (by omega)]; omega
        simp [c_math_bits_Len64, C_cond_eq, h32, h16', h8', e2, e5, e3, e4, e6, c16, c8, e7, -Int.natCast_add, -UInt8.toNat_ofNat']
      · have h8' : ¬ (256 : Int) ≤ n := by omega
        have hlt : n < 256 := by omega
        have e3 := tab8 _ hlt
        have e4 := len8 _ hlt
        have e5 : IntKind.u8.wrap (n : Int) = n := u8w (by omega) (by omega)
        have e6 : IntKind.i64.wrap (bitsLen n : Int) = bitsLen n := i64w (by omega) (by omega)
        simp [c_math_bits_Len64, C_cond_eq, h32, h16', h8', e5, e3, e4, e6, -UInt8.toNat_ofNat']
theorem len_T (w0 : World) {n : Nat} (hn : n < 1000000) : T Tryz.prog w0 41 [.int .u64 n] = some (.int .i64 (bitsLen n)) :=
  T_of (by kernel_rfl) Tryz.func41 rfl ok_math_bits_Len (by simp) (by simp) fun B hB => by
    have e := len64_T w0 hn
    simp [c_math_bits_Len, C_cond_eq, e]
theorem pow_T (w0 : World) {n : Nat} (hn : n < 1000000) : T Tryz.prog w0 107 [.int .i64 n] = some (.int .u64 ((2 ^ bitsLen n : Nat) : Int)) :=
  T_of (by kernel_rfl) Tryz.func107 rfl ok_slices_nextPowerOfTwo (by simp) (by simp) fun B hB => by
    have e := len_T w0 hn
    have e1 : IntKind.u64.wrap (n : Int) = n := u64w (by omega) (by omega)
    have hb := bitsLen_mono (show n ≤ 1000000 by omega)
    have hb2 : bitsLen 1000000 = 20 := by decide +kernel
    have hp : 2 ^ bitsLen n ≤ 2 ^ 20 := Nat.pow_le_pow_right (by omega) (by omega)
    have hp' : 2 ^ bitsLen n ≤ 1048576 := by simpa using hp
    have hm : min (bitsLen n) (IntKind.bits .u64) = bitsLen n := Nat.min_eq_left (by show bitsLen n ≤ 64; omega)
    have e2 : IntKind.u64.wrap ((2 : Int) ^ bitsLen n) = ((2 ^ bitsLen n : Nat) : Int) := by
      have : (2 : Int) ^ bitsLen n = ((2 ^ bitsLen n : Nat) : Int) := by simp
      rw [this]
      have hq : ∀ m : Nat, m ≤ 1048576 → IntKind.u64.wrap (m : Int) = m := fun m hm => u64w (by omega) (by omega)
      exact hq _ hp'
    simp [c_slices_nextPowerOfTwo, C_cond_eq, e, e1, hm, e2, -Int.natCast_pow]
attribute [local irreducible] Go.Eng.W
abbrev RngAt (w : World) (x : Nat) (r : UInt64) : Prop := w.heap[x]? = some (.cells #[.int .u64 (r.toNat : Int)] 165 (0, 0))
theorem rng_put {w : World} {x : Nat} {r : UInt64} (h : RngAt w x r) (s : UInt64) : ∃ w', stv w 1 (.pointer (some ⟨x, 0, none⟩)) (.int .u64 (s.toNat : Int)) = some w' ∧ RngAt w' x s ∧ Kept (fun j => j = x) w w' :=
  ⟨_, box_store (n := 1) (v := .int .u64 (s.toNat : Int)) h rfl rfl (by simp [Value.cells, Value.oneCell']), put_same (blk_lt h), (Kept.refl (fun j => j = x) w).put (b := x) (fun _ => rfl) _⟩
theorem rng_drew {w : World} {x : Nat} {r : UInt64} (h : RngAt w x r) : RngAt w.drew x r := h
theorem next_ret' {x : Nat} {r : UInt64} (w : World) (h : RngAt w x r) : Ret Tryz.prog 108 [.pointer (some ⟨x, 0, none⟩)] w fun v w' => v = .int .u64 ((xorNext r).toNat : Int) ∧ RngAt w' x (xorNext r) ∧ Kept (fun j => j = x) w w' := by
  refine ret_of_W Tryz.func108 rfl ok_slices_xorshift_Next ?_
  simp only [c_slices_xorshift_Next, W_seq, W_set, W_draw]
  refine ok_intro (.int .u64 0) (by simp) ?_
  try simp only [W_seq, W_draw]
  have step : ∀ (r : UInt64) (k : Nat) (s : UInt64), k < 64 → s.toNat = k → bitXor .u64 (r.toNat : Int) (IntKind.u64.wrap ((r.toNat : Int) * 2 ^ k)) = (((r ^^^ (r <<< s)).toNat : Nat) : Int) := by
    intro r k s hk hs
    have e : (r.toNat : Int) * 2 ^ k = ((r.toNat * 2 ^ k : Nat) : Int) := by simp
    rw [e, u64mod, u64xor _ _ (toNat_lt r) (Nat.mod_lt _ (by omega)), UInt64.toNat_xor, shl_toNat r k hk s hs]
  have stepR : ∀ (r : UInt64) (k : Nat) (s : UInt64), k < 64 → s.toNat = k → bitXor .u64 (r.toNat : Int) ((r.toNat : Int).fdiv (2 ^ k)) = (((r ^^^ (r >>> s)).toNat : Nat) : Int) := by
    intro r k s hk hs
    have e : (r.toNat : Int).fdiv (2 ^ k) = ((r.toNat / 2 ^ k : Nat) : Int) := by
      have := nat_fdiv' r.toNat (2 ^ k)
      simpa using this
    rw [e, u64xor _ _ (toNat_lt r) (Nat.lt_of_le_of_lt (Nat.div_le_self _ _) (toNat_lt r)), UInt64.toNat_xor, shr_toNat r k hk s hs]
  have m13 : min 13 (IntKind.bits .u64) = 13 := rfl
  have m7 : min 7 (IntKind.bits .u64) = 7 := rfl
  have m17 : min 17 (IntKind.bits .u64) = 17 := rfl
  have hd := rng_drew h
  have hkd : Kept (fun j => j = x) w w.drew := (Kept.refl _ w).drew
  generalize w.drew = w1 at *
  obtain ⟨w2, hs2, h2, hk2⟩ := rng_put hd (r ^^^ (r <<< 13))
  have c1 : wcell w1 x 0 = some (.int .u64 (r.toNat : Int)) := by rw [wcell_of hd]; rfl
  refine W_store (vv := .int .u64 ((r ^^^ (r <<< 13)).toNat : Int)) (by simp) (by simp [c1, m13]; exact step r 13 13 (by omega) rfl) hs2 (stab_nil _ _ _) ?_
  try simp only [W_seq, W_draw]
  have hd2 := rng_drew h2
  have hkd2 : Kept (fun j => j = x) w w2.drew := (hkd.trans hk2).drew
  have hx : xorNext r = (let q := r ^^^ (r <<< 13); let p := q ^^^ (q >>> 7); p ^^^ (p <<< 17)) := rfl
  rw [hx]
  simp only
  clear hx
  generalize (r ^^^ (r <<< 13)) = r1 at *
  generalize w2.drew = w3 at *
  obtain ⟨w4, hs4, h4, hk4⟩ := rng_put hd2 (r1 ^^^ (r1 >>> 7))
  have c3 : wcell w3 x 0 = some (.int .u64 (r1.toNat : Int)) := by rw [wcell_of hd2]; rfl
  refine W_store (vv := .int .u64 ((r1 ^^^ (r1 >>> 7)).toNat : Int)) (by simp) (by simp [c3, m7]; exact stepR r1 7 7 (by omega) rfl) hs4 (stab_nil _ _ _) ?_
  try simp only [W_seq, W_draw]
  have hd4 := rng_drew h4
  have hkd4 : Kept (fun j => j = x) w w4.drew := (hkd2.trans hk4).drew
  generalize (r1 ^^^ (r1 >>> 7)) = r2 at *
  generalize w4.drew = w5 at *
  obtain ⟨w6, hs6, h6, hk6⟩ := rng_put hd4 (r2 ^^^ (r2 <<< 17))
  have c5 : wcell w5 x 0 = some (.int .u64 (r2.toNat : Int)) := by rw [wcell_of hd4]; rfl
  refine W_store (vv := .int .u64 ((r2 ^^^ (r2 <<< 17)).toNat : Int)) (by simp) (by simp [c5, m17]; exact step r2 17 17 (by omega) rfl) hs6 (stab_nil _ _ _) ?_
  have c6 : wcell w6 x 0 = some (.int .u64 ((r2 ^^^ (r2 <<< 17)).toNat : Int)) := by rw [wcell_of h6]; rfl
  simp [c6]
  exact ⟨h6, hkd4.trans hk6⟩
end Go.Proofs.YtkgpmjjleemdlaaGreat
