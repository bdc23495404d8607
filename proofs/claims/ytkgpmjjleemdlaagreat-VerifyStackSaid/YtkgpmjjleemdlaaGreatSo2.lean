/- Sorting of rows of numbers: less, insertion. -/
import Derived.Test.YtkgpmjjleemdlaaGreatSo1
import Derived.Test.YtkgpmjjleemdlaaGreatCmdsA
set_option linter.unusedSimpArgs false
set_option linter.unusedVariables false
set_option maxRecDepth 8000
namespace Go.Proofs.YtkgpmjjleemdlaaGreat
open Go.Eng Go.Sort

abbrev A64 (w : World) (g c : Nat) (d : Array Int) : Prop := ArrAt 3 .i64 w g c d
abbrev sl64 (g c : Nat) (d : Array Int) : Value := .slice (some ⟨g, 0, none⟩) d.size c
theorem nan64_T (w0 : World) (x : Int) : T Tryz.prog w0 115 [.int .i64 x] = some (.bool false) :=
  T_of (by kernel_rfl) Tryz.func115 rfl ok_cmp64_isNaN (by simp) (by simp) fun B hB => by simp [c_cmp64_isNaN]
theorem less64_T (w0 : World) (x y : Int) : T Tryz.prog w0 78 [.int .i64 x, .int .i64 y] = some (.bool (ltInt x y)) :=
  T_of (by kernel_rfl) Tryz.func78 rfl ok_cmp64_Less (by simp) (by simp) fun B hB => by
    have e := nan64_T w0
    simp [c_cmp64_Less, C_cond_eq, e, ltInt]
attribute [local irreducible] Go.Eng.W
theorem insert64_ret {g c a b : Nat} {d : Array Int} (w : World) (h : A64 w g c d) (hab : a ≤ b) (hb : b ≤ d.size) (hn : d.size ≤ 100000) :
    Ret Tryz.prog 72 [sl64 g c d, .int .i64 a, .int .i64 b] w fun v w' => v = .tuple #[] ∧ (A64 w' g c (insertionSort ltInt d a b) ∧ (insertionSort ltInt d a b).size = d.size) ∧ Kept (fun i => i = g) w w' := by
  refine ret_of_W Tryz.func72 rfl ok_so64_insertionSortOrdered ?_
  have e1 := i64_succ (j := a) (by omega)
  simp only [c_so64_insertionSortOrdered, W_seq, W_set]
  refine ok_intro (.int .i64 ((a + 1 : Nat) : Int)) (by simp [e1, -Int.natCast_add]) ?_
  try simp only [W_block]
  refine W_loop (fun env w' => ∃ (i : Nat) (d' : Array Int), Kept (fun i => i = g) w w' ∧ A64 w' g c d' ∧ d'.size = d.size ∧ insOuter ltInt a b i d' = insertionSort ltInt d a b ∧ i ≤ d.size + 1 ∧ env = [.slice (some ⟨g, 0, none⟩) d'.size c, .int .i64 a, .int .i64 b, .int .i64 i, undef, undef, undef]) (fun env _ => b - natAt env 3) ?_ ?_
  · exact ⟨a + 1, d, Kept.refl _ _, h, rfl, rfl, by omega, by simp⟩
  rintro env w1 ⟨i, d1, hk1, h1, hs1, ho, hi, rfl⟩
  simp only [W_seq]
  rw [insOuter_eq] at ho
  by_cases hgo : i < b
  · rw [if_pos hgo] at ho
    have hgo' : (i : Int) < b := by omega
    have e1 := i64_succ (j := i) (by omega)
    refine W_yes (by simp [hgo']) ?_
    simp only [W_skip, W_seq, W_block, W_set]
    refine ok_intro (.int .i64 i) (by simp) ?_
    try simp only [W_block]
    refine W_loop (fun env w' => ∃ (j : Nat) (d' : Array Int), Kept (fun i => i = g) w w' ∧ A64 w' g c d' ∧ d'.size = d.size ∧ insInner ltInt a j d' = insInner ltInt a i d1 ∧ j ≤ i ∧ env = [.slice (some ⟨g, 0, none⟩) d'.size c, .int .i64 a, .int .i64 b, .int .i64 i, .int .i64 j, undef, undef]) (fun env _ => natAt env 4) ?_ ?_
    · exact ⟨i, d1, hk1, h1, hs1, rfl, by omega, by simp⟩
    rintro env w2 ⟨j, d2, hk2, h2, hs2, hin, hj, rfl⟩
    simp only [W_seq]
    have hgt : decide ((a : Int) < (j : Int)) = decide (a < j) := by
      by_cases h : a < j
      · rw [decide_eq_true h, decide_eq_true (by omega)]
      · rw [decide_eq_false h, decide_eq_false (by omega)]
    refine W_less (i1 := j) (i2 := j - 1) (cb := decide (a < j)) (neg := false) (less64_T) h2 ?_ ?_ ?_ ?_ ?_ ?_ ?_ ?_ ?_
    · intro w'; simp
    · intro w'; simp [hgt]
    · intro hc; have := of_decide_eq_true hc; omega
    · intro _ w'; simp
    · intro hc w'; have := of_decide_eq_true hc; simp [i64_pred (j := j) (by omega) (by omega)]
    · intro hc b w'; simp [hgt, hc]
    · intro hc w'; simp [hgt, hc]
    · intro hc hl tv w3 h3 hk3
      have hc := of_decide_eq_true hc
      obtain ⟨j', rfl⟩ : ∃ j', j = j' + 1 := ⟨j - 1, by omega⟩
      have ep := i64_pred (j := j' + 1) (by omega) (by omega)
      rw [insInner, if_pos (by simp at hl ⊢; exact ⟨by omega, hl⟩)] at hin
      simp only [W_skip, W_seq, W_block]
      refine W_swap (t := 6) (i := j' + 1) (j := j') h3 (by omega) (by omega) ?_ ?_ ?_ ?_ ?_ ?_ ?_ ?_
      · intro w'; simp
      · intro w'; simp
      · intro w'; simp [ep, -Int.natCast_add]
      · intro x w'; simp
      · intro x w'; simp
      · intro x w'; simp [ep, -Int.natCast_add]
      · intro x w'; simp
      intro w4 h4 hk4
      simp [ep, -Int.natCast_add]
      exact ⟨⟨(hk2.trans hk3.any).trans hk4, j', _, h4, by rw [swp_len]; exact hs2, hin, by omega, by rw [swp_len], rfl⟩, by simp [natAt]⟩
    · intro hcb tv w3 h3 hk3
      have hst : insInner ltInt a j d2 = d2 := by
        cases j with
        | zero => rfl
        | succ j' =>
          rw [insInner, if_neg]
          intro h
          simp at h
          have := hcb (by simp; omega)
          simp at this
          rw [this] at h
          simp at h
      rw [hst] at hin
      simp [e1, -Int.natCast_add]
      exact ⟨⟨hk2.trans hk3.any, i + 1, d2, h3, hs2, by rw [hin]; exact ho, by omega, rfl, rfl⟩, by simp [natAt]; omega⟩
  · rw [if_neg hgo] at ho
    have hgo' : ¬ (i : Int) < b := by omega
    refine W_no (by simp [hgo']) ?_
    simp
    rw [← ho]
    exact ⟨⟨h1, hs1⟩, hk1⟩
end Go.Proofs.YtkgpmjjleemdlaaGreat

set_option linter.unusedSimpArgs false
set_option linter.unusedVariables false
set_option maxRecDepth 8000
namespace Go.Proofs.YtkgpmjjleemdlaaGreat
open Go.Eng Go.Sort
attribute [local irreducible] Go.Eng.W

theorem sift64_ret {g c lo hi f : Nat} {d : Array Int} (w : World) (h : A64 w g c d) (hlo : lo ≤ d.size) (hb : f + hi ≤ d.size) (hn : d.size ≤ 100000) :
    Ret Tryz.prog 112 [sl64 g c d, .int .i64 lo, .int .i64 hi, .int .i64 f] w fun v w' => v = .tuple #[] ∧ (A64 w' g c (siftDown ltInt hi f lo d) ∧ (siftDown ltInt hi f lo d).size = d.size) ∧ Kept (fun i => i = g) w w' := by
  refine ret_of_W Tryz.func112 rfl ok_so64_siftDownOrdered ?_
  simp only [c_so64_siftDownOrdered, W_seq, W_set]
  refine ok_intro (.int .i64 lo) (by simp) ?_
  try simp only [W_block]
  refine W_loop (fun env w' => ∃ (r : Nat) (d' : Array Int), Kept (fun i => i = g) w w' ∧ A64 w' g c d' ∧ d'.size = d.size ∧ siftDown ltInt hi f r d' = siftDown ltInt hi f lo d ∧ r ≤ d.size ∧ env = [.slice (some ⟨g, 0, none⟩) d'.size c, undef, .int .i64 hi, .int .i64 f, .int .i64 r, undef, undef, undef, undef]) (fun env _ => d.size + 1 - natAt env 4) ?_ ?_
  · exact ⟨lo, d, Kept.refl _ _, h, rfl, rfl, hlo, by simp⟩
  rintro env w1 ⟨r, d1, hk1, h1, hs1, ho, hr, rfl⟩
  have e2 := nat_dbl r (by omega)
  have e3 : IntKind.i64.wrap (((2 * r : Nat) : Int) + 1) = ((2 * r + 1 : Nat) : Int) := i64_succ (by omega)
  simp only [W_block, W_seq, W_set]
  refine ok_intro (.int .i64 ((2 * r + 1 : Nat) : Int)) (by simp [e2, e3, -Int.natCast_add, -Int.natCast_mul]) ?_
  try simp only [W_seq]
  by_cases hgo : 2 * r + 1 < hi
  · have hgo' : ¬ (hi : Int) ≤ ((2 * r + 1 : Nat) : Int) := by omega
    refine W_no (by simp [hgo', -Int.natCast_add, -Int.natCast_mul]) ?_
    simp only [W_skip, W_seq]
    generalize hch : 2 * r + 1 = ch at *
    have e4 := i64_succ (j := ch) (by omega)
    have e5 := nat_add f ch (by omega)
    have e6 : IntKind.i64.wrap (((f + ch : Nat) : Int) + 1) = ((f + ch + 1 : Nat) : Int) := i64_succ (by omega)
    have e7 := lt_nat (ch + 1) hi
    refine W_lessC (t := 6) (i1 := f + ch) (i2 := f + ch + 1) (cb := decide (ch + 1 < hi)) (neg := false) less64_T h1 ?_ ?_ ?_ ?_ ?_ ?_ ?_ ?_
    · intro w'; simp
    · intro w'; simp [e4, e7, -Int.natCast_add]
    · intro hc; have := of_decide_eq_true hc; omega
    · intro _ w'; simp [e5, -Int.natCast_add]
    · intro _ w'; simp [e5, e6, -Int.natCast_add]
    · intro hc b w'; simp [e4, e7, hc, -Int.natCast_add]
    · intro hc w'; simp [e4, e7, hc, -Int.natCast_add]
    intro x6 w2 h2 hk2 hfin
    refine W_cut (fun env w' => w' = w2 ∧ ∃ cc : Nat, cc = (if ch + 1 < hi ∧ ltInt d1[f + ch]! d1[f + ch + 1]! = true then 2 * r + 2 else ch) ∧ env = [.slice (some ⟨g, 0, none⟩) d1.size c, undef, .int .i64 hi, .int .i64 f, .int .i64 r, .int .i64 cc, x6, undef, undef]) ?_ ?_
    · refine W_cond (hfin w2) ?_ ?_
      · intro hy
        simp at hy
        simp [e4, hy, -Int.natCast_add]
        rw [show ch + 1 = 2 * r + 2 from by omega]
      · intro hy
        have hn : ¬ (ch + 1 < hi ∧ ltInt d1[f + ch]! d1[f + ch + 1]! = true) := by
          rintro ⟨q1, q2⟩
          rw [decide_eq_true q1, q2] at hy
          simp at hy
        rw [if_neg hn]
        simp
    rintro _ _ ⟨rfl, cc, hcc, rfl⟩
    have hst := sift_step hi f r d1 (by omega) cc (by rw [hch]; exact hcc)
    have hcb : r < cc ∧ cc < hi := by
      rw [hcc]
      split
      · rename_i q; omega
      · omega
    have e8 := nat_add f r (by omega)
    have e9 := nat_add f cc (by omega)
    clear hcc hfin
    simp only [W_seq]
    refine W_less1 (t := 7) (i1 := f + r) (i2 := f + cc) (neg := true) less64_T h2 ?_ (by omega) (by omega) ?_ ?_ ?_ ?_ ?_
    · intro w'; simp
    · intro w'; simp [e8, -Int.natCast_add]
    · intro w'; simp [e9, -Int.natCast_add]
    · intro b w'; simp
    · intro hl tv w3 h3 hk3
      rw [if_neg (by rw [hl]; simp)] at hst
      simp
      rw [← ho, hst]
      exact ⟨⟨h3, hs1⟩, (hk1.trans hk2.any).trans hk3.any⟩
    · intro hl tv w3 h3 hk3
      rw [if_pos hl] at hst
      simp only [W_skip, W_seq]
      refine W_swap (t := 8) (i := f + r) (j := f + cc) h3 (by omega) (by omega) ?_ ?_ ?_ ?_ ?_ ?_ ?_ ?_
      · intro w'; simp
      · intro w'; simp [e8, -Int.natCast_add]
      · intro w'; simp [e9, -Int.natCast_add]
      · intro x w'; simp
      · intro x w'; simp [e8, -Int.natCast_add]
      · intro x w'; simp [e9, -Int.natCast_add]
      · intro x w'; simp
      intro w4 h4 hk4
      simp
      exact ⟨⟨((hk1.trans hk2.any).trans hk3.any).trans hk4, cc, _, h4, by rw [swp_len]; exact hs1, by rw [← ho, hst], by omega, by rw [swp_len], rfl⟩, by simp [natAt]; omega⟩
  · have hgo' : (hi : Int) ≤ ((2 * r + 1 : Nat) : Int) := by omega
    refine W_yes (by simp [hgo', -Int.natCast_add, -Int.natCast_mul]) ?_
    simp
    rw [sift_end _ _ _ _ hgo] at ho
    rw [← ho]
    exact ⟨⟨h1, hs1⟩, hk1⟩
theorem heap64_ret {g c a b : Nat} {d : Array Int} (w : World) (h : A64 w g c d) (hab : a < b) (hb : b ≤ d.size) (hn : d.size ≤ 100000) :
    Ret Tryz.prog 73 [sl64 g c d, .int .i64 a, .int .i64 b] w fun v w' => v = .tuple #[] ∧ (A64 w' g c (heapSort ltInt d a b) ∧ (heapSort ltInt d a b).size = d.size) ∧ Kept (fun i => i = g) w w' := by
  refine ret_of_W Tryz.func73 rfl ok_so64_heapSortOrdered ?_
  have e1 := nat_sub b a (by omega) (by omega)
  have e2 := i64_pred (j := b - a) (by omega) (by omega)
  have e3 := tdiv2 (b - a - 1)
  have e4 : IntKind.i64.wrap (((b - a - 1) / 2 : Nat) : Int) = (((b - a - 1) / 2 : Nat) : Int) := i64w (by omega) (by omega)
  unfold heapSort
  simp only [c_so64_heapSortOrdered, W_seq, W_set]
  refine ok_intro (.int .i64 a) (by simp) ?_
  try simp only [W_seq, W_set]
  refine ok_intro (.int .i64 0) (by simp) ?_
  try simp only [W_seq, W_set]
  refine ok_intro (.int .i64 ((b - a : Nat) : Int)) (by simp [e1]) ?_
  try simp only [W_seq, W_set]
  generalize hN : b - a = N at *
  refine ok_intro (.int .i64 (((N - 1) / 2 : Nat) : Int)) (by simp [e2, e3, e4, -Int.natCast_ediv]) ?_
  try simp only [W_seq, W_block]
  refine W_loop (fun env w' => ∃ (k : Nat) (d' : Array Int), Kept (fun i => i = g) w w' ∧ A64 w' g c d' ∧ d'.size = d.size ∧ heapBuild ltInt N a k d' = heapBuild ltInt N a ((N - 1) / 2 + 1) d ∧ k ≤ d.size ∧ env = [.slice (some ⟨g, 0, none⟩) d'.size c, undef, undef, .int .i64 a, .int .i64 0, .int .i64 N, .int .i64 ((k : Int) - 1), undef, undef]) (fun env _ => sucAt env 6) ?_ ?_
  · exact ⟨(N - 1) / 2 + 1, d, Kept.refl _ _, h, rfl, rfl, by omega, by simp⟩
  rintro env w1 ⟨k, d1, hk1, h1, hs1, ho, hk, rfl⟩
  simp only [W_seq]
  cases k with
  | succ k =>
    have ek : ((k + 1 : Nat) : Int) - 1 = (k : Int) := by omega
    have e5 : IntKind.i64.wrap ((k : Int) - 1) = (k : Int) - 1 := i64w (by omega) (by omega)
    rw [ek]
    refine W_yes (by simp) ?_
    simp only [W_skip, W_seq, W_block]
    refine W_call (by simp) (sift64_ret w1 h1 (lo := k) (hi := N) (f := a) (by omega) (by omega) (by omega)) ?_
    rintro v w2 ⟨rfl, ⟨h2, hs2⟩, hk2⟩
    refine ⟨stab_nil _ _ _, ?_⟩
    simp [e5]
    refine ⟨⟨hk1.trans hk2, k, _, h2, by rw [hs2]; exact hs1, ho, by omega, by rw [hs2], rfl⟩, by simp [sucAt]⟩
  | zero =>
    refine W_no (by simp) ?_
    have ho' : d1 = heapBuild ltInt N a ((N - 1) / 2 + 1) d := ho
    rw [← ho']
    clear ho ho'
    simp only [W_skip, W_exit, Wx_exit_c, Wx_exit_post, Wx_exit_blk, W_seq, W_set, if_true, if_false]
    refine ok_intro (.int .i64 ((N : Int) - 1)) (by simp [i64w (n := (N : Int) - 1) (by omega) (by omega)]) ?_
    try simp only [W_seq, W_block]
    refine W_loop (fun env w' => ∃ (k : Nat) (d' : Array Int), Kept (fun i => i = g) w w' ∧ A64 w' g c d' ∧ d'.size = d.size ∧ heapPop ltInt a k d' = heapPop ltInt a N d1 ∧ k ≤ N ∧ env = [.slice (some ⟨g, 0, none⟩) d'.size c, undef, undef, .int .i64 a, .int .i64 0, undef, undef, .int .i64 ((k : Int) - 1), undef]) (fun env _ => sucAt env 7) ?_ ?_
    · exact ⟨N, d1, hk1, h1, hs1, rfl, by omega, by simp⟩
    rintro env w2 ⟨k, d2, hk2, h2, hs2, ho, hkN, rfl⟩
    simp only [W_seq]
    cases k with
    | succ k =>
      have ek : ((k + 1 : Nat) : Int) - 1 = (k : Int) := by omega
      have e5 : IntKind.i64.wrap ((k : Int) - 1) = (k : Int) - 1 := i64w (by omega) (by omega)
      have e6 := nat_add a k (by omega)
      rw [ek]
      refine W_yes (by simp) ?_
      simp only [W_skip, W_seq, W_block]
      refine W_swap (t := 8) (i := a) (j := a + k) h2 (by omega) (by omega) ?_ ?_ ?_ ?_ ?_ ?_ ?_ ?_
      · intro w'; simp
      · intro w'; simp
      · intro w'; simp [e6, -Int.natCast_add]
      · intro x w'; simp
      · intro x w'; simp
      · intro x w'; simp [e6, -Int.natCast_add]
      · intro x w'; simp
      intro w3 h3 hk3
      refine W_call (vs := [sl64 g c (swp d2 a (a + k)), .int .i64 (0 : Nat), .int .i64 k, .int .i64 a]) (by simp [swp_len]) (sift64_ret w3 (g := g) (c := c) (d := swp d2 a (a + k)) h3 (lo := 0) (hi := k) (f := a) (by omega) (by rw [swp_len]; omega) (by rw [swp_len]; omega)) ?_
      rintro v w4 ⟨rfl, ⟨h4, hs4⟩, hk4⟩
      refine ⟨stab_nil _ _ _, ?_⟩
      simp [e5]
      refine ⟨⟨(hk2.trans hk3).trans hk4, k, _, h4, by rw [hs4, swp_len]; exact hs2, ho, by omega, by rw [hs4, swp_len], rfl⟩, by simp [sucAt]⟩
    | zero =>
      refine W_no (by simp) ?_
      have ho' : d2 = heapPop ltInt a N d1 := ho
      rw [← ho']
      simp
      exact ⟨⟨h2, hs2⟩, hk2⟩
theorem reverse64_ret {g c a b : Nat} {d : Array Int} (w : World) (h : A64 w g c d) (hab : a < b) (hb : b ≤ d.size) (hn : d.size ≤ 100000) :
    Ret Tryz.prog 76 [sl64 g c d, .int .i64 a, .int .i64 b] w fun v w' => v = .tuple #[] ∧ (A64 w' g c (reverseRange d a b) ∧ (reverseRange d a b).size = d.size) ∧ Kept (fun i => i = g) w w' := by
  refine ret_of_W Tryz.func76 rfl ok_so64_reverseRangeOrdered ?_
  have e1 := i64_pred (j := b) (by omega) (by omega)
  unfold reverseRange
  simp only [c_so64_reverseRangeOrdered, W_seq, W_set]
  refine ok_intro (.int .i64 a) (by simp) ?_
  try simp only [W_seq, W_set]
  refine ok_intro (.int .i64 ((b - 1 : Nat) : Int)) (by simp [e1]) ?_
  try simp only [W_seq, W_block]
  refine W_loop (fun env w' => ∃ (i j : Nat) (d' : Array Int), Kept (fun i => i = g) w w' ∧ A64 w' g c d' ∧ d'.size = d.size ∧ reverseLoop i j d' = reverseLoop a (b - 1) d ∧ i ≤ d.size ∧ j < d.size ∧ env = [.slice (some ⟨g, 0, none⟩) d'.size c, undef, undef, .int .i64 i, .int .i64 j, undef]) (fun env _ => natAt env 4) ?_ ?_
  · exact ⟨a, b - 1, d, Kept.refl _ _, h, rfl, rfl, by omega, by omega, by simp⟩
  rintro env w1 ⟨i, j, d1, hk1, h1, hs1, ho, hi, hj, rfl⟩
  simp only [W_seq]
  rw [reverseLoop_eq] at ho
  by_cases hgo : i < j
  · rw [if_pos hgo] at ho
    have hgo' : (i : Int) < j := by omega
    have e2 := i64_succ (j := i) (by omega)
    have e3 := i64_pred (j := j) (by omega) (by omega)
    refine W_yes (by simp [hgo']) ?_
    simp only [W_skip, W_seq, W_block]
    refine W_swap (t := 5) (i := i) (j := j) h1 (by omega) (by omega) ?_ ?_ ?_ ?_ ?_ ?_ ?_ ?_
    · intro w'; simp
    · intro w'; simp
    · intro w'; simp
    · intro x w'; simp
    · intro x w'; simp
    · intro x w'; simp
    · intro x w'; simp
    intro w3 h3 hk3
    simp [e2, e3, -Int.natCast_add]
    refine ⟨⟨hk1.trans hk3, i + 1, j - 1, _, h3, by rw [swp_len]; exact hs1, ho, by omega, by omega, by rw [swp_len], rfl, rfl⟩, by simp [natAt]; omega⟩
  · rw [if_neg hgo] at ho
    have hgo' : ¬ (i : Int) < j := by omega
    refine W_no (by simp [hgo']) ?_
    rw [← ho]
    simp
    exact ⟨⟨h1, hs1⟩, hk1⟩
end Go.Proofs.YtkgpmjjleemdlaaGreat

set_option linter.unusedSimpArgs false
set_option linter.unusedVariables false
set_option maxRecDepth 8000
namespace Go.Proofs.YtkgpmjjleemdlaaGreat
open Go.Eng Go.Sort
attribute [local irreducible] Go.Eng.W

theorem break64_ret {g c a b : Nat} {d : Array Int} (w : World) (h : A64 w g c d) (hab : a ≤ b) (hb : b ≤ d.size) (hn : d.size ≤ 100000) :
    Ret Tryz.prog 74 [sl64 g c d, .int .i64 a, .int .i64 b] w fun v w' => v = .tuple #[] ∧ (A64 w' g c (breakPatterns d a b) ∧ (breakPatterns d a b).size = d.size) ∧ Kept (fun i => i = g) w w' := by
  refine ret_of_W Tryz.func74 rfl ok_so64_breakPatternsOrdered ?_
  have e1 := nat_sub b a (by omega) (by omega)
  simp only [c_so64_breakPatternsOrdered, W_seq, W_set]
  refine ok_intro (.int .i64 ((b - a : Nat) : Int)) (by simp [e1]) ?_
  by_cases h8 : 8 ≤ b - a
  · have h8' : (8 : Int) ≤ ((b - a : Nat) : Int) := by omega
    rw [brk_three d a b h8]
    generalize hN : b - a = N at *
    refine W_yes (by simp [h8']) ?_
    have hpw := two_pow_bitsLen_le (n := N) (by omega)
    have hpp : 1 ≤ 2 ^ bitsLen N := Nat.one_le_two_pow
    have e2 : IntKind.u64.wrap (N : Int) = N := u64w (by omega) (by omega)
    have e3 := tdiv4 N
    have e4 := i64n (N / 4) (by omega)
    have e5 : IntKind.i64.wrap (((N / 4 : Nat) : Int) * 2) = ((N / 4 * 2 : Nat) : Int) := by rw [i64w (by omega) (by omega)]; omega
    have e6 := nat_add a (N / 4 * 2) (by omega)
    have e7 := i64_pred (j := a + N / 4 * 2) (by omega) (by omega)
    have e8 := i64_succ (j := a + N / 4 * 2) (by omega)
    have h1s : (1 <<< bitsLen N) = 2 ^ bitsLen N := by rw [Nat.shiftLeft_eq, Nat.one_mul]
    rw [h1s]
    simp only [W_seq, W_set]
    refine ok_intro (.int .u64 N) (by simp [e2]) ?_
    try simp only [W_seq]
    refine W_new' (v := .int .u64 0) (cs := #[.int .u64 0]) (by simp) rfl ?_
    have hx0 := hp_new w (.cells #[.int .u64 0] 165)
    have hka := (Kept.refl none' w).alloc (.cells #[.int .u64 0] 165)
    have hgx := h.lt
    have hA1 := h.calm hka
    generalize (w.alloc (.cells #[.int .u64 0] 165)) = w1 at *
    generalize hxw : w.heap.size = x at *
    have hof : (UInt64.ofNat N).toNat = N := by simp; omega
    obtain ⟨w2, hs2, hr2, hk2⟩ := rng_put (w := w1) (x := x) (r := UInt64.ofNat 0) (show RngAt w1 x (UInt64.ofNat 0) from hx0) (UInt64.ofNat N)
    rw [hof] at hs2
    refine W_store (vv := .int .u64 N) (by simp) (by simp) hs2 (stab_nil _ _ _) ?_
    have hk02 : Kept (fun i => i = g) w w2 := keptS hka.any hk2 fun i hi h => by omega
    have hA2 : A64 w2 g c d := hA1.keep hk2 (by omega)
    try simp only [W_seq]
    refine W_calm (by simp) (ret_of_T (pow_T w2 (n := N) (by omega))) ?_
    intro w3 hk3
    simp only [W_set, W_seq]
    refine ok_intro (.int .u64 ((2 ^ bitsLen N : Nat) : Int)) (by simp) ?_
    try simp only [W_set, W_seq]
    generalize hM : 2 ^ bitsLen N = M at *
    refine ok_intro (.int .i64 ((a + N / 4 * 2 - 1 : Nat) : Int)) (by simp [e3, e4, e5, e6, e7, -Int.natCast_add, -Int.natCast_mul, -Int.natCast_ediv]) ?_
    try simp only [W_seq, W_block]
    generalize hI : a + N / 4 * 2 - 1 = idx at *
    have hI1 : a + N / 4 * 2 = idx + 1 := by omega
    rw [hI1] at e6 e8
    have hidx : idx + 2 < d.size := by omega
    refine W_loop (fun env w' => ∃ i : Nat, Kept (fun i => i = g) w w' ∧ RngAt w' x (brk a N M idx d i).1 ∧ A64 w' g c (brk a N M idx d i).2 ∧ (brk a N M idx d i).2.size = d.size ∧ i ≤ 3 ∧ env = [.slice (some ⟨g, 0, none⟩) d.size c, .int .i64 a, undef, .int .i64 N, .pointer (some ⟨x, 0, none⟩), undef, undef, .int .u64 M, .int .i64 (idx + i : Nat), undef, undef, undef]) (fun env _ => idx + 3 - natAt env 8) ?_ ?_
    · exact ⟨0, keptS hk02 hk3 (fun i hi h => h.elim), hk3.has hr2 (fun h => h), hA2.calm hk3, rfl, by omega, by simp⟩
    rintro env w4 ⟨i, hk4, hr4, hA4, hs4, hi, rfl⟩
    simp only [W_seq]
    by_cases hgo : i < 3
    · have hle : decide (((idx + i : Nat) : Int) ≤ ((idx + 1 + 1 : Nat) : Int)) = true := decide_eq_true (by omega)
      have hle' : ((idx + i : Nat) : Int) ≤ ((idx + 1 + 1 : Nat) : Int) := by omega
      refine W_yes (by simp [e3, e4, e5, e6, e8, hle', -Int.natCast_add, -Int.natCast_mul, -Int.natCast_ediv]) ?_
      simp only [W_skip, W_seq, W_block]
      refine W_call (by simp) (next_ret' w4 hr4) ?_
      rintro v w5 ⟨rfl, hr5, hk5⟩
      refine ⟨stab_nil _ _ _, ?_⟩
      have hA5 : A64 w5 g c (brk a N M idx d i).2 := hA4.keep hk5 (by omega)
      have hk05 : Kept (fun i => i = g) w w5 := keptS hk4 hk5 fun i hi h => by omega
      have hbs : brk a N M idx d (i + 1) = breakStep a N M (brk a N M idx d i) (idx + i) := rfl
      unfold breakStep at hbs
      simp only at hbs
      generalize xorNext (brk a N M idx d i).1 = r at *
      generalize (brk a N M idx d i).2 = d1 at *
      have hand : r.toNat &&& (M - 1) ≤ M - 1 := Nat.and_le_right
      have f1 : IntKind.u64.wrap ((M : Int) - 1) = ((M - 1 : Nat) : Int) := by rw [u64w (by omega) (by omega)]; omega
      have f2 := u64and r.toNat (M - 1) (toNat_lt r) (by omega)
      generalize hq : r.toNat &&& (M - 1) = q at *
      have f3 := i64n q (by omega)
      simp only [W_set, W_seq]
      refine ok_intro (.int .i64 q) (by simp [f1, f2, f3]) ?_
      try simp only [W_seq]
      refine W_cut (fun env w' => w' = w5 ∧ ∃ o : Nat, o = (if q ≥ N then q - N else q) ∧ env = [.slice (some ⟨g, 0, none⟩) d.size c, .int .i64 a, undef, .int .i64 N, .pointer (some ⟨x, 0, none⟩), undef, undef, .int .u64 M, .int .i64 (idx + i : Nat), .int .u64 (r.toNat : Int), .int .i64 o, undef]) ?_ ?_
      · refine W_cond (t := decide (N ≤ q)) (by simp [le_nat]) ?_ ?_
        · intro hy
          have hy := of_decide_eq_true hy
          have f4 := nat_sub q N hy (by omega)
          rw [if_pos hy]
          simp [f4]
        · intro hy
          have hy := of_decide_eq_false hy
          rw [if_neg hy]
          simp
      rintro _ _ ⟨rfl, o, ho, rfl⟩
      rw [← ho] at hbs
      have hoN : o < N := by rw [ho]; split <;> omega
      have f5 := nat_add a o (by omega)
      have f6 := i64_succ (j := idx + i) (by omega)
      simp only [W_seq]
      rw [hs4.symm]
      refine W_swap (t := 11) (i := idx + i) (j := a + o) hA5 (by omega) (by omega) ?_ ?_ ?_ ?_ ?_ ?_ ?_ ?_
      · intro w'; simp
      · intro w'; simp
      · intro w'; simp [f5, -Int.natCast_add]
      · intro y w'; simp
      · intro y w'; simp
      · intro y w'; simp [f5, -Int.natCast_add]
      · intro y w'; simp
      intro w6 h6 hk6
      simp [f6, -Int.natCast_add]
      have hb1 : (brk a N M idx d (i + 1)).1 = r := by rw [hbs]
      have hb2 : (brk a N M idx d (i + 1)).2 = swp d1 (idx + i) (a + o) := by rw [hbs]
      exact ⟨⟨hk05.trans hk6, i + 1, by rw [hb1]; exact hk6.has hr5 (by omega), by rw [hb2]; exact h6, by rw [hb2, swp_len], by omega, by omega⟩, by simp [natAt]; omega⟩
    · have hi3 : i = 3 := by omega
      subst hi3
      have hle' : ¬ ((idx + 3 : Nat) : Int) ≤ ((idx + 1 + 1 : Nat) : Int) := by omega
      refine W_no (by simp [e3, e4, e5, e6, e8, hle', -Int.natCast_add, -Int.natCast_mul, -Int.natCast_ediv]) ?_
      simp
      exact ⟨⟨hA4, hs4⟩, hk4⟩
  · have h8' : ¬ (8 : Int) ≤ ((b - a : Nat) : Int) := by omega
    have hbr : breakPatterns d a b = d := by unfold breakPatterns; rw [if_neg h8]
    rw [hbr]
    refine W_no (by simp [h8']) ?_
    simp
    exact ⟨h, Kept.refl _ _⟩

theorem order64_ret {g c s a b n : Nat} {d : Array Int} (w : World) (h : A64 w g c d) (hs : CntAt w s n) (hne : s ≠ g) (ha : a < d.size) (hb : b < d.size) (hn : n ≤ 100000) :
    Ret Tryz.prog 136 [sl64 g c d, .int .i64 a, .int .i64 b, .pointer (some ⟨s, 0, none⟩)] w fun v w' =>
      v = .tuple #[.int .i64 (order2 ltInt d a b n).1, .int .i64 (order2 ltInt d a b n).2.1] ∧ A64 w' g c d ∧ CntAt w' s (order2 ltInt d a b n).2.2 ∧ Kept (fun i => i = s) w w' := by
  refine ret_of_W Tryz.func136 rfl ok_so64_order2Ordered ?_
  simp only [c_so64_order2Ordered, W_seq, W_set]
  refine ok_intro (.int .i64 0) (by simp) ?_
  try simp only [W_seq, W_set]
  refine ok_intro (.int .i64 0) (by simp) ?_
  try simp only [W_seq]
  have e1 := i64_succ (j := n) (by omega)
  refine W_less1 (t := 6) (i1 := b) (i2 := a) (neg := false) less64_T h ?_ hb ha ?_ ?_ ?_ ?_ ?_
  · intro w'; simp
  · intro w'; simp
  · intro w'; simp
  · intro b w'; simp
  · intro hl tv w1 h1 hk1
    have ho : order2 ltInt d a b n = (b, a, n + 1) := by unfold order2; rw [if_pos (by simpa using hl)]
    rw [ho]
    have hs1 : CntAt w1 s n := hk1.has hs (fun h => h)
    obtain ⟨w2, hs2, hc2, hk2⟩ := cnt_put hs1 (n + 1)
    have hc0 : wcell w1 s 0 = some (.int .i64 (n : Int)) := by rw [wcell_of hs1]; rfl
    simp only [W_seq]
    refine W_store (vv := .int .i64 ((n + 1 : Nat) : Int)) (by simp) (by simp [hc0, e1, -Int.natCast_add]) hs2 (stab_nil _ _ _) ?_
    simp
    exact ⟨h1.keep hk2 (by omega), hc2, (hk1.any (S := fun i => i = s)).trans hk2⟩
  · intro hl tv w1 h1 hk1
    have ho : order2 ltInt d a b n = (a, b, n) := by unfold order2; rw [if_neg (by rw [hl]; simp)]
    rw [ho]
    simp
    exact ⟨h1, hk1.has hs (fun h => h), hk1.any⟩
theorem median64_ret {g c s a b e n : Nat} {d : Array Int} (w : World) (h : A64 w g c d) (hs : CntAt w s n) (hne : s ≠ g) (ha : a < d.size) (hb : b < d.size) (he : e < d.size) (hn : n ≤ 90000) :
    Ret Tryz.prog 114 [sl64 g c d, .int .i64 a, .int .i64 b, .int .i64 e, .pointer (some ⟨s, 0, none⟩)] w fun v w' =>
      v = .int .i64 (median ltInt d a b e n).1 ∧ A64 w' g c d ∧ CntAt w' s (median ltInt d a b e n).2 ∧ Kept (fun i => i = s) w w' := by
  refine ret_of_W Tryz.func114 rfl ok_so64_medianOrdered ?_
  unfold median
  obtain ⟨q1, q2, q3⟩ := order2_lt d (n := n) ha hb
  simp only [c_so64_medianOrdered, W_seq, W_set]
  refine ok_intro (.int .i64 0) (by simp) ?_
  try simp only [W_seq]
  refine W_call (by simp) (order64_ret w h hs hne ha hb (by omega)) ?_
  rintro v w1 ⟨rfl, h1, hs1, hk1⟩
  refine ⟨stab_nil _ _ _, ?_⟩
  generalize order2 ltInt d a b n = r1 at *
  obtain ⟨r11, r12, r13⟩ := r1
  simp only at q1 q2 q3 hs1
  obtain ⟨p1, p2, p3⟩ := order2_lt d (n := r13) q2 he
  simp
  refine W_call (by simp) (order64_ret w1 h1 hs1 hne q2 he (by omega)) ?_
  rintro v w2 ⟨rfl, h2, hs2, hk2⟩
  refine ⟨stab_nil _ _ _, ?_⟩
  generalize order2 ltInt d r12 e r13 = r2 at *
  obtain ⟨r21, r22, r23⟩ := r2
  simp only at p1 p2 p3 hs2
  simp
  refine W_call (by simp) (order64_ret w2 h2 hs2 hne q1 p1 (by omega)) ?_
  rintro v w3 ⟨rfl, h3, hs3, hk3⟩
  refine ⟨stab_nil _ _ _, ?_⟩
  simp
  exact ⟨h3, hs3, (hk1.trans hk2).trans hk3⟩
theorem adjacent64_ret {g c s a n : Nat} {d : Array Int} (w : World) (h : A64 w g c d) (hs : CntAt w s n) (hne : s ≠ g) (ha0 : 0 < a) (ha : a + 1 < d.size) (hd : d.size ≤ 100000) (hn : n ≤ 90000) :
    Ret Tryz.prog 113 [sl64 g c d, .int .i64 a, .pointer (some ⟨s, 0, none⟩)] w fun v w' =>
      v = .int .i64 (medianAdjacent ltInt d a n).1 ∧ A64 w' g c d ∧ CntAt w' s (medianAdjacent ltInt d a n).2 ∧ Kept (fun i => i = s) w w' := by
  refine ret_of_W Tryz.func113 rfl ok_so64_medianAdjacentOrdered ?_
  have e1 := i64_pred (j := a) ha0 (by omega)
  have e2 := i64_succ (j := a) (by omega)
  unfold medianAdjacent
  simp only [c_so64_medianAdjacentOrdered, W_seq, W_set]
  refine ok_intro (.int .i64 0) (by simp) ?_
  try simp only [W_seq]
  refine W_call (vs := [sl64 g c d, .int .i64 (a - 1 : Nat), .int .i64 a, .int .i64 (a + 1 : Nat), .pointer (some ⟨s, 0, none⟩)]) (by simp [e1, e2, -Int.natCast_add]) (median64_ret w h hs hne (by omega) (by omega) ha hn) ?_
  rintro v w1 ⟨rfl, h1, hs1, hk1⟩
  refine ⟨stab_nil _ _ _, ?_⟩
  simp
  exact ⟨h1, hs1, hk1⟩
theorem pivot64_ret {g c a b : Nat} {d : Array Int} (w : World) (h : A64 w g c d) (hab : a < b) (hb : b ≤ d.size) (hd : d.size ≤ 80000) :
    Ret Tryz.prog 75 [sl64 g c d, .int .i64 a, .int .i64 b] w fun v w' => v = .tuple #[.int .i64 (choosePivot ltInt d a b).1, .int .i64 (hintN (choosePivot ltInt d a b).2)] ∧ A64 w' g c d ∧ Kept none' w w' := by
  refine ret_of_W Tryz.func75 rfl ok_so64_choosePivotOrdered ?_
  have e1 := nat_sub b a (by omega) (by omega)
  have e3 := tdiv4 (b - a)
  have e4 := i64n ((b - a) / 4) (by omega)
  have m2 : IntKind.i64.wrap ((((b - a) / 4 : Nat) : Int) * 2) = (((b - a) / 4 * 2 : Nat) : Int) := by rw [i64w (by omega) (by omega)]; omega
  have m3 : IntKind.i64.wrap ((((b - a) / 4 : Nat) : Int) * 3) = (((b - a) / 4 * 3 : Nat) : Int) := by rw [i64w (by omega) (by omega)]; omega
  have s1 := nat_add a ((b - a) / 4) (by omega)
  have s2 := nat_add a ((b - a) / 4 * 2) (by omega)
  have s3 := nat_add a ((b - a) / 4 * 3) (by omega)
  have hq : 4 * ((b - a) / 4) ≤ b - a := Nat.mul_div_le _ _
  have hcp : choosePivot ltInt d a b = (let r : Nat × Nat := if 8 ≤ b - a then (if 50 ≤ b - a then
        median ltInt d (medianAdjacent ltInt d (a + (b - a) / 4) 0).1 (medianAdjacent ltInt d (a + (b - a) / 4 * 2) (medianAdjacent ltInt d (a + (b - a) / 4) 0).2).1 (medianAdjacent ltInt d (a + (b - a) / 4 * 3) (medianAdjacent ltInt d (a + (b - a) / 4 * 2) (medianAdjacent ltInt d (a + (b - a) / 4) 0).2).2).1 (medianAdjacent ltInt d (a + (b - a) / 4 * 3) (medianAdjacent ltInt d (a + (b - a) / 4 * 2) (medianAdjacent ltInt d (a + (b - a) / 4) 0).2).2).2
      else median ltInt d (a + (b - a) / 4) (a + (b - a) / 4 * 2) (a + (b - a) / 4 * 3) 0) else (a + (b - a) / 4 * 2, 0); (r.1, if r.2 = 0 then .increasing else if r.2 = 12 then .decreasing else .unknown)) := by
    unfold choosePivot
    simp only [Nat.mul_one]
  rw [hcp]
  clear hcp
  simp only [c_so64_choosePivotOrdered, W_seq, W_set]
  refine ok_intro (.int .i64 0) (by simp) ?_
  try simp only [W_seq, W_set]
  refine ok_intro (.int .i64 0) (by simp) ?_
  try simp only [W_seq, W_set]
  refine ok_intro (.int .i64 ((b - a : Nat) : Int)) (by simp [e1]) ?_
  try simp only [W_seq]
  refine W_new' (v := .int .i64 0) (cs := #[.int .i64 0]) (by simp) rfl ?_
  have hs0 := hp_new w (.cells #[.int .i64 0] 3)
  have hka := (Kept.refl none' w).alloc (.cells #[.int .i64 0] 3)
  have hgx := h.lt
  have hA1 := h.calm hka
  generalize (w.alloc (.cells #[.int .i64 0] 3)) = w1 at *
  generalize hxw : w.heap.size = s at *
  have hs1 : CntAt w1 s 0 := hs0
  clear hs0
  generalize hN : b - a = N at *
  generalize hQ : N / 4 = q at *
  try simp only [W_seq, W_set]
  refine ok_intro (.int .i64 ((a + q : Nat) : Int)) (by simp [e3, e4, s1, -Int.natCast_add]) ?_
  try simp only [W_seq, W_set]
  refine ok_intro (.int .i64 ((a + q * 2 : Nat) : Int)) (by simp [e3, e4, m2, s2, -Int.natCast_add, -Int.natCast_mul]) ?_
  try simp only [W_seq, W_set]
  refine ok_intro (.int .i64 ((a + q * 3 : Nat) : Int)) (by simp [e3, e4, m3, s3, -Int.natCast_add, -Int.natCast_mul]) ?_
  try simp only [W_seq]
  have hne : s ≠ g := by omega
  refine W_cut (fun env w' => ∃ (r : Nat × Nat), r = (if 8 ≤ N then (if 50 ≤ N then
        median ltInt d (medianAdjacent ltInt d (a + q) 0).1 (medianAdjacent ltInt d (a + q * 2) (medianAdjacent ltInt d (a + q) 0).2).1 (medianAdjacent ltInt d (a + q * 3) (medianAdjacent ltInt d (a + q * 2) (medianAdjacent ltInt d (a + q) 0).2).2).1 (medianAdjacent ltInt d (a + q * 3) (medianAdjacent ltInt d (a + q * 2) (medianAdjacent ltInt d (a + q) 0).2).2).2
      else median ltInt d (a + q) (a + q * 2) (a + q * 3) 0) else (a + q * 2, 0)) ∧ A64 w' g c d ∧ CntAt w' s r.2 ∧ Kept (fun i => i = s) w1 w' ∧ ∃ x7 x9 x10 x11 x12 x13, env = [.slice (some ⟨g, 0, none⟩) d.size c, .int .i64 a, .int .i64 b, .int .i64 0, .int .i64 0, .int .i64 N, .pointer (some ⟨s, 0, none⟩), x7, .int .i64 r.1, x9, x10, x11, x12, x13, undef, undef, undef]) ?_ ?_
  · refine W_cond (t := decide (8 ≤ N)) (by simp; omega) ?_ ?_
    · intro h8
      have h8 := of_decide_eq_true h8
      rw [if_pos h8]
      try simp only [W_seq]
      by_cases h50 : 50 ≤ N
      · rw [if_pos h50]
        have h50' : (50 : Int) ≤ N := by omega
        refine W_cut (fun env w' => ∃ (ri rj rk : Nat × Nat), ri = medianAdjacent ltInt d (a + q) 0 ∧ rj = medianAdjacent ltInt d (a + q * 2) ri.2 ∧ rk = medianAdjacent ltInt d (a + q * 3) rj.2 ∧ ri.1 < d.size ∧ rj.1 < d.size ∧ rk.1 < d.size ∧ rk.2 ≤ 100 ∧ A64 w' g c d ∧ CntAt w' s rk.2 ∧ Kept (fun i => i = s) w1 w' ∧ ∃ x10 x11 x12, env = [.slice (some ⟨g, 0, none⟩) d.size c, .int .i64 a, .int .i64 b, .int .i64 0, .int .i64 0, .int .i64 N, .pointer (some ⟨s, 0, none⟩), .int .i64 ri.1, .int .i64 rj.1, .int .i64 rk.1, x10, x11, x12, undef, undef, undef, undef]) ?_ ?_
        · refine W_yes (by simp [h50']) ?_
          simp only [W_seq]
          refine W_call (by simp) (adjacent64_ret w1 hA1 hs1 hne (a := a + q) (by omega) (by omega) (by omega) (by omega)) ?_
          rintro v w2 ⟨rfl, hA2, hs2, hk2⟩
          refine ⟨stab_nil _ _ _, ?_⟩
          have l1 := median_lt d (a := a + q - 1) (b := a + q) (e := a + q + 1) (n := 0) (N := d.size) (by omega) (by omega) (by omega)
          have l1' : (medianAdjacent ltInt d (a + q) 0).1 < d.size ∧ (medianAdjacent ltInt d (a + q) 0).2 ≤ 0 + 3 := l1
          clear l1
          generalize medianAdjacent ltInt d (a + q) 0 = ri at *
          simp
          refine W_call (by simp) (adjacent64_ret w2 hA2 hs2 hne (a := a + q * 2) (by omega) (by omega) (by omega) (by omega)) ?_
          rintro v w3 ⟨rfl, hA3, hs3, hk3⟩
          refine ⟨stab_nil _ _ _, ?_⟩
          have l2 := median_lt d (a := a + q * 2 - 1) (b := a + q * 2) (e := a + q * 2 + 1) (n := ri.2) (N := d.size) (by omega) (by omega) (by omega)
          have l2' : (medianAdjacent ltInt d (a + q * 2) ri.2).1 < d.size ∧ (medianAdjacent ltInt d (a + q * 2) ri.2).2 ≤ ri.2 + 3 := l2
          clear l2
          generalize hrj : medianAdjacent ltInt d (a + q * 2) ri.2 = rj at *
          simp
          refine W_call (by simp) (adjacent64_ret w3 hA3 hs3 hne (a := a + q * 3) (by omega) (by omega) (by omega) (by omega)) ?_
          rintro v w4 ⟨rfl, hA4, hs4, hk4⟩
          refine ⟨stab_nil _ _ _, ?_⟩
          have l3 := median_lt d (a := a + q * 3 - 1) (b := a + q * 3) (e := a + q * 3 + 1) (n := rj.2) (N := d.size) (by omega) (by omega) (by omega)
          have l3' : (medianAdjacent ltInt d (a + q * 3) rj.2).1 < d.size ∧ (medianAdjacent ltInt d (a + q * 3) rj.2).2 ≤ rj.2 + 3 := l3
          clear l3
          generalize hrk : medianAdjacent ltInt d (a + q * 3) rj.2 = rk at *
          simp
          exact ⟨by omega, by omega, by omega, by omega, hA4, hs4, (hk2.trans hk3).trans hk4⟩
        rintro _ w5 ⟨ri, rj, rk, hri, hrj, hrk, li, lj, lk, lk2, hA5, hs5, hk5, x10, x11, x12, rfl⟩
        rw [← hri, ← hrj, ← hrk]
        simp only [W_seq]
        refine W_call (by simp) (median64_ret w5 hA5 hs5 hne li lj lk (by omega)) ?_
        rintro v w6 ⟨rfl, hA6, hs6, hk6⟩
        refine ⟨stab_nil _ _ _, ?_⟩
        simp
        exact ⟨hA6, hs6, hk5.trans hk6⟩
      · rw [if_neg h50]
        have h50' : ¬ (50 : Int) ≤ N := by omega
        refine W_no (by simp [h50']) ?_
        simp only [W_skip, W_seq]
        refine W_call (by simp) (median64_ret w1 hA1 hs1 hne (a := a + q) (b := a + q * 2) (e := a + q * 3) (by omega) (by omega) (by omega) (by omega)) ?_
        rintro v w6 ⟨rfl, hA6, hs6, hk6⟩
        refine ⟨stab_nil _ _ _, ?_⟩
        simp
        exact ⟨hA6, hs6, hk6⟩
    · intro h8
      have h8 := of_decide_eq_false h8
      rw [if_neg h8]
      simp
      exact ⟨hA1, hs1, Kept.refl _ _⟩
  rintro _ w7 ⟨r, hr, hA7, hs7, hk7, x7, x9, x10, x11, x12, x13, rfl⟩
  rw [← hr]
  clear hr
  have hk07 : Kept none' w w7 := hka.then hk7 fun i hi h => by omega
  have hc0 : wcell w7 s 0 = some (.int .i64 (r.2 : Int)) := by rw [wcell_of hs7]; rfl
  simp only [W_seq, W_set]
  refine ok_intro (.int .i64 (r.2 : Int)) (by simp [hc0]) ?_
  try simp only [W_seq, W_set, W_block]
  by_cases h0 : r.2 = 0
  · rw [if_pos h0]
    refine ok_intro (.bool true) (by simp [h0]) ?_
    refine W_yes (by simp) ?_
    simp [hintN]
    exact ⟨hA7, hk07⟩
  rw [if_neg h0]
  refine ok_intro (.bool false) (by simp [h0]) ?_
  refine W_no (by simp) ?_
  simp only [W_seq, W_set]
  by_cases h12 : r.2 = 12
  · rw [if_pos h12]
    refine ok_intro (.bool true) (by simp [h12]) ?_
    refine W_yes (by simp) ?_
    simp [hintN]
    exact ⟨hA7, hk07⟩
  · rw [if_neg h12]
    refine ok_intro (.bool false) (by simp; omega) ?_
    refine W_no (by simp) ?_
    simp [hintN]
    exact ⟨hA7, hk07⟩
end Go.Proofs.YtkgpmjjleemdlaaGreat

set_option linter.unusedSimpArgs false
set_option linter.unusedVariables false
set_option maxRecDepth 8000
namespace Go.Proofs.YtkgpmjjleemdlaaGreat
open Go.Eng Go.Sort
attribute [local irreducible] Go.Eng.W

theorem partial64_ret {g c a b : Nat} {d : Array Int} (w : World) (h : A64 w g c d) (hab : a < b) (hb : b ≤ d.size) (hn : d.size ≤ 80000) :
    Ret Tryz.prog 77 [sl64 g c d, .int .i64 a, .int .i64 b] w fun v w' => v = .bool (partialInsertionSort ltInt d a b).2 ∧ (A64 w' g c (partialInsertionSort ltInt d a b).1 ∧ (partialInsertionSort ltInt d a b).1.size = d.size) ∧ Kept (fun i => i = g) w w' := by
  refine ret_of_W Tryz.func77 rfl ok_so64_partialInsertionSortOrdered ?_
  have e1 := i64_succ (j := a) (by omega)
  unfold partialInsertionSort
  simp only [c_so64_partialInsertionSortOrdered, W_seq, W_set]
  refine ok_intro (.bool false) (by simp) ?_
  try simp only [W_seq, W_set]
  refine ok_intro (.int .i64 ((a + 1 : Nat) : Int)) (by simp [e1, -Int.natCast_add]) ?_
  try simp only [W_seq, W_set]
  refine ok_intro (.int .i64 0) (by simp) ?_
  try simp only [W_seq, W_block]
  refine W_loop (fun env w' => ∃ (s i : Nat) (d' : Array Int), Kept (fun i => i = g) w w' ∧ A64 w' g c d' ∧ d'.size = d.size ∧ partialIns ltInt a b s i d' = partialIns ltInt a b 5 (a + 1) d ∧ s ≤ 5 ∧ a < i ∧ i ≤ b ∧ env = [.slice (some ⟨g, 0, none⟩) d'.size c, .int .i64 a, .int .i64 b, undef, .int .i64 i, .int .i64 (5 - s : Nat), undef, undef, undef, undef, undef, undef, undef, undef]) (fun env _ => 5 - natAt env 5) ?_ ?_
  · exact ⟨5, a + 1, d, Kept.refl _ _, h, rfl, rfl, by omega, by omega, by omega, by simp⟩
  rintro env w1 ⟨s, i, d1, hk1, h1, hs1, ho, hs5, hai, hib, rfl⟩
  simp only [W_seq]
  cases s with
  | zero =>
    refine W_no (by simp) ?_
    have ho' : (d1, false) = partialIns ltInt a b 5 (a + 1) d := ho
    rw [← ho']
    simp
    exact ⟨⟨h1, hs1⟩, hk1⟩
  | succ s =>
    have h5s : 5 - s = (5 - (s + 1)) + 1 := by omega
    generalize hst : 5 - (s + 1) = st at *
    have hlt5 : (st : Int) < 5 := by omega
    have e5 := i64_succ (j := st) (by omega)
    refine W_yes (by simp [hlt5]) ?_
    simp only [W_skip, W_seq]
    rw [W_block]
    simp only [W_seq]
    rw [partialIns_next] at ho
    have hsc := scanSorted_le d1 b (b - i) i (Nat.le_refl _) hib
    refine W_cut (fun env w' => Kept (fun i => i = g) w w' ∧ A64 w' g c d1 ∧ ∃ x6, env = [.slice (some ⟨g, 0, none⟩) d1.size c, .int .i64 a, .int .i64 b, undef, .int .i64 (scanSorted ltInt d1 b i : Nat), .int .i64 (st : Nat), x6, undef, undef, undef, undef, undef, undef, undef]) ?_ ?_
    · rw [W_block]
      refine W_loop (fun env w' => ∃ i' : Nat, Kept (fun i => i = g) w w' ∧ A64 w' g c d1 ∧ scanSorted ltInt d1 b i' = scanSorted ltInt d1 b i ∧ a < i' ∧ i' ≤ b ∧ env = [.slice (some ⟨g, 0, none⟩) d1.size c, .int .i64 a, .int .i64 b, undef, .int .i64 (i' : Nat), .int .i64 (st : Nat), undef, undef, undef, undef, undef, undef, undef, undef]) (fun env _ => b - natAt env 4) ?_ ?_
      · exact ⟨i, hk1, h1, rfl, hai, hib, by simp⟩
      rintro env w2 ⟨i', hk2, h2, hsc', hai', hib', rfl⟩
      simp only [W_seq]
      rw [scanSorted_eq] at hsc'
      have e6 := i64_succ (j := i') (by omega)
      refine W_less (i1 := i') (i2 := i' - 1) (cb := decide (i' < b)) (neg := true) less64_T h2 ?_ ?_ ?_ ?_ ?_ ?_ ?_ ?_ ?_
      · intro w'; simp
      · intro w'; simp [lt_nat]
      · intro hc; have := of_decide_eq_true hc; omega
      · intro _ w'; simp
      · intro _ w'; simp [i64_pred (j := i') (by omega) (by omega)]
      · intro hc q w'; simp [lt_nat, hc]
      · intro hc w'; simp [lt_nat, hc]
      · intro hc hl tv w3 h3 hk3
        have hc := of_decide_eq_true hc
        rw [if_pos (by rw [hl]; simpa using hc)] at hsc'
        simp [e6, -Int.natCast_add]
        exact ⟨⟨hk2.trans hk3.any, h3, i' + 1, hsc', by omega, by omega, rfl⟩, by simp [natAt]; omega⟩
      · intro hcb tv w3 h3 hk3
        rw [if_neg (fun hh => by
          simp at hh
          have := hcb (by simpa using hh.1)
          rw [this] at hh
          simp at hh)] at hsc'
        rw [← hsc']
        simp
        exact ⟨hk2.trans hk3.any, h3⟩
    rintro _ w2 ⟨hk2, h2, x6, rfl⟩
    generalize hsci : scanSorted ltInt d1 b i = si at *
    have hsa : a < si := by omega
    simp only [W_seq]
    by_cases hsb : si = b
    · rw [if_pos hsb] at ho
      rw [← ho]
      refine W_yes (by simp [hsb]) ?_
      simp
      exact ⟨⟨h2, hs1⟩, hk2⟩
    rw [if_neg hsb] at ho
    refine W_no (by simp; omega) ?_
    simp only [W_skip, W_seq]
    have e7 := nat_sub b a (by omega) (by omega)
    by_cases h50 : b - a < 50
    · rw [if_pos h50] at ho
      rw [← ho]
      refine W_yes (by simp [e7]; omega) ?_
      simp
      exact ⟨⟨h2, hs1⟩, hk2⟩
    rw [if_neg h50] at ho
    refine W_no (by simp [e7]; omega) ?_
    simp only [W_skip, W_seq]
    have e8 := i64_pred (j := si) (by omega) (by omega)
    refine W_swap (t := 7) (i := si) (j := si - 1) h2 (by omega) (by omega) ?_ ?_ ?_ ?_ ?_ ?_ ?_ ?_
    · intro w'; simp
    · intro w'; simp
    · intro w'; simp [e8]
    · intro x w'; simp
    · intro x w'; simp
    · intro x w'; simp [e8]
    · intro x w'; simp
    intro w3 h3 hk3
    have hk3' := hk2.trans hk3
    have hs3 : (swp d1 si (si - 1)).size = d.size := by rw [swp_len]; exact hs1
    generalize swp d1 si (si - 1) = d3 at *
    simp only [W_seq]
    have e9 := nat_sub si a (by omega) (by omega)
    refine W_cut (fun env w' => ∃ d4 : Array Int, SameA d4 (if si - a ≥ 2 then shiftDown ltInt (si - 1) d3 else d3) ∧ Kept (fun i => i = g) w w' ∧ A64 w' g c d4 ∧ d4.size = d.size ∧ ∃ x6 x7 x8 x9 x10, env = [.slice (some ⟨g, 0, none⟩) d4.size c, .int .i64 a, .int .i64 b, undef, .int .i64 (si : Nat), .int .i64 (st : Nat), x6, x7, x8, x9, x10, undef, undef, undef]) ?_ ?_
    · refine W_cond (t := decide (2 ≤ si - a)) (by simp [e9]; omega) ?_ ?_
      · intro hy
        have hy := of_decide_eq_true hy
        rw [if_pos hy]
        simp only [W_seq, W_set]
        refine ok_intro (.int .i64 ((si - 1 : Nat) : Int)) (by simp [e8]) ?_
        try simp only [W_seq]
        rw [W_block]
        refine W_loop (fun env w' => ∃ (j : Nat) (d' : Array Int), Kept (fun i => i = g) w w' ∧ A64 w' g c d' ∧ d'.size = d.size ∧ shiftDown ltInt j d' = shiftDown ltInt (si - 1) d3 ∧ j < si ∧ env = [.slice (some ⟨g, 0, none⟩) d'.size c, .int .i64 a, .int .i64 b, undef, .int .i64 (si : Nat), .int .i64 (st : Nat), undef, undef, .int .i64 (j : Nat), undef, undef, undef, undef, undef]) (fun env _ => natAt env 8) ?_ ?_
        · exact ⟨si - 1, d3, hk3', h3, hs3, rfl, by omega, by simp [swp_len, hs1, hs3]⟩
        rintro env w4 ⟨j, d4, hk4, h4, hs4, hsd, hj, rfl⟩
        simp only [W_seq]
        cases j with
        | zero =>
          refine W_no (by simp) ?_
          have hsd' : d4 = shiftDown ltInt (si - 1) d3 := hsd
          simp
          exact ⟨d4, hsd', hk4, h4, hs4, rfl⟩
        | succ j =>
          have f1 := i64_pred (j := j + 1) (by omega) (by omega)
          have hj1 : (1 : Int) ≤ ((j + 1 : Nat) : Int) := by omega
          refine W_yes (by simp [hj1, -Int.natCast_add]) ?_
          simp only [W_skip, W_seq, W_block]
          rw [shiftDown] at hsd
          refine W_less1 (t := 9) (i1 := j + 1) (i2 := j) (neg := true) less64_T h4 ?_ (by omega) (by omega) ?_ ?_ ?_ ?_ ?_
          · intro w'; simp
          · intro w'; simp
          · intro w'; simp [f1, -Int.natCast_add]
          · intro q w'; simp
          · intro hl tv w5 h5 hk5
            rw [if_pos (by rw [hl]; rfl)] at hsd
            simp
            exact ⟨d4, hsd, hk4.trans hk5.any, h5, hs4, rfl⟩
          · intro hl tv w5 h5 hk5
            rw [if_neg (by rw [hl]; simp)] at hsd
            simp only [W_skip, W_seq]
            refine W_swap (t := 10) (i := j + 1) (j := j) h5 (by omega) (by omega) ?_ ?_ ?_ ?_ ?_ ?_ ?_ ?_
            · intro w'; simp
            · intro w'; simp
            · intro w'; simp [f1, -Int.natCast_add]
            · intro x w'; simp
            · intro x w'; simp
            · intro x w'; simp [f1, -Int.natCast_add]
            · intro x w'; simp
            intro w6 h6 hk6
            simp [f1, -Int.natCast_add]
            exact ⟨⟨(hk4.trans hk5.any).trans hk6, j, _, h6, by rw [swp_len]; exact hs4, hsd, by omega, by rw [swp_len], rfl⟩, by simp [natAt]⟩
      · intro hy
        have hy := of_decide_eq_false hy
        rw [if_neg hy]
        simp
        exact ⟨d3, rfl, hk3', h3, hs3, by rw [hs3, hs1]⟩
    rintro _ w4 ⟨d4, hd4, hk4, h4, hs4, y6, y7, y8, y9, y10, rfl⟩
    unfold SameA at hd4
    rw [← hd4] at ho
    clear hd4 h3 hs3 hk3 hk3'
    have e10 := nat_sub b si (by omega) (by omega)
    have e11 := i64_succ (j := si) (by omega)
    refine W_cut (fun env w' => ∃ d5 : Array Int, SameA d5 (if b - si ≥ 2 then shiftUp ltInt b (si + 1) d4 else d4) ∧ Kept (fun i => i = g) w w' ∧ A64 w' g c d5 ∧ d5.size = d.size ∧ ∃ x6 x7 x8 x9 x10 x11 x12 x13, env = [.slice (some ⟨g, 0, none⟩) d5.size c, .int .i64 a, .int .i64 b, undef, .int .i64 (si : Nat), .int .i64 (st : Nat), x6, x7, x8, x9, x10, x11, x12, x13]) ?_ ?_
    · refine W_cond (t := decide (2 ≤ b - si)) (by simp [e10]; omega) ?_ ?_
      · intro hy
        have hy := of_decide_eq_true hy
        rw [if_pos hy]
        simp only [W_seq, W_set]
        refine ok_intro (.int .i64 ((si + 1 : Nat) : Int)) (by simp [e11, -Int.natCast_add]) ?_
        try simp only [W_seq]
        rw [W_block]
        refine W_loop (fun env w' => ∃ (j : Nat) (d' : Array Int), Kept (fun i => i = g) w w' ∧ A64 w' g c d' ∧ d'.size = d.size ∧ shiftUp ltInt b j d' = shiftUp ltInt b (si + 1) d4 ∧ si < j ∧ j ≤ b ∧ env = [.slice (some ⟨g, 0, none⟩) d'.size c, .int .i64 a, .int .i64 b, undef, .int .i64 (si : Nat), .int .i64 (st : Nat), undef, undef, undef, undef, undef, .int .i64 (j : Nat), undef, undef]) (fun env _ => b - natAt env 11) ?_ ?_
        · exact ⟨si + 1, d4, hk4, h4, hs4, rfl, by omega, by omega, by simp⟩
        rintro env w5 ⟨j, d5, hk5, h5, hs5, hsu, hj, hjb, rfl⟩
        simp only [W_seq]
        rw [shiftUp_eq] at hsu
        by_cases hgo : j < b
        · rw [if_pos hgo] at hsu
          have hgo' : (j : Int) < b := by omega
          have f1 := i64_pred (j := j) (by omega) (by omega)
          have f2 := i64_succ (j := j) (by omega)
          refine W_yes (by simp [hgo']) ?_
          simp only [W_skip, W_seq, W_block]
          refine W_less1 (t := 12) (i1 := j) (i2 := j - 1) (neg := true) less64_T h5 ?_ (by omega) (by omega) ?_ ?_ ?_ ?_ ?_
          · intro w'; simp
          · intro w'; simp
          · intro w'; simp [f1]
          · intro q w'; simp
          · intro hl tv w6 h6 hk6
            rw [if_pos (by rw [hl]; rfl)] at hsu
            simp
            exact ⟨d5, hsu, hk5.trans hk6.any, h6, hs5, rfl⟩
          · intro hl tv w6 h6 hk6
            rw [if_neg (by rw [hl]; simp)] at hsu
            simp only [W_skip, W_seq]
            refine W_swap (t := 13) (i := j) (j := j - 1) h6 (by omega) (by omega) ?_ ?_ ?_ ?_ ?_ ?_ ?_ ?_
            · intro w'; simp
            · intro w'; simp
            · intro w'; simp [f1]
            · intro x w'; simp
            · intro x w'; simp
            · intro x w'; simp [f1]
            · intro x w'; simp
            intro w7 h7 hk7
            simp [f2, -Int.natCast_add]
            exact ⟨⟨(hk5.trans hk6.any).trans hk7, j + 1, _, h7, by rw [swp_len]; exact hs5, hsu, by omega, by omega, by rw [swp_len], rfl⟩, by simp [natAt]; omega⟩
        · rw [if_neg hgo] at hsu
          have hgo' : ¬ (j : Int) < b := by omega
          refine W_no (by simp [hgo']) ?_
          simp
          exact ⟨d5, hsu, hk5, h5, hs5, rfl⟩
      · intro hy
        have hy := of_decide_eq_false hy
        rw [if_neg hy]
        simp
        exact ⟨d4, rfl, hk4, h4, hs4, rfl⟩
    rintro _ w5 ⟨d5, hd5, hk5, h5, hs5', y6, y7, y8, y9, y10, y11, y12, y13, rfl⟩
    unfold SameA at hd5
    rw [← hd5] at ho
    simp [e5, -Int.natCast_add]
    exact ⟨⟨hk5, s, si, d5, h5, hs5', ho, by omega, by omega, by omega, rfl, rfl, by rw [h5s]⟩, by simp [natAt]; omega⟩
end Go.Proofs.YtkgpmjjleemdlaaGreat

set_option linter.unusedSimpArgs false
set_option linter.unusedVariables false
set_option maxRecDepth 8000
namespace Go.Proofs.YtkgpmjjleemdlaaGreat
open Go.Eng Go.Sort
attribute [local irreducible] Go.Eng.W

theorem equal64_ret {g c a b p : Nat} {d : Array Int} (w : World) (h : A64 w g c d) (hap : a ≤ p) (hpb : p < b) (hb : b ≤ d.size) (hn : d.size ≤ 80000) :
    Ret Tryz.prog 79 [sl64 g c d, .int .i64 a, .int .i64 b, .int .i64 p] w fun v w' => v = .int .i64 (partitionEqual ltInt d a b p).1 ∧ (A64 w' g c (partitionEqual ltInt d a b p).2 ∧ (partitionEqual ltInt d a b p).2.size = d.size) ∧ Kept (fun i => i = g) w w' := by
  refine ret_of_W Tryz.func79 rfl ok_so64_partitionEqualOrdered ?_
  have e1 := i64_succ (j := a) (by omega)
  have e2 := i64_pred (j := b) (by omega) (by omega)
  unfold partitionEqual
  simp only [c_so64_partitionEqualOrdered, W_seq, W_set]
  refine ok_intro (.int .i64 0) (by simp) ?_
  try simp only [W_seq]
  refine W_swap (t := 5) (i := a) (j := p) h (by omega) (by omega) ?_ ?_ ?_ ?_ ?_ ?_ ?_ ?_
  · intro w'; simp
  · intro w'; simp
  · intro w'; simp
  · intro x w'; simp
  · intro x w'; simp
  · intro x w'; simp
  · intro x w'; simp
  intro w1 h1 hk1
  have hs1 : (swp d a p).size = d.size := swp_len _ _ _
  generalize swp d a p = d1 at *
  simp only [W_seq]
  refine W_chkIn [.int .i64 ((b - 1 : Nat) : Int)] (by simp [e2]) ?_
  simp only [W_seq, W_set]
  refine ok_intro (.int .i64 ((a + 1 : Nat) : Int)) (by simp [e1, -Int.natCast_add]) ?_
  try simp only [W_seq, W_set]
  refine ok_intro (.int .i64 ((b - 1 : Nat) : Int)) (by simp [e2]) ?_
  try simp only [W_seq, W_block]
  refine W_loop (fun env w' => ∃ (i j : Nat) (d' : Array Int), Kept (fun i => i = g) w w' ∧ A64 w' g c d' ∧ d'.size = d.size ∧ partEqLoop ltInt a i j d' = partEqLoop ltInt a (a + 1) (b - 1) d1 ∧ a < i ∧ i ≤ j + 1 ∧ j < b ∧ env = [.slice (some ⟨g, 0, none⟩) d'.size c, .int .i64 a, undef, undef, undef, undef, .int .i64 (i : Nat), .int .i64 (j : Nat), undef, undef, undef]) (fun env _ => natAt env 7 + 1 - natAt env 6) ?_ ?_
  · exact ⟨a + 1, b - 1, d1, hk1, h1, hs1, rfl, by omega, by omega, by omega, by simp [hs1]⟩
  rintro env w2 ⟨i, j, d2, hk2, h2, hs2, ho, hai, hij, hjb, rfl⟩
  rw [partEqLoop_eq] at ho
  obtain ⟨r1, r2, r3, r4, r5⟩ := round_lt (fun x => !ltInt d2[a]! x) (fun x => ltInt d2[a]! x) (fun x => by simp) d2 i j (by omega) hij
  rw [W_block]
  simp only [W_seq]
  refine W_cut (fun env w' => Kept (fun i => i = g) w w' ∧ A64 w' g c d2 ∧ ∃ xt, env = [.slice (some ⟨g, 0, none⟩) d2.size c, .int .i64 a, undef, undef, undef, undef, .int .i64 (scanUp (fun x => !ltInt d2[a]! x) d2 j i : Nat), .int .i64 (j : Nat), xt, undef, undef]) ?_ ?_
  · rw [W_block]
    refine W_loop (fun env w' => ∃ i9 : Nat, Kept (fun i => i = g) w w' ∧ A64 w' g c d2 ∧ scanUp (fun x => !ltInt d2[a]! x) d2 j i9 = scanUp (fun x => !ltInt d2[a]! x) d2 j i ∧ a < i9 ∧ i9 ≤ j + 1 ∧ env = [.slice (some ⟨g, 0, none⟩) d2.size c, .int .i64 a, undef, undef, undef, undef, .int .i64 (i9 : Nat), .int .i64 (j : Nat), undef, undef, undef]) (fun env _ => j + 1 - natAt env 6) ?_ ?_
    · exact ⟨i, hk2, h2, rfl, by omega, by omega, by simp [hs2]⟩
    rintro env w91 ⟨i9, hk91, h91, hsc, hr1, hr2, rfl⟩
    simp only [W_seq]
    rw [scanUp_eq] at hsc
    have e91 := i64_succ (j := i9) (by omega)
    refine W_less (t := 8) (i1 := a) (i2 := i9) (cb := decide (i9 ≤ j)) (neg := true) less64_T h91 ?_ ?_ ?_ ?_ ?_ ?_ ?_ ?_ ?_
    · intro w'; simp
    · intro w'; simp [le_nat]
    · intro hc; have := of_decide_eq_true hc; omega
    · intro _ w'; simp
    · intro _ w'; simp
    · intro hc q w'; simp [le_nat, hc]
    · intro hc w'; simp [le_nat, hc]
    · intro hc hl tv w92 h92 hk92
      have hc := of_decide_eq_true hc
      rw [if_pos (by simp only [hl]; simpa using hc)] at hsc
      simp [e91, -Int.natCast_add]
      exact ⟨⟨hk91.trans hk92.any, h92, i9 + 1, hsc, by omega, by omega, rfl⟩, by simp [natAt]; omega⟩
    · intro hcb tv w92 h92 hk92
      rw [if_neg (fun hh => by
        rw [Bool.and_eq_true] at hh
        have h5 := hh.2
        simp only [hcb hh.1] at h5
        simp at h5)] at hsc
      rw [← hsc]
      simp
      exact ⟨hk91.trans hk92.any, h92⟩
  rintro _ w3 ⟨hk3, h3, x8, rfl⟩
  generalize scanUp (fun x => !ltInt d2[a]! x) d2 j i = i2 at *
  simp only [W_seq]
  refine W_cut (fun env w' => Kept (fun i => i = g) w w' ∧ A64 w' g c d2 ∧ ∃ xt, env = [.slice (some ⟨g, 0, none⟩) d2.size c, .int .i64 a, undef, undef, undef, undef, .int .i64 (i2 : Nat), .int .i64 (scanDown (fun x => ltInt d2[a]! x) d2 i2 j : Nat), undef, xt, undef]) ?_ ?_
  · rw [W_block]
    refine W_loop (fun env w' => ∃ j9 : Nat, Kept (fun i => i = g) w w' ∧ A64 w' g c d2 ∧ scanDown (fun x => ltInt d2[a]! x) d2 i2 j9 = scanDown (fun x => ltInt d2[a]! x) d2 i2 j ∧ j9 ≤ j ∧ i2 ≤ j9 + 1 ∧ env = [.slice (some ⟨g, 0, none⟩) d2.size c, .int .i64 a, undef, undef, undef, undef, .int .i64 (i2 : Nat), .int .i64 (j9 : Nat), undef, undef, undef]) (fun env _ => natAt env 7) ?_ ?_
    · exact ⟨j, hk3, h3, rfl, by omega, by omega, by simp [hs2]⟩
    rintro env w91 ⟨j9, hk91, h91, hsc, hr1, hr2, rfl⟩
    simp only [W_seq]
    refine W_less (t := 9) (i1 := a) (i2 := j9) (cb := decide (i2 ≤ j9)) (neg := false) less64_T h91 ?_ ?_ ?_ ?_ ?_ ?_ ?_ ?_ ?_
    · intro w'; simp
    · intro w'; simp [le_nat]
    · intro hc; have := of_decide_eq_true hc; omega
    · intro _ w'; simp
    · intro _ w'; simp
    · intro hc q w'; simp [le_nat, hc]
    · intro hc w'; simp [le_nat, hc]
    · intro hc hl tv w92 h92 hk92
      have hc := of_decide_eq_true hc
      obtain ⟨j8, rfl⟩ : ∃ j8, j9 = j8 + 1 := ⟨j9 - 1, by omega⟩
      have e91 := i64_pred (j := j8 + 1) (by omega) (by omega)
      rw [scanDown_succ, if_pos (by simp only [hl]; simpa using hc)] at hsc
      simp [e91, -Int.natCast_add]
      exact ⟨⟨hk91.trans hk92.any, h92, j8, hsc, by omega, by omega, rfl⟩, by simp [natAt]⟩
    · intro hcb tv w92 h92 hk92
      have hsc : j9 = scanDown (fun x => ltInt d2[a]! x) d2 i2 j := by
        cases j9 with
        | zero => exact hsc
        | succ j8 =>
          rw [scanDown_succ, if_neg (fun hh => by
            rw [Bool.and_eq_true] at hh
            have h5 := hh.2
            simp only [hcb hh.1] at h5
            simp at h5)] at hsc
          exact hsc
      rw [← hsc]
      simp
      exact ⟨hk91.trans hk92.any, h92⟩
  rintro _ w4 ⟨hk4, h4, x9, rfl⟩
  generalize scanDown (fun x => ltInt d2[a]! x) d2 i2 j = j2 at *
  simp only [W_seq]
  by_cases hgt : i2 > j2
  · rw [if_pos hgt] at ho
    rw [← ho]
    refine W_yes (by simp; omega) ?_
    simp
    exact ⟨⟨h4, hs2⟩, hk4⟩
  · rw [if_neg hgt] at ho
    have hlt := r5 hgt
    have f1 := i64_succ (j := i2) (by omega)
    have f2 := i64_pred (j := j2) (by omega) (by omega)
    refine W_no (by simp; omega) ?_
    simp only [W_skip, W_seq]
    refine W_swap (t := 10) (i := i2) (j := j2) h4 (by omega) (by omega) ?_ ?_ ?_ ?_ ?_ ?_ ?_ ?_
    · intro w'; simp
    · intro w'; simp
    · intro w'; simp
    · intro x w'; simp
    · intro x w'; simp
    · intro x w'; simp
    · intro x w'; simp
    intro w5 h5 hk5
    simp [f1, f2, -Int.natCast_add]
    exact ⟨⟨hk4.trans hk5, i2 + 1, j2 - 1, _, h5, by rw [swp_len]; exact hs2, ho, by omega, by omega, by omega, by rw [swp_len], rfl, rfl⟩, by simp [natAt]; omega⟩
theorem part64_ret {g c a b p : Nat} {d : Array Int} (w : World) (h : A64 w g c d) (hap : a ≤ p) (hpb : p < b) (hb : b ≤ d.size) (hn : d.size ≤ 80000) :
    Ret Tryz.prog 80 [sl64 g c d, .int .i64 a, .int .i64 b, .int .i64 p] w fun v w' => v = .tuple #[.int .i64 (partition ltInt d a b p).1, .bool (partition ltInt d a b p).2.1] ∧ (A64 w' g c (partition ltInt d a b p).2.2 ∧ (partition ltInt d a b p).2.2.size = d.size) ∧ Kept (fun i => i = g) w w' := by
  refine ret_of_W Tryz.func80 rfl ok_so64_partitionOrdered ?_
  have e1 := i64_succ (j := a) (by omega)
  have e2 := i64_pred (j := b) (by omega) (by omega)
  have hpd : partition ltInt d a b p = (let d1 := swp d a p; let i := scanUp (fun x => ltInt x d1[a]!) d1 (b - 1) (a + 1); let j := scanDown (fun x => !ltInt x d1[a]!) d1 i (b - 1); if i > j then (j, true, swp d1 j a) else ((partLoop ltInt a (i + 1) (j - 1) (swp d1 i j)).1, false, swp (partLoop ltInt a (i + 1) (j - 1) (swp d1 i j)).2 (partLoop ltInt a (i + 1) (j - 1) (swp d1 i j)).1 a)) := rfl
  rw [hpd]
  clear hpd
  simp only [c_so64_partitionOrdered, W_seq, W_set]
  refine ok_intro (.int .i64 0) (by simp) ?_
  try simp only [W_seq, W_set]
  refine ok_intro (.bool false) (by simp) ?_
  try simp only [W_seq]
  refine W_swap (t := 6) (i := a) (j := p) h (by omega) (by omega) ?_ ?_ ?_ ?_ ?_ ?_ ?_ ?_
  · intro w'; simp
  · intro w'; simp
  · intro w'; simp
  · intro x w'; simp
  · intro x w'; simp
  · intro x w'; simp
  · intro x w'; simp
  intro w1 h1 hk1
  have hs1 : (swp d a p).size = d.size := swp_len _ _ _
  generalize swp d a p = d1 at *
  try simp only
  try simp only [W_seq]
  refine W_chkIn [.int .i64 ((b - 1 : Nat) : Int)] (by simp [e2]) ?_
  simp only [W_seq, W_set]
  refine ok_intro (.int .i64 ((a + 1 : Nat) : Int)) (by simp [e1, -Int.natCast_add]) ?_
  try simp only [W_seq, W_set]
  refine ok_intro (.int .i64 ((b - 1 : Nat) : Int)) (by simp [e2]) ?_
  try simp only [W_seq]
  obtain ⟨r1, r2, r3, r4, r5⟩ := round_lt (fun x => ltInt x d1[a]!) (fun x => !ltInt x d1[a]!) (fun x => rfl) d1 (a + 1) (b - 1) (by omega) (by omega)
  generalize hb1 : b - 1 = b1 at *
  generalize ha1 : a + 1 = a1 at *
  refine W_cut (fun env w' => Kept (fun i => i = g) w w' ∧ A64 w' g c d1 ∧ ∃ xt, env = [.slice (some ⟨g, 0, none⟩) d1.size c, .int .i64 a, undef, undef, undef, undef, undef, .int .i64 (scanUp (fun x => ltInt x d1[a]!) d1 b1 a1 : Nat), .int .i64 (b1 : Nat), xt, undef, undef, undef, undef, undef, undef, undef]) ?_ ?_
  · rw [W_block]
    refine W_loop (fun env w' => ∃ i9 : Nat, Kept (fun i => i = g) w w' ∧ A64 w' g c d1 ∧ scanUp (fun x => ltInt x d1[a]!) d1 b1 i9 = scanUp (fun x => ltInt x d1[a]!) d1 b1 a1 ∧ a < i9 ∧ i9 ≤ b1 + 1 ∧ env = [.slice (some ⟨g, 0, none⟩) d1.size c, .int .i64 a, undef, undef, undef, undef, undef, .int .i64 (i9 : Nat), .int .i64 (b1 : Nat), undef, undef, undef, undef, undef, undef, undef, undef]) (fun env _ => b1 + 1 - natAt env 7) ?_ ?_
    · exact ⟨a1, hk1, h1, rfl, by omega, by omega, by simp [hs1]⟩
    rintro env w91 ⟨i9, hk91, h91, hsc, hr1, hr2, rfl⟩
    simp only [W_seq]
    rw [scanUp_eq] at hsc
    have e91 := i64_succ (j := i9) (by omega)
    refine W_less (t := 9) (i1 := i9) (i2 := a) (cb := decide (i9 ≤ b1)) (neg := false) less64_T h91 ?_ ?_ ?_ ?_ ?_ ?_ ?_ ?_ ?_
    · intro w'; simp
    · intro w'; simp [le_nat]
    · intro hc; have := of_decide_eq_true hc; omega
    · intro _ w'; simp
    · intro _ w'; simp
    · intro hc q w'; simp [le_nat, hc]
    · intro hc w'; simp [le_nat, hc]
    · intro hc hl tv w92 h92 hk92
      have hc := of_decide_eq_true hc
      rw [if_pos (by simp only [hl]; simpa using hc)] at hsc
      simp [e91, -Int.natCast_add]
      exact ⟨⟨hk91.trans hk92.any, h92, i9 + 1, hsc, by omega, by omega, rfl⟩, by simp [natAt]; omega⟩
    · intro hcb tv w92 h92 hk92
      rw [if_neg (fun hh => by
        rw [Bool.and_eq_true] at hh
        have h5 := hh.2
        simp only [hcb hh.1] at h5
        simp at h5)] at hsc
      rw [← hsc]
      simp
      exact ⟨hk91.trans hk92.any, h92⟩
  rintro _ w3 ⟨hk3, h3, x9, rfl⟩
  generalize scanUp (fun x => ltInt x d1[a]!) d1 b1 a1 = i2 at *
  try simp only [W_seq]
  refine W_cut (fun env w' => Kept (fun i => i = g) w w' ∧ A64 w' g c d1 ∧ ∃ xt, env = [.slice (some ⟨g, 0, none⟩) d1.size c, .int .i64 a, undef, undef, undef, undef, undef, .int .i64 (i2 : Nat), .int .i64 (scanDown (fun x => !ltInt x d1[a]!) d1 i2 b1 : Nat), undef, xt, undef, undef, undef, undef, undef, undef]) ?_ ?_
  · rw [W_block]
    refine W_loop (fun env w' => ∃ j9 : Nat, Kept (fun i => i = g) w w' ∧ A64 w' g c d1 ∧ scanDown (fun x => !ltInt x d1[a]!) d1 i2 j9 = scanDown (fun x => !ltInt x d1[a]!) d1 i2 b1 ∧ j9 ≤ b1 ∧ i2 ≤ j9 + 1 ∧ env = [.slice (some ⟨g, 0, none⟩) d1.size c, .int .i64 a, undef, undef, undef, undef, undef, .int .i64 (i2 : Nat), .int .i64 (j9 : Nat), undef, undef, undef, undef, undef, undef, undef, undef]) (fun env _ => natAt env 8) ?_ ?_
    · exact ⟨b1, hk3, h3, rfl, by omega, by omega, by simp [hs1]⟩
    rintro env w91 ⟨j9, hk91, h91, hsc, hr1, hr2, rfl⟩
    simp only [W_seq]
    refine W_less (t := 10) (i1 := j9) (i2 := a) (cb := decide (i2 ≤ j9)) (neg := true) less64_T h91 ?_ ?_ ?_ ?_ ?_ ?_ ?_ ?_ ?_
    · intro w'; simp
    · intro w'; simp [le_nat]
    · intro hc; have := of_decide_eq_true hc; omega
    · intro _ w'; simp
    · intro _ w'; simp
    · intro hc q w'; simp [le_nat, hc]
    · intro hc w'; simp [le_nat, hc]
    · intro hc hl tv w92 h92 hk92
      have hc := of_decide_eq_true hc
      obtain ⟨j8, rfl⟩ : ∃ j8, j9 = j8 + 1 := ⟨j9 - 1, by omega⟩
      have e91 := i64_pred (j := j8 + 1) (by omega) (by omega)
      rw [scanDown_succ, if_pos (by simp only [hl]; simpa using hc)] at hsc
      simp [e91, -Int.natCast_add]
      exact ⟨⟨hk91.trans hk92.any, h92, j8, hsc, by omega, by omega, rfl⟩, by simp [natAt]⟩
    · intro hcb tv w92 h92 hk92
      have hsc : j9 = scanDown (fun x => !ltInt x d1[a]!) d1 i2 b1 := by
        cases j9 with
        | zero => exact hsc
        | succ j8 =>
          rw [scanDown_succ, if_neg (fun hh => by
            rw [Bool.and_eq_true] at hh
            have h5 := hh.2
            simp only [hcb hh.1] at h5
            simp at h5)] at hsc
          exact hsc
      rw [← hsc]
      simp
      exact ⟨hk91.trans hk92.any, h92⟩
  rintro _ w4 ⟨hk4, h4, x10, rfl⟩
  generalize scanDown (fun x => !ltInt x d1[a]!) d1 i2 b1 = j2 at *
  try simp only [W_seq]
  by_cases hgt : i2 > j2
  · rw [if_pos hgt]
    refine W_yes (by simp; omega) ?_
    try simp only [W_seq]
    refine W_swap (t := 11) (i := j2) (j := a) h4 (by omega) (by omega) ?_ ?_ ?_ ?_ ?_ ?_ ?_ ?_
    · intro w'; simp
    · intro w'; simp
    · intro w'; simp
    · intro x w'; simp
    · intro x w'; simp
    · intro x w'; simp
    · intro x w'; simp
    intro w5 h5 hk5
    simp
    exact ⟨⟨h5, by rw [swp_len]; exact hs1⟩, hk4.trans hk5⟩
  rw [if_neg hgt]
  have hlt := r5 hgt
  have f1 := i64_succ (j := i2) (by omega)
  have f2 := i64_pred (j := j2) (by omega) (by omega)
  refine W_no (by simp; omega) ?_
  simp only [W_skip, W_seq]
  refine W_swap (t := 12) (i := i2) (j := j2) h4 (by omega) (by omega) ?_ ?_ ?_ ?_ ?_ ?_ ?_ ?_
  · intro w'; simp
  · intro w'; simp
  · intro w'; simp
  · intro x w'; simp
  · intro x w'; simp
  · intro x w'; simp
  · intro x w'; simp
  intro w5 h5 hk5
  have hs5 : (swp d1 i2 j2).size = d1.size := swp_len _ _ _
  generalize swp d1 i2 j2 = d5 at *
  try simp only [W_seq, W_set]
  refine ok_intro (.int .i64 ((i2 + 1 : Nat) : Int)) (by simp [f1, -Int.natCast_add]) ?_
  try simp only [W_seq, W_set]
  refine ok_intro (.int .i64 ((j2 - 1 : Nat) : Int)) (by simp [f2]) ?_
  try simp only [W_seq]
  refine W_cut (fun env w' => Kept (fun i => i = g) w w' ∧ A64 w' g c (partLoop ltInt a (i2 + 1) (j2 - 1) d5).2 ∧ (partLoop ltInt a (i2 + 1) (j2 - 1) d5).2.size = d1.size ∧ (partLoop ltInt a (i2 + 1) (j2 - 1) d5).1 < b ∧ ∃ x13 x14, env = [.slice (some ⟨g, 0, none⟩) d1.size c, .int .i64 a, undef, undef, undef, undef, undef, .int .i64 x13, .int .i64 (partLoop ltInt a (i2 + 1) (j2 - 1) d5).1, undef, undef, undef, undef, undef, x14, undef, undef]) ?_ ?_
  · rw [W_block]
    refine W_loop (fun env w' => ∃ (i j : Nat) (d' : Array Int), Kept (fun i => i = g) w w' ∧ A64 w' g c d' ∧ d'.size = d1.size ∧ partLoop ltInt a i j d' = partLoop ltInt a (i2 + 1) (j2 - 1) d5 ∧ a < i ∧ i ≤ j + 1 ∧ j < b ∧ env = [.slice (some ⟨g, 0, none⟩) d'.size c, .int .i64 a, undef, undef, undef, undef, undef, .int .i64 (i : Nat), .int .i64 (j : Nat), undef, undef, undef, undef, undef, undef, undef, undef]) (fun env _ => natAt env 8 + 1 - natAt env 7) ?_ ?_
    · exact ⟨i2 + 1, j2 - 1, d5, hk4.trans hk5, h5, hs5, rfl, by omega, by omega, by omega, by simp [hs5]⟩
    clear r1 r2 r3 r4 r5 hgt hlt f1 f2
    rintro env w6 ⟨i, j, d6, hk6, h6, hs6, ho, hai, hij, hjb, rfl⟩
    rw [partLoop_eq] at ho
    obtain ⟨r1, r2, r3, r4, r5⟩ := round_lt (fun x => ltInt x d6[a]!) (fun x => !ltInt x d6[a]!) (fun x => rfl) d6 i j (by omega) hij
    rw [W_block]
    simp only [W_seq]
    refine W_cut (fun env w' => Kept (fun i => i = g) w w' ∧ A64 w' g c d6 ∧ ∃ xt, env = [.slice (some ⟨g, 0, none⟩) d6.size c, .int .i64 a, undef, undef, undef, undef, undef, .int .i64 (scanUp (fun x => ltInt x d6[a]!) d6 j i : Nat), .int .i64 (j : Nat), undef, undef, undef, undef, xt, undef, undef, undef]) ?_ ?_
    · rw [W_block]
      refine W_loop (fun env w' => ∃ i9 : Nat, Kept (fun i => i = g) w w' ∧ A64 w' g c d6 ∧ scanUp (fun x => ltInt x d6[a]!) d6 j i9 = scanUp (fun x => ltInt x d6[a]!) d6 j i ∧ a < i9 ∧ i9 ≤ j + 1 ∧ env = [.slice (some ⟨g, 0, none⟩) d6.size c, .int .i64 a, undef, undef, undef, undef, undef, .int .i64 (i9 : Nat), .int .i64 (j : Nat), undef, undef, undef, undef, undef, undef, undef, undef]) (fun env _ => j + 1 - natAt env 7) ?_ ?_
      · exact ⟨i, hk6, h6, rfl, by omega, by omega, by simp [hs6]⟩
      rintro env w91 ⟨i9, hk91, h91, hsc, hr1, hr2, rfl⟩
      simp only [W_seq]
      rw [scanUp_eq] at hsc
      have e91 := i64_succ (j := i9) (by omega)
      refine W_less (t := 13) (i1 := i9) (i2 := a) (cb := decide (i9 ≤ j)) (neg := false) less64_T h91 ?_ ?_ ?_ ?_ ?_ ?_ ?_ ?_ ?_
      · intro w'; simp
      · intro w'; simp [le_nat]
      · intro hc; have := of_decide_eq_true hc; omega
      · intro _ w'; simp
      · intro _ w'; simp
      · intro hc q w'; simp [le_nat, hc]
      · intro hc w'; simp [le_nat, hc]
      · intro hc hl tv w92 h92 hk92
        have hc := of_decide_eq_true hc
        rw [if_pos (by simp only [hl]; simpa using hc)] at hsc
        simp [e91, -Int.natCast_add]
        exact ⟨⟨hk91.trans hk92.any, h92, i9 + 1, hsc, by omega, by omega, rfl⟩, by simp [natAt]; omega⟩
      · intro hcb tv w92 h92 hk92
        rw [if_neg (fun hh => by
          rw [Bool.and_eq_true] at hh
          have h5 := hh.2
          simp only [hcb hh.1] at h5
          simp at h5)] at hsc
        rw [← hsc]
        simp
        exact ⟨hk91.trans hk92.any, h92⟩
    rintro _ w7 ⟨hk7, h7, x9, rfl⟩
    generalize scanUp (fun x => ltInt x d6[a]!) d6 j i = i7 at *
    try simp only [W_seq]
    refine W_cut (fun env w' => Kept (fun i => i = g) w w' ∧ A64 w' g c d6 ∧ ∃ xt, env = [.slice (some ⟨g, 0, none⟩) d6.size c, .int .i64 a, undef, undef, undef, undef, undef, .int .i64 (i7 : Nat), .int .i64 (scanDown (fun x => !ltInt x d6[a]!) d6 i7 j : Nat), undef, undef, undef, undef, undef, xt, undef, undef]) ?_ ?_
    · rw [W_block]
      refine W_loop (fun env w' => ∃ j9 : Nat, Kept (fun i => i = g) w w' ∧ A64 w' g c d6 ∧ scanDown (fun x => !ltInt x d6[a]!) d6 i7 j9 = scanDown (fun x => !ltInt x d6[a]!) d6 i7 j ∧ j9 ≤ j ∧ i7 ≤ j9 + 1 ∧ env = [.slice (some ⟨g, 0, none⟩) d6.size c, .int .i64 a, undef, undef, undef, undef, undef, .int .i64 (i7 : Nat), .int .i64 (j9 : Nat), undef, undef, undef, undef, undef, undef, undef, undef]) (fun env _ => natAt env 8) ?_ ?_
      · exact ⟨j, hk7, h7, rfl, by omega, by omega, by simp [hs6]⟩
      rintro env w91 ⟨j9, hk91, h91, hsc, hr1, hr2, rfl⟩
      simp only [W_seq]
      refine W_less (t := 14) (i1 := j9) (i2 := a) (cb := decide (i7 ≤ j9)) (neg := true) less64_T h91 ?_ ?_ ?_ ?_ ?_ ?_ ?_ ?_ ?_
      · intro w'; simp
      · intro w'; simp [le_nat]
      · intro hc; have := of_decide_eq_true hc; omega
      · intro _ w'; simp
      · intro _ w'; simp
      · intro hc q w'; simp [le_nat, hc]
      · intro hc w'; simp [le_nat, hc]
      · intro hc hl tv w92 h92 hk92
        have hc := of_decide_eq_true hc
        obtain ⟨j8, rfl⟩ : ∃ j8, j9 = j8 + 1 := ⟨j9 - 1, by omega⟩
        have e91 := i64_pred (j := j8 + 1) (by omega) (by omega)
        rw [scanDown_succ, if_pos (by simp only [hl]; simpa using hc)] at hsc
        simp [e91, -Int.natCast_add]
        exact ⟨⟨hk91.trans hk92.any, h92, j8, hsc, by omega, by omega, rfl⟩, by simp [natAt]⟩
      · intro hcb tv w92 h92 hk92
        have hsc : j9 = scanDown (fun x => !ltInt x d6[a]!) d6 i7 j := by
          cases j9 with
          | zero => exact hsc
          | succ j8 =>
            rw [scanDown_succ, if_neg (fun hh => by
              rw [Bool.and_eq_true] at hh
              have h5 := hh.2
              simp only [hcb hh.1] at h5
              simp at h5)] at hsc
            exact hsc
        rw [← hsc]
        simp
        exact ⟨hk91.trans hk92.any, h92⟩
    rintro _ w8 ⟨hk8, h8, x10, rfl⟩
    generalize scanDown (fun x => !ltInt x d6[a]!) d6 i7 j = j7 at *
    try simp only [W_seq]
    by_cases hgt : i7 > j7
    · rw [if_pos hgt] at ho
      rw [← ho]
      refine W_yes (by simp; omega) ?_
      simp
      exact ⟨hk8, h8, hs6, by omega, hs6⟩
    · rw [if_neg hgt] at ho
      have hlt := r5 hgt
      have f1 := i64_succ (j := i7) (by omega)
      have f2 := i64_pred (j := j7) (by omega) (by omega)
      refine W_no (by simp; omega) ?_
      simp only [W_skip, W_seq]
      refine W_swap (t := 15) (i := i7) (j := j7) h8 (by omega) (by omega) ?_ ?_ ?_ ?_ ?_ ?_ ?_ ?_
      · intro w'; simp
      · intro w'; simp
      · intro w'; simp
      · intro x w'; simp
      · intro x w'; simp
      · intro x w'; simp
      · intro x w'; simp
      intro w9 h9 hk9
      simp [f1, f2, -Int.natCast_add]
      exact ⟨⟨hk8.trans hk9, i7 + 1, j7 - 1, _, h9, by rw [swp_len]; exact hs6, ho, by omega, by omega, by omega, by rw [swp_len], rfl, rfl⟩, by simp [natAt]; omega⟩
  rintro _ w6 ⟨hk6, h6, hs6, hlb, x13, x14, rfl⟩
  generalize partLoop ltInt a (i2 + 1) (j2 - 1) d5 = r at *
  obtain ⟨m, d6⟩ := r
  simp only at h6 hs6 hlb
  rw [← hs6]
  try simp only [W_seq]
  refine W_swap (t := 16) (i := m) (j := a) h6 (by omega) (by omega) ?_ ?_ ?_ ?_ ?_ ?_ ?_ ?_
  · intro w'; simp
  · intro w'; simp
  · intro w'; simp
  · intro x w'; simp
  · intro x w'; simp
  · intro x w'; simp
  · intro x w'; simp
  intro w7 h7 hk7
  simp
  exact ⟨⟨h7, by rw [swp_len, hs6]; exact hs1⟩, hk6.trans hk7⟩
end Go.Proofs.YtkgpmjjleemdlaaGreat

set_option linter.unusedSimpArgs false
set_option linter.unusedVariables false
set_option maxRecDepth 8000
namespace Go.Proofs.YtkgpmjjleemdlaaGreat
open Go.Eng Go.Sort
attribute [local irreducible] Go.Eng.W

structure PdqI64 (g c a b lim : Nat) (d : Array Int) (w : World) (env : Env) (w' : World) : Prop where
  ex : ∃ (a1 b1 l1 : Nat) (wb wp : Bool) (d' : Array Int), Kept (fun i => i = g) w w' ∧ A64 w' g c d' ∧ d'.size = d.size ∧ pdq ltInt d' a1 b1 l1 wb wp = pdq ltInt d a b lim true true ∧ a1 ≤ b1 ∧ b1 ≤ d.size ∧ b1 - a1 ≤ b - a ∧ l1 ≤ 1000 ∧
    env = [.slice (some ⟨g, 0, none⟩) d'.size c, .int .i64 (a1 : Nat), .int .i64 (b1 : Nat), .int .i64 (l1 : Nat), .bool wb, .bool wp, undef, undef, undef, undef, undef, undef, undef, undef, undef, undef, undef, undef, undef, undef]
theorem pdq64_ret : ∀ (n : Nat) {g c a b lim : Nat} {d : Array Int} (w : World), b - a ≤ n → A64 w g c d → a ≤ b → b ≤ d.size → d.size ≤ 80000 → lim ≤ 1000 →
    Ret Tryz.prog 42 [sl64 g c d, .int .i64 a, .int .i64 b, .int .i64 lim] w fun v w' => v = .tuple #[] ∧ (A64 w' g c (pdq ltInt d a b lim true true) ∧ (pdq ltInt d a b lim true true).size = d.size) ∧ Kept (fun i => i = g) w w' := by
  intro n
  induction n using Nat.strongRecOn with
  | ind n ih =>
  intro g c a b lim d w hnn h hab hb hn hlim
  refine ret_of_W Tryz.func42 rfl ok_so64_pdqsortOrdered ?_
  simp only [c_so64_pdqsortOrdered, W_seq, W_set]
  refine ok_intro (.bool true) (by simp) ?_
  try simp only [W_seq, W_set]
  refine ok_intro (.bool true) (by simp) ?_
  try simp only [W_seq]
  rw [W_block]
  refine W_loop (fun env w' => PdqI64 g c a b lim d w env w') (fun env _ => natAt env 2 - natAt env 1) ?_ ?_
  · exact ⟨⟨a, b, lim, true, true, d, Kept.refl _ _, h, rfl, rfl, hab, hb, Nat.le_refl _, hlim, by simp⟩⟩
  rintro env w1 ⟨⟨a1, b1, l1, wb, wp, d1, hk1, h1, hs1, ho, hab1, hb1, hba, hl1, rfl⟩⟩
  have e1 := nat_sub b1 a1 (by omega) (by omega)
  rw [W_block]
  simp only [W_seq, W_set]
  refine ok_intro (.int .i64 ((b1 - a1 : Nat) : Int)) (by simp [e1]) ?_
  try simp only [W_seq]
  by_cases h12 : b1 - a1 ≤ 12
  · rw [pdq_small h12] at ho
    refine W_yes (by simp; omega) ?_
    simp only [W_seq]
    refine W_call (by simp) (insert64_ret w1 h1 (a := a1) (b := b1) hab1 (by omega) (by omega)) ?_
    rintro v w2 ⟨rfl, ⟨h2, hs2⟩, hk2⟩
    refine ⟨stab_nil _ _ _, ?_⟩
    rw [← ho]
    simp
    exact ⟨⟨h2, by rw [hs2, hs1]⟩, hk1.trans hk2⟩
  refine W_no (by simp; omega) ?_
  simp only [W_skip, W_seq]
  by_cases hl : l1 = 0
  · rw [pdq_heap h12 hl] at ho
    refine W_yes (by simp [hl]) ?_
    simp only [W_seq]
    refine W_call (by simp) (heap64_ret w1 h1 (a := a1) (b := b1) (by omega) (by omega) (by omega)) ?_
    rintro v w2 ⟨rfl, ⟨h2, hs2⟩, hk2⟩
    refine ⟨stab_nil _ _ _, ?_⟩
    rw [← ho]
    simp
    exact ⟨⟨h2, by rw [hs2, hs1]⟩, hk1.trans hk2⟩
  refine W_no (by simp; omega) ?_
  simp only [W_skip, W_seq]
  rw [pdq_step h12 hl] at ho
  -- the patterns
  refine W_cut (fun env w' => ∃ (d2 : Array Int) (l2 : Nat), pdqA d2 a1 b1 l2 wb wp = pdq ltInt d a b lim true true ∧ Kept (fun i => i = g) w w' ∧ A64 w' g c d2 ∧ d2.size = d.size ∧ l2 ≤ 1000 ∧
    env = [.slice (some ⟨g, 0, none⟩) d2.size c, .int .i64 (a1 : Nat), .int .i64 (b1 : Nat), .int .i64 (l2 : Nat), .bool wb, .bool wp, .int .i64 (b1 - a1 : Nat), undef, undef, undef, undef, undef, undef, undef, undef, undef, undef, undef, undef, undef]) ?_ ?_
  · refine W_cond (t := !wb) (by simp) ?_ ?_
    · intro hw
      rw [if_pos hw, if_pos hw] at ho
      have f1 := i64_pred (j := l1) (by omega) (by omega)
      simp only [W_seq]
      refine W_call (by simp) (break64_ret w1 h1 (a := a1) (b := b1) hab1 (by omega) (by omega)) ?_
      rintro v w2 ⟨rfl, ⟨h2, hs2⟩, hk2⟩
      refine ⟨stab_nil _ _ _, ?_⟩
      simp [f1]
      exact ⟨_, l1 - 1, ho, hk1.trans hk2, h2, by rw [hs2, hs1], by omega, by rw [hs2], rfl⟩
    · intro hw
      rw [if_neg (by rw [hw]; simp), if_neg (by rw [hw]; simp)] at ho
      simp
      exact ⟨d1, l1, ho, hk1, h1, hs1, hl1, rfl, rfl⟩
  clear ho
  rintro _ w2 ⟨d2, l2, ho, hk2, h2, hs2, hl2, rfl⟩
  unfold pdqA at ho
  -- the pivot
  try simp only [W_seq]
  refine W_call (by simp) (pivot64_ret w2 h2 (a := a1) (b := b1) (by omega) (by omega) (by omega)) ?_
  rintro v w3 ⟨rfl, h3, hk3⟩
  refine ⟨stab_nil _ _ _, ?_⟩
  obtain ⟨pv1, pv2⟩ := choosePivot_holds ltInt d2 a1 b1 (by omega)
  generalize choosePivot ltInt d2 a1 b1 = cp at *
  obtain ⟨pv, hint⟩ := cp
  simp only at ho pv1 pv2
  have hk03 := hk2.trans hk3.any
  simp only [W_seq]
  refine W_chkIn [.int .i64 (hintN hint)] (by simp) ?_
  simp only [W_seq, W_set]
  refine ok_intro (.int .i64 (pv : Nat)) (by simp) ?_
  try simp only [W_seq, W_set]
  refine ok_intro (.int .i64 (hintN hint)) (by simp) ?_
  try simp only [W_seq]
  have hdec : decide (hintN hint = 2) = decide (hint = .decreasing) := by cases hint <;> rfl
  refine W_cut (fun env w' => ∃ (d4 : Array Int) (pv4 : Nat) (hint4 : Hint) (x7 : Value), pdqB d4 a1 b1 l2 pv4 hint4 wb wp = pdq ltInt d a b lim true true ∧ a1 ≤ pv4 ∧ pv4 < b1 ∧ Kept (fun i => i = g) w w' ∧ A64 w' g c d4 ∧ d4.size = d.size ∧
    env = [.slice (some ⟨g, 0, none⟩) d4.size c, .int .i64 (a1 : Nat), .int .i64 (b1 : Nat), .int .i64 (l2 : Nat), .bool wb, .bool wp, .int .i64 (b1 - a1 : Nat), x7, .int .i64 (pv4 : Nat), .int .i64 (hintN hint4), undef, undef, undef, undef, undef, undef, undef, undef, undef, undef]) ?_ ?_
  · refine W_cond (t := decide (hint = .decreasing)) (by simp [hdec]) ?_ ?_
    · intro hd
      have hd := of_decide_eq_true hd
      rw [if_pos hd, if_pos hd, if_pos hd] at ho
      have f1 := nat_sub pv a1 pv1 (by omega)
      have f2 := i64_pred (j := b1) (by omega) (by omega)
      have f3 := nat_sub (b1 - 1) (pv - a1) (by omega) (by omega)
      simp only [W_seq]
      refine W_call (by simp) (reverse64_ret w3 h3 (a := a1) (b := b1) (by omega) (by omega) (by omega)) ?_
      rintro v w4 ⟨rfl, ⟨h4, hs4⟩, hk4⟩
      refine ⟨stab_nil _ _ _, ?_⟩
      simp [f1, f2, f3]
      exact ⟨_, b1 - 1 - (pv - a1), .increasing, ho, by omega, by omega, hk03.trans hk4, h4, by rw [hs4, hs2], by rw [hs4], rfl, rfl⟩
    · intro hd
      have hd := of_decide_eq_false hd
      rw [if_neg hd, if_neg hd, if_neg hd] at ho
      simp
      exact ⟨d2, pv, hint, ho, pv1, pv2, hk03, h3, hs2, rfl, rfl, rfl⟩
  clear ho pv1 pv2 hdec hk3 h3 hk03 h2 hs2 hk2
  rintro _ w4 ⟨d4, pv4, hint4, x7, ho, pv1, pv2, hk4, h4, hs4, rfl⟩
  unfold pdqB at ho
  try simp only [W_seq]
  have hinc : decide (hintN hint4 = 1) = decide (hint4 = .increasing) := by cases hint4 <;> rfl
  refine W_cut (fun env w' => ∃ (d5 : Array Int) (x10 : Value), pdqC d5 a1 b1 l2 pv4 wb wp = pdq ltInt d a b lim true true ∧ Kept (fun i => i = g) w w' ∧ A64 w' g c d5 ∧ d5.size = d.size ∧
    env = [.slice (some ⟨g, 0, none⟩) d5.size c, .int .i64 (a1 : Nat), .int .i64 (b1 : Nat), .int .i64 (l2 : Nat), .bool wb, .bool wp, .int .i64 (b1 - a1 : Nat), x7, .int .i64 (pv4 : Nat), .int .i64 (hintN hint4), x10, undef, undef, undef, undef, undef, undef, undef, undef, undef]) ?_ ?_
  · refine W_cond (t := wb && wp && decide (hint4 = .increasing)) ?_ ?_ ?_
    · cases wb <;> cases wp <;> simp [hinc]
    · intro hy
      rw [if_pos hy] at ho
      simp only [W_seq]
      refine W_call (by simp) (partial64_ret w4 h4 (a := a1) (b := b1) (by omega) (by omega) (by omega)) ?_
      rintro v w5 ⟨rfl, ⟨h5, hs5⟩, hk5⟩
      refine ⟨stab_nil _ _ _, ?_⟩
      generalize partialInsertionSort ltInt d4 a1 b1 = r at *
      obtain ⟨d5, rb⟩ := r
      simp only at ho h5 hs5
      refine W_cond (t := rb) (by simp) ?_ ?_
      · rintro rfl
        rw [if_pos rfl] at ho
        rw [← ho]
        simp
        exact ⟨⟨h5, by rw [hs5, hs4]⟩, hk4.trans hk5⟩
      · rintro rfl
        rw [if_neg (by simp)] at ho
        simp
        exact ⟨d5, ho, hk4.trans hk5, h5, by rw [hs5, hs4], by rw [hs5]⟩
    · intro hy
      have hno : ¬ (wb && wp && decide (hint4 = .increasing)) = true := by rw [hy]; simp
      rw [if_neg hno] at ho
      have ho : pdqC d4 a1 b1 l2 pv4 wb wp = pdq ltInt d a b lim true true := ho
      simp
      exact ⟨d4, ho, hk4, h4, hs4, rfl⟩
  clear ho hinc h4 hs4 hk4
  rintro _ w5 ⟨d5, x10, ho, hk5, h5, hs5, rfl⟩
  unfold pdqC at ho
  have f1 : 0 < a1 → IntKind.i64.wrap ((a1 : Int) - 1) = ((a1 - 1 : Nat) : Int) := fun h => i64_pred h (by omega)
  have hpos : decide ((0 : Int) < (a1 : Int)) = decide (0 < a1) := lt_nat 0 a1
  try simp only [W_seq]
  refine W_less (t := 11) (i1 := a1 - 1) (i2 := pv4) (cb := decide (0 < a1)) (neg := true) less64_T h5 ?_ ?_ ?_ ?_ ?_ ?_ ?_ ?_ ?_
  · intro w'; simp
  · intro w'; simp
  · intro hc; have hc := of_decide_eq_true hc; omega
  · intro hc w'; simp [f1 (of_decide_eq_true hc)]
  · intro _ w'; simp
  · intro hc q w'
    have hc := of_decide_eq_true hc
    simp [hc]
  · intro hc w'
    have hc := of_decide_eq_false hc
    have h0 : a1 = 0 := by omega
    simp [h0]
  · intro hc hl tv w6 h6 hk6
    have hc := of_decide_eq_true hc
    have hr := equal_range d5 pv1 pv2 (by omega)
    rw [if_pos (by rw [hl]; simpa using hc), dif_pos hr] at ho
    simp only [W_seq]
    refine W_call (by simp) (equal64_ret w6 h6 (a := a1) (b := b1) (p := pv4) pv1 pv2 (by omega) (by omega)) ?_
    rintro v w7 ⟨rfl, ⟨h7, hs7⟩, hk7⟩
    refine ⟨stab_nil _ _ _, ?_⟩
    generalize partitionEqual ltInt d5 a1 b1 pv4 = r at *
    obtain ⟨mid, d7⟩ := r
    simp only at ho h7 hs7 hr
    simp
    exact ⟨⟨⟨mid, b1, l2, wb, wp, d7, (hk5.trans hk6.any).trans hk7, h7, by rw [hs7, hs5], ho, by omega, by omega, by omega, hl2, by rw [hs7]⟩⟩, by simp [natAt]; omega⟩
  · intro hcb tv w6 h6 hk6
    have hr := part_range d5 pv1 pv2 (show b1 ≤ d5.size by omega)
    rw [if_neg (fun hh => by
      rw [Bool.and_eq_true] at hh
      have h9 := hcb (by simpa using hh.1)
      rw [h9] at hh
      simp at hh), dif_pos hr] at ho
    simp only [W_skip, W_seq]
    refine W_call (by simp) (part64_ret w6 h6 (a := a1) (b := b1) (p := pv4) pv1 pv2 (by omega) (by omega)) ?_
    rintro v w7 ⟨rfl, ⟨h7, hs7⟩, hk7⟩
    refine ⟨stab_nil _ _ _, ?_⟩
    generalize partition ltInt d5 a1 b1 pv4 = r at *
    obtain ⟨mid, al, d7⟩ := r
    simp only at ho h7 hs7 hr
    have hk07 := (hk5.trans hk6.any).trans hk7
    have g1 := nat_sub mid a1 (by omega) (by omega)
    have g2 := nat_sub b1 mid (by omega) (by omega)
    have g3 := tdiv8 (b1 - a1)
    have g4 := i64n ((b1 - a1) / 8) (by omega)
    have g5 := i64_succ (j := mid) (by omega)
    simp only [W_seq]
    refine W_chkIn [.bool al] (by simp) ?_
    simp only [W_seq, W_set]
    refine ok_intro (.int .i64 (mid : Nat)) (by simp) ?_
    try simp only [W_seq, W_set]
    refine ok_intro (.bool al) (by simp) ?_
    try simp only [W_seq, W_set]
    refine ok_intro (.bool al) (by simp) ?_
    try simp only [W_seq]
    refine W_chkIn [.int .i64 (b1 - mid : Nat)] (by simp [g2]) ?_
    simp only [W_seq, W_set]
    refine ok_intro (.int .i64 (mid - a1 : Nat)) (by simp [g1]) ?_
    try simp only [W_seq, W_set]
    refine ok_intro (.int .i64 (b1 - mid : Nat)) (by simp [g2]) ?_
    try simp only [W_seq, W_set]
    refine ok_intro (.int .i64 ((b1 - a1) / 8 : Nat)) (by simp [g3, g4, -Int.natCast_ediv]) ?_
    try simp only [W_seq]
    refine W_cond (t := decide (mid - a1 < b1 - mid)) (by simp [lt_nat]) ?_ ?_
    · intro hlt
      have hlt := of_decide_eq_true hlt
      rw [if_pos hlt] at ho
      simp only [W_seq, W_set]
      refine ok_intro (.bool (decide (mid - a1 ≥ (b1 - a1) / 8))) (by simp [le_nat, -Int.natCast_ediv]) ?_
      try simp only [W_seq]
      refine W_call (by simp [hs5, hs7]) (ih (mid - a1) (by omega) w7 (Nat.le_refl _) h7 (a := a1) (b := mid) (lim := l2) (by omega) (by omega) (by omega) hl2) ?_
      rintro v w8 ⟨rfl, ⟨h8, hs8⟩, hk8⟩
      refine ⟨stab_nil _ _ _, ?_⟩
      simp [g5, -Int.natCast_add]
      exact ⟨⟨⟨mid + 1, b1, l2, _, al, _, hk07.trans hk8, h8, by rw [hs8, hs7, hs5], ho, by omega, by omega, by omega, hl2, by rw [hs8, hs7]⟩⟩, by simp [natAt]; omega⟩
    · intro hlt
      have hlt := of_decide_eq_false hlt
      rw [if_neg hlt] at ho
      simp only [W_seq, W_set]
      refine ok_intro (.bool (decide (b1 - mid ≥ (b1 - a1) / 8))) (by simp [le_nat, -Int.natCast_ediv]) ?_
      try simp only [W_seq]
      refine W_call (by simp [g5, hs5, hs7, -Int.natCast_add]) (ih (b1 - (mid + 1)) (by omega) w7 (Nat.le_refl _) h7 (a := mid + 1) (b := b1) (lim := l2) (by omega) (by omega) (by omega) hl2) ?_
      rintro v w8 ⟨rfl, ⟨h8, hs8⟩, hk8⟩
      refine ⟨stab_nil _ _ _, ?_⟩
      simp
      exact ⟨⟨⟨a1, mid, l2, _, al, _, hk07.trans hk8, h8, by rw [hs8, hs7, hs5], ho, by omega, by omega, by omega, hl2, by rw [hs8, hs7]⟩⟩, by simp [natAt]; omega⟩
end Go.Proofs.YtkgpmjjleemdlaaGreat

set_option linter.unusedSimpArgs false
set_option linter.unusedVariables false
set_option maxRecDepth 8000
namespace Go.Proofs.YtkgpmjjleemdlaaGreat
open Go.Eng Go.Sort
attribute [local irreducible] Go.Eng.W
theorem insert64_none (w0 : World) : T Tryz.prog w0 72 [.slice none 0 0, .int .i64 0, .int .i64 0] = some (.tuple #[]) :=
  T_of (by kernel_rfl) Tryz.func72 rfl ok_so64_insertionSortOrdered (by simp) (by simp) fun B hB => by
    have e : IntKind.i64.wrap 1 = 1 := by decide +kernel
    simp [c_so64_insertionSortOrdered]
    refine C_loop (fun env l => l = [] ∧ env = [.slice none 0 0, .int .i64 0, .int .i64 0, .int .i64 1, undef, undef, undef]) (fun _ _ => 0) ?_ ?_
    · exact ⟨rfl, by simp [e]⟩
    rintro env l ⟨rfl, rfl⟩
    simp [C_cond_eq]
theorem pdq64_none (w0 : World) : T Tryz.prog w0 42 [.slice none 0 0, .int .i64 0, .int .i64 0, .int .i64 0] = some (.tuple #[]) :=
  T_of (by kernel_rfl) Tryz.func42 rfl ok_so64_pdqsortOrdered (by simp) (by simp) fun B hB => by
    have e : IntKind.i64.wrap 0 = 0 := by decide +kernel
    have t := insert64_none w0
    simp [c_so64_pdqsortOrdered]
    refine C_loop (fun env l => l = [] ∧ env = [.slice none 0 0, .int .i64 0, .int .i64 0, .int .i64 0, .bool true, .bool true, undef, undef, undef, undef, undef, undef, undef, undef, undef, undef, undef, undef, undef, undef]) (fun _ _ => 0) ?_ ?_
    · exact ⟨rfl, by simp⟩
    rintro env l ⟨rfl, rfl⟩
    simp [C_cond_eq, e, t]
theorem sort64_ret {v : Value} {xs : List Int} (w : World) (h : Row1 3 w v (xs.map (Value.int .i64))) (hn : xs.length ≤ 1000) :
    Ret Tryz.prog 27 [v] w fun r w' => r = .tuple #[] ∧ Row1 3 w' v ((xs.mergeSort fun x y => decide (x ≤ y)).map (Value.int .i64)) ∧ Kept (fun j => v.ownBlock = some j) w w' := by
  refine ret_of_W Tryz.func27 rfl ok_so64_Sort ?_
  rcases row_arr h with ⟨rfl, rfl⟩ | ⟨g, c, rfl, hA, ho, hc⟩
  · simp only [c_so64_Sort, W_seq, W_set]
    refine ok_intro (.int .i64 0) (by simp) ?_
    try simp only [W_seq]
    refine W_chkIn [.slice none 0 0] (by simp) ?_
    simp only [W_seq]
    have e0 : IntKind.u64.wrap 0 = 0 := by decide +kernel
    have b0 : bitsLen 0 = 0 := by decide +kernel
    refine W_calm (by simp [e0]) (ret_of_T (len_T w (n := 0) (by omega))) ?_
    intro w1 hk1
    refine W_calm (by simp [b0]) (ret_of_T (pdq64_none w1)) ?_
    intro w2 hk2
    simp
    exact ⟨row1_nil _ _, (hk1.trans hk2).any⟩
  · simp only [c_so64_Sort, W_seq, W_set]
    have e0 : IntKind.u64.wrap (xs.length : Int) = xs.length := u64w (by omega) (by omega)
    refine ok_intro (.int .i64 xs.length) (by simp) ?_
    try simp only [W_seq]
    refine W_chkIn [.slice (some ⟨g, 0, none⟩) xs.length c] (by simp) ?_
    simp only [W_seq]
    refine W_calm (by simp [e0]) (ret_of_T (len_T w (n := xs.length) (by omega))) ?_
    intro w1 hk1
    have hbl := bitsLen_mono hn
    have hb2 : bitsLen 1000 = 10 := by decide +kernel
    refine W_call (by simp) (pdq64_ret _ w1 (Nat.le_refl _) (hA.calm hk1) (a := 0) (b := xs.length) (lim := bitsLen xs.length) (by omega) (by simp) (by simp; omega) (by omega)) ?_
    rintro r w2 ⟨rfl, ⟨h2, hs2⟩, hk2⟩
    refine ⟨stab_nil _ _ _, ?_⟩
    have hso : (pdq ltInt xs.toArray 0 xs.length (bitsLen xs.length) true true).toList = xs.mergeSort fun x y => decide (x ≤ y) := by
      have := sortInt xs
      unfold sort at this
      simpa using this
    have hr := arr_row h2
    rw [hso, hs2] at hr
    simp
    refine ⟨by simpa using hr, (hk1.any (S := fun j => (Value.slice (some ⟨g, 0, none⟩) xs.length c).ownBlock = some j)).trans (hk2.mono fun i _ e => by subst e; exact ho)⟩

/-! Each once, where neighbours are alike. -/
theorem compact64_ret {v : Value} {xs : List Int} (w : World) (h : Row1 3 w v (xs.map (Value.int .i64))) (hn : xs.length ≤ 1000) :
    Ret Tryz.prog 28 [v] w fun r w' => Row1 3 w' r ((ddP xs.toArray xs.length).map (Value.int .i64)) ∧ Kept (fun j => v.ownBlock = some j) w w' ∧ ∀ j, r.ownBlock = some j → v.ownBlock = some j := by
  refine ret_of_W Tryz.func28 rfl ok_so64_Compact ?_
  have hlen := row1_len h
  rw [List.length_map] at hlen
  have hvv := rowVar h
  simp only [c_so64_Compact, W_seq, W_set]
  refine ok_intro (.slice none 0 0) (by simp) ?_
  try simp only [W_seq]
  by_cases h2 : xs.length < 2
  · have h2' : (xs.length : Int) < 2 := by omega
    refine W_yes (by simp [hlen, hvv, h2']) ?_
    simp [hvv]
    refine ⟨?_, Kept.refl _ _⟩
    have : ddP xs.toArray xs.length = xs := by
      match xs, h2 with
      | [], _ => rfl
      | [x], _ => simp [ddP]
    rw [this]
    exact h
  · have h2' : ¬ (xs.length : Int) < 2 := by omega
    rcases row_arr h with ⟨rfl, rfl⟩ | ⟨g, c, rfl, hA, ho, hc⟩
    · simp at h2
    refine W_no (by simp [h2']) ?_
    have hds : xs.toArray.size = xs.length := by simp
    have hdl : xs.toArray.toList = xs := by simp
    generalize hd : xs.toArray = d at *
    have hob : ∀ n, (Value.slice (some ⟨g, 0, none⟩) n c).ownBlock = some g := fun _ => rfl
    have hres : ∀ (r : Value) (w' : World), Row1 3 w' r ((ddP d d.size).map (Value.int .i64)) → Kept (fun i => i = g) w w' → (∀ j, r.ownBlock = some j → j = g) → Row1 3 w' r ((ddP d d.size).map (Value.int .i64)) ∧ Kept (fun j => (Value.slice (some ⟨g, 0, none⟩) d.size c).ownBlock = some j) w w' ∧ ∀ j, r.ownBlock = some j → (Value.slice (some ⟨g, 0, none⟩) d.size c).ownBlock = some j :=
      fun r w' h1 hk hj => ⟨h1, hk.mono fun i _ e => by subst e; exact hob _, fun j e => by rw [hj j e]; exact hob _⟩
    simp only [W_skip, W_seq, W_set]
    refine ok_intro (.int .i64 1) (by simp) ?_
    try simp only [W_seq]
    rw [W_block]
    rw [← hds] at hc hn h2 h2' ⊢
    refine W_loop (fun env w' => ∃ k : Nat, Kept none' w w' ∧ 1 ≤ k ∧ k ≤ d.size ∧ ddP d k = d.toList.take k ∧ env = [.slice (some ⟨g, 0, none⟩) d.size c, undef, .int .i64 (k : Nat), undef, undef]) (fun env _ => d.size - natAt env 2) ?_ ?_
    · refine ⟨1, Kept.refl _ _, by omega, by omega, ?_, by simp⟩
      rw [take_next d (by omega)]
      simp [ddP]
    rintro env w1 ⟨k, hk1, hk0, hkn, hdd, rfl⟩
    have hA1 := hA.calm hk1
    simp only [W_seq]
    by_cases hgo : k < d.size
    · have hgo' : (k : Int) < d.size := by omega
      have hge : (0 : Int) ≤ k := by omega
      have hge1 : (0 : Int) ≤ ((k - 1 : Nat) : Int) := by omega
      have hgo1 : ((k - 1 : Nat) : Int) < d.size := by omega
      have e1 := i64_pred (j := k) (by omega) (by omega)
      have e2 := i64_succ (j := k) (by omega)
      refine W_yes (by simp [hgo']) ?_
      simp only [W_skip, W_seq, W_block, W_draw]
      have hk1d : Kept none' w w1.drew := hk1.drew
      have hA2 : A64 w1.drew g c d := hA.calm hk1d
      generalize w1.drew = w2 at *
      have c1 := hA2.get (i := k) hgo
      have c2 := hA2.get (i := k - 1) (by omega)
      refine W_cond (t := decide (d[k]! = d[k - 1]!)) (by simp [hge, hgo', hgo, e1, hge1, hgo1, c1, c2]) ?_ ?_
      · intro hy
        have hy := of_decide_eq_true hy
        have hdn : ddP d (k + 1) = d.toList.take k := by rw [ddP, if_pos ⟨by omega, hy⟩, hdd]
        have hkc : ¬ c = k := by omega
        have hkc' : (k : Int) ≤ d.size := by omega
        have hnc' : (d.size : Int) ≤ c := by omega
        have es : ((d.size : Int) - k).toNat = d.size - k := by omega
        have ec : ((c : Int) - k).toNat = c - k := by omega
        simp only [W_seq, W_set]
        refine ok_intro (.slice (some ⟨g, k, none⟩) (d.size - k) (c - k)) (by simp [hkc, hkc', hnc']) ?_
        try simp only [W_seq, W_set]
        refine ok_intro (.int .i64 1) (by simp) ?_
        try simp only [W_seq]
        rw [W_block]
        refine W_loop (fun env w' => ∃ (k2 kk : Nat) (d' : Array Int), Kept (fun i => i = g) w w' ∧ A64 w' g c d' ∧ d'.size = d.size ∧ 1 ≤ k2 ∧ k2 ≤ d.size - k ∧ k ≤ kk ∧ kk + 1 ≤ k + k2 ∧ d'.toList.take kk = ddP d (k + k2) ∧ (∀ q, kk ≤ q → d'[q]! = d[q]!) ∧ env = [.slice (some ⟨g, 0, none⟩) d.size c, undef, .int .i64 (kk : Nat), .slice (some ⟨g, k, none⟩) (d.size - k) (c - k), .int .i64 (k2 : Nat)]) (fun env _ => d.size - natAt env 4) ?_ ?_
        · exact ⟨1, k, d, hk1d.any, hA2, rfl, by omega, by omega, by omega, by omega, hdn.symm, fun q _ => rfl, by simp⟩
        rintro env w3 ⟨k2, kk, d3, hk3, hA3, hs3, hk21, hk2n, hkk, hkk2, hdd3, hsame, rfl⟩
        simp only [W_seq]
        have f1 := i64_pred (j := k2) (by omega) (by omega)
        have f2 := i64_succ (j := k2) (by omega)
        have f3 := i64_succ (j := kk) (by omega)
        by_cases hg2 : k2 < d.size - k
        · have hg2' : (k2 : Int) < ((d.size - k : Nat) : Int) := by omega
          refine W_yes (by simp [hg2']) ?_
          simp only [W_skip, W_seq, W_block, W_draw]
          have hk3d : Kept (fun i => i = g) w w3.drew := hk3.drew
          have hA4 : A64 w3.drew g c d3 := hA3.calm (Kept.refl none' w3).drew
          generalize w3.drew = w4 at *
          have q1 := hA4.get (i := k + k2) (by omega)
          have q2 := hA4.get (i := k + (k2 - 1)) (by omega)
          rw [hsame (k + k2) (by omega)] at q1
          rw [hsame (k + (k2 - 1)) (by omega)] at q2
          have hkm : k + (k2 - 1) = k + k2 - 1 := by omega
          have hdq : ddP d (k + k2 + 1) = if d[k + k2]! = d[k + (k2 - 1)]! then ddP d (k + k2) else ddP d (k + k2) ++ [d[k + k2]!] := by
            rw [ddP, hkm]
            by_cases hq : d[k + k2]! = d[k + k2 - 1]!
            · rw [if_pos ⟨by omega, hq⟩, if_pos hq]
            · rw [if_neg (fun h => hq h.2), if_neg hq]
          refine W_cond (t := !decide (d[k + k2]! = d[k + (k2 - 1)]!)) ?_ ?_ ?_
          · have p1 : ((k2 - 1 : Nat) : Int) < ((d.size - k : Nat) : Int) := by omega
            simp [hg2', hg2, f1, p1, q1, q2]
            trace_state
          · intro hn
            have hn : ¬ d[k + k2]! = d[k + (k2 - 1)]! := by simpa using hn
            rw [if_neg hn] at hdq
            obtain ⟨w5, hs5, hA5, hk5⟩ := hA4.put (i := kk) (by omega) d[k + k2]!
            have p3 : kk < d.size := by omega
            simp only [W_seq]
            refine W_store (vv := .int .i64 d[k + k2]!) (by simp [p3]) (by simp [hg2', hg2, q1]) hs5 (stab_nil _ _ _) ?_
            simp [f2, f3, -Int.natCast_add]
            refine ⟨⟨hk3d.trans hk5, k2 + 1, kk + 1, _, hA5, by simpa using hs3, by omega, by omega, by omega, by omega, ?_, ?_, rfl, rfl⟩, by simp [natAt]; omega⟩
            · rw [take_set d3 kk _ (by omega), hdd3, show k + (k2 + 1) = k + k2 + 1 from by omega, hdq]
            · intro q hq
              rw [get_set d3 kk q _ (by omega), if_neg (by omega)]
              exact hsame q (by omega)
          · intro hn
            have hn : d[k + k2]! = d[k + (k2 - 1)]! := by simpa using hn
            rw [if_pos hn] at hdq
            simp [f2, -Int.natCast_add]
            refine ⟨⟨hk3d, k2 + 1, kk, d3, hA4, hs3, by omega, by omega, by omega, by omega, ?_, hsame, rfl, rfl⟩, by simp [natAt]; omega⟩
            rw [show k + (k2 + 1) = k + k2 + 1 from by omega, hdq, hdd3]
        · have hk2e : k2 = d.size - k := by omega
          have hg2' : ¬ (k2 : Int) < ((d.size - k : Nat) : Int) := by omega
          refine W_no (by simp [hg2']) ?_
          have hkn2 : k + k2 = d.size := by omega
          rw [hkn2] at hdd3
          rw [← hs3] at hc
          obtain ⟨w5, d5, hrun, hA5, hs5, htk, hk5⟩ := hA3.clear (ty := 0) Tryz.underlying26 (by kernel_rfl) (j := kk) (by omega) (c - kk)
          rw [hs3] at hrun hc
          have hkc2 : ¬ c = kk := by omega
          have hkk' : (kk : Int) ≤ d.size := by omega
          have hnc' : (d.size : Int) ≤ c := by omega
          have hkc3 : (kk : Int) ≤ c := by omega
          simp only [W_skip, W_exit, Wx_exit_c, Wx_exit_post, Wx_exit_blk, W_seq, if_true, if_false]
          refine W_bi (vs := [.slice (some ⟨g, kk, none⟩) (d.size - kk) (c - kk)]) (by simp [hkc2, hkk', hnc']) hrun (stab_nil _ _ _) ?_
          simp only [W_seq, W_set]
          refine ok_intro (.slice (some ⟨g, 0, none⟩) kk c) (by simp [hkc3]) ?_
          simp
          refine hres _ _ ?_ (hk3.trans hk5) (fun j hj => by rw [hob] at hj; exact (Option.some.inj hj).symm)
          have := arr_take hA5 kk (by omega)
          rw [htk, hdd3] at this
          exact this
      · intro hn
        have hn := of_decide_eq_false hn
        simp [e2, -Int.natCast_add]
        refine ⟨⟨hk1d, k + 1, by omega, by omega, ?_, rfl⟩, by simp [natAt]; omega⟩
        rw [ddP, if_neg (fun h => hn h.2), hdd, take_next d hgo]
    · have hke : k = d.size := by omega
      subst hke
      refine W_no (by simp) ?_
      simp
      refine ⟨?_, hk1.any⟩
      rw [hdd]
      exact arr_take hA1 _ (Nat.le_refl _)
end Go.Proofs.YtkgpmjjleemdlaaGreat

set_option linter.unusedSimpArgs false
set_option linter.unusedVariables false
set_option maxRecDepth 8000
namespace Go.Proofs.YtkgpmjjleemdlaaGreat
open Go.Eng Go.Sort

/-- Rising, each once; just these. -/
structure Rises (r xs : List Int) : Prop where
  up : ∀ (i : Nat) (x y : Int), r[i]? = some x → r[i + 1]? = some y → x < y
  nodup : r.Nodup
  mem : ∀ x, x ∈ r ↔ x ∈ xs
end Go.Proofs.YtkgpmjjleemdlaaGreat

