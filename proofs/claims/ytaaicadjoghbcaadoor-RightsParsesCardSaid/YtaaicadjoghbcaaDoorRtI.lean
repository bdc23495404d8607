/- Layer 11, part I: what was told comes back; the law's walk. -/
import Derived.Test.YtaaicadjoghbcaaDoorRtH
set_option linter.unusedSimpArgs false
set_option linter.unusedVariables false
set_option maxRecDepth 8000
namespace Go.Proofs.YtaaicadjoghbcaaDoor
open Go.Eng

theorem hexDig_dig : ∀ k, k < 16 → hexDig (dig k) = some k := by decide +kernel
theorem p16_hexF : ∀ (f n : Nat) (r : List Nat), n < 16 ^ f → n < 65536 → 1 ≤ f → p16 0 (hexF f n ++ r) = p16 n r
  | 0, n, r, h, h6, h1 => by omega
  | f + 1, n, r, h, h6, h1 => by
    rw [hexF]
    by_cases hn : n < 16
    · rw [if_pos hn]
      show p16 0 (dig n :: r) = _
      rw [p16, hexDig_dig n hn]
      simp only [Nat.zero_mul, Nat.zero_add]
      rw [if_neg (by omega)]
    · rw [if_neg hn, List.append_assoc, p16_hexF f (n / 16) _ ?_ (by omega) ?_]
      · show p16 (n / 16) (dig (n % 16) :: r) = _
        rw [p16, hexDig_dig (n % 16) (Nat.mod_lt _ (by omega))]
        have : n / 16 * 16 + n % 16 = n := by omega
        simp only [this]
        rw [if_neg (by omega)]
      · rw [Nat.pow_succ] at h
        exact Nat.div_lt_of_lt_mul (by rw [Nat.mul_comm]; exact h)
      · cases f with
        | zero => simp at h; omega
        | succ f => omega
theorem hexF_ne (f n : Nat) : hexF (f + 1) n ≠ [] := by
  rw [hexF]
  split <;> simp
theorem pu_hexL {n : Nat} (h : n < 65536) : pu (hexL n) = .num n := by
  have hne : hexL n ≠ [] := hexF_ne 15 n
  unfold pu
  rw [if_neg hne]
  have := p16_hexF 16 n [] (by omega) h (by omega)
  rw [List.append_nil] at this
  exact this
theorem word16_word {i n : Nat} (h : n < 65536) : word16 (word i n) = some n := by
  show (pu (hexL n)).num? = some n
  rw [pu_hexL h]; rfl
theorem splitG_word {c : Nat} : ∀ (m r : List Nat), (∀ x ∈ m, x ≠ c) → splitG c (m ++ c :: r) = m :: splitG c r
  | [], r, h => by simp [splitG]
  | x :: m, r, h => by
    have ih := splitG_word m r fun y hy => h y (List.mem_cons_of_mem _ hy)
    simp only [List.cons_append, splitG, if_neg (h x (by simp)), ih]
    rfl
theorem splitG_last {c : Nat} : ∀ (m : List Nat), (∀ x ∈ m, x ≠ c) → splitG c m = [m]
  | [], h => rfl
  | x :: m, h => by
    have ih := splitG_last m fun y hy => h y (List.mem_cons_of_mem _ hy)
    simp only [splitG, if_neg (h x (by simp)), ih]
    rfl
theorem splitG_join : ∀ (x : List Nat) (ws : List (List Nat)), (∀ m ∈ x :: ws, ∀ y ∈ m, y ≠ 32) → splitG 32 (joinL (x :: ws)) = x :: ws
  | x, [], h => by simp [joinL]; exact splitG_last x (h x (by simp))
  | x, y :: ws, h => by
    have ih := splitG_join y ws fun m hm => h m (List.mem_cons_of_mem _ hm)
    have he : joinL (x :: y :: ws) = x ++ 32 :: joinL (y :: ws) := by simp [joinL]
    rw [he, splitG_word x _ (h x (by simp)), ih]
theorem dig_ne (k : Nat) : dig k ≠ 32 := by unfold dig; split <;> omega
theorem hexF_ne32 : ∀ f n, ∀ x ∈ hexF f n, x ≠ 32
  | 0, n, x, h => by simp [hexF] at h
  | f + 1, n, x, h => by
    unfold hexF at h
    split at h
    · simp at h; subst h; exact dig_ne _
    · simp at h
      rcases h with h | h
      · exact hexF_ne32 f _ x h
      · subst h; exact dig_ne _
theorem split_text (r : Rt) : splitG 32 (textL r) = wordsL r := by
  have hw : ∃ ws, wordsL r = word 0 r.c :: ws := ⟨_, rfl⟩
  obtain ⟨ws, hws⟩ := hw
  unfold textL
  rw [hws]
  refine splitG_join _ _ ?_
  rw [← hws]
  intro m hm
  have hword : ∀ i n, i < 4 → ∀ y ∈ word i n, y ≠ 32 := by
    intro i n hi y hy
    rcases List.mem_cons.1 hy with rfl | h
    · have : i = 0 ∨ i = 1 ∨ i = 2 ∨ i = 3 := by omega
      rcases this with rfl | rfl | rfl | rfl <;> decide
    · exact hexF_ne32 16 n y h
  unfold wordsL at hm
  rcases List.mem_append.1 hm with hm | hm
  · rcases List.mem_append.1 hm with hm | hm
    · simp only [List.mem_cons, List.not_mem_nil, or_false] at hm
      rcases hm with rfl | rfl | rfl | rfl <;> exact hword _ _ (by omega)
    · cases hv : r.v <;> rw [hv] at hm <;> simp at hm
      subst hm; decide
  · cases hv : r.s <;> rw [hv] at hm <;> simp at hm
    subst hm; decide
theorem rtOf_words (r : Rt) (hr : r.wf) : rtOf (wordsL r) = some r := by
  obtain ⟨c, p, m, h, v, s⟩ := r
  have h4 : 4 ≤ (wordsL ⟨c, p, m, h, v, s⟩).length := by unfold wordsL; cases v <;> cases s <;> simp
  rw [rtOf_some (ns := fun i => [c, p, m, h].getD i 0) h4 ?_]
  · unfold wordsL
    cases v <;> cases s <;> simp [privL, sgnL]
  · intro i hi
    have hg : (wordsL ⟨c, p, m, h, v, s⟩).getD i [] = word i ([c, p, m, h].getD i 0) := by
      have : i = 0 ∨ i = 1 ∨ i = 2 ∨ i = 3 := by omega
      rcases this with rfl | rfl | rfl | rfl <;> rfl
    rw [hg]
    refine word16_word ?_
    have : i = 0 ∨ i = 1 ∨ i = 2 ∨ i = 3 := by omega
    rcases this with rfl | rfl | rfl | rfl
    · exact hr.c
    · exact hr.p
    · exact hr.m
    · exact hr.h
theorem parseF_text (r : Rt) (hr : r.wf) : parseF (textL r) = some r := by
  unfold parseF
  rw [split_text, rtOf_words r hr]
  simp
theorem textL_len2 (r : Rt) : (textL r).length ≤ 1000 := textL_len r

theorem texts_ret (r : Rt) (w : World) (hg : GlobT w) (hr : r.wf) : Ret Tryd.prog 3 [r.val] w fun v w' => v = .bool true ∧ Kept none' w w' := by
  refine ret_of_W Tryd.func3 rfl ok_tipstafflaw11_RightsTexts ?_
  simp [c_tipstafflaw11_RightsTexts, zero_arr]
  have hp1 := hp_new w (.cells r.arr 24)
  have hk1 : Kept none' w (w.alloc (.cells r.arr 24)) := (Kept.refl _ _).alloc _
  generalize hb1 : w.heap.size = b1 at hp1
  generalize w.alloc (.cells r.arr 24) = w1 at hp1 hk1 ⊢
  refine W_calm (by simp [wrow_box hp1]) (ret_of_T (to_T w1 r)) ?_
  intro w2 hk2
  simp only [W_seq]
  refine W_calm (by simp) (text_ret r w2 ((hg.calm hk1).toGlob.calm hk2) hr) ?_
  intro w3 hk3
  simp only [W_seq, W_set]
  refine ok_intro (.string (bs (textL r))) (by simp) ?_
  have hk13 := hk1.trans (hk2.trans hk3)
  refine W_calm (by simp) (parse_ret (textL r) w3 (textL_oct r hr) (textL_len r) (hg.calm hk13)) ?_
  intro w4 hk4
  rw [parseF_text r hr]
  have hp14 := (hk2.trans (hk3.trans hk4)).has hp1 (fun h => h)
  have hk14 := hk13.trans hk4
  have hbs : b1 < w4.heap.size := blk_lt hp14
  simp [parseV]
  have hp7 := hp_new w4 (.cells Rt.zero.arr 27)
  obtain ⟨w5, hs5, hk5, hb5, ho5, _⟩ := rt_box (w0 := w4) ((Kept.refl none' w4).alloc (.cells Rt.zero.arr 27)) hp7 (Nat.le_refl _) r
  refine W_store (xv := .pointer (some ⟨w4.heap.size, 0, none⟩)) (vv := r.val) (by simp) (by simp [Rt.val]) hs5 (stab_nil _ _ _) ?_
  have hp15 := hk5.has hp14 (fun h => h)
  generalize w4.heap.size = b7 at hb5 ⊢
  have hk15 := hk14.trans hk5
  simp
  have hp15d : w5.drew.heap[b1]? = some (.cells r.arr 24 (0, 0)) := hp15
  have hb5d : w5.drew.heap[b7]? = some (.cells r.arr 27 (0, 0)) := hb5
  have hk16 := hk15.drew
  generalize w5.drew = w6 at hp15d hb5d hk16 ⊢
  refine W_calm (by simp) (whole_ret w6 (hg.toGlob.calm hk16)) ?_
  intro w7 hk7
  have hq7 := hk7.has hp15d (fun h => h)
  have hr7 := hk7.has hb5d (fun h => h)
  have hself : strBin .eql (bs (textL r)) (bs (textL r)) = some (.bool true) := by simp [strBin]
  simp only [W_seq]
  refine W_chkIn [.agg r.arr, .string (bs (textL r))] (by simp [wrow_box hq7]) ?_
  simp only [W_seq]
  refine W_yes (by simp) ?_
  refine W_calm (by simp [wrow_box hq7]) (refText_ret r w7 hr) ?_
  intro w8 hk8
  have hq8 := hk8.has hq7 (fun h => h)
  have hr8 := hk8.has hr7 (fun h => h)
  simp only [W_seq]
  refine W_chkIn [.agg r.arr] (by simp [hself, wrow_box hr8]) ?_
  simp only [W_seq]
  refine W_yes (by simp [hself]) ?_
  simp only [W_set, W_seq]
  refine ok_intro r.val (by simp [wrow_box hq8, Rt.val]) ?_
  refine W_yes (by simp [hself]) ?_
  refine W_calm (by simp [wrow_box hr8]) (ret_of_T (from_T w8 r)) ?_
  intro w9 hk9
  simp [hself]
  exact ((hk16.trans hk7).trans hk8).trans hk9
end Go.Proofs.YtaaicadjoghbcaaDoor
