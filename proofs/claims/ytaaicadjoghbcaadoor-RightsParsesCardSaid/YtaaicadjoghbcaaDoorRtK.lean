/- Layer 11, part K: the reference's Parse. -/
import Derived.Test.YtaaicadjoghbcaaDoorRtJ
set_option linter.unusedSimpArgs false
set_option linter.unusedVariables false
set_option maxRecDepth 8000
namespace Go.Proofs.YtaaicadjoghbcaaDoor
open Go.Eng

/-- What is cut off so far, and what is to come. -/
def CutAt (l : List Nat) (i : Nat) (wd : List Nat) (done : List (List Nat)) : Prop :=
  (i ≤ l.length ∧ splitG 32 l = done ++ (wd ++ (splitG 32 (l.drop i)).headD []) :: (splitG 32 (l.drop i)).tail) ∨ (i = l.length + 1 ∧ done = splitG 32 l)

set_option maxHeartbeats 4000000 in
theorem refParse_ret (l : List Nat) (w : World) (hl : Oct l) (hlen : l.length ≤ 900) :
    Ret Tryd.prog 11 [.string (bs l)] w fun v w' => v = refV (parseF l) ∧ Kept none' w w' := by
  refine ret_of_W Tryd.func11 rfl ok_tipstaffref11_Parse ?_
  simp [c_tipstaffref11_Parse, zero_arr]
  have hp1 := hp_new w (.cells Rt.zero.arr 24)
  have hk1 : Kept none' w (w.alloc (.cells Rt.zero.arr 24)) := (Kept.refl none' w).alloc _
  have hs1 : (w.alloc (.cells Rt.zero.arr 24)).heap.size = w.heap.size + 1 := by simp
  generalize hb1 : w.heap.size = b1 at hp1 hs1
  have hbb : w.heap.size ≤ b1 := by omega
  generalize w.alloc (.cells Rt.zero.arr 24) = w1 at hp1 hk1 hs1 ⊢
  have hb1lt : b1 < w1.heap.size := by omega
  have hbad : ∀ w', Kept none' w w' → w'.heap[b1]? = some (.cells Rt.zero.arr 24 (0, 0)) → ∃ w'', stv w' 6 (.pointer (some ⟨b1, 0, none⟩)) Rt.zero.val = some w'' ∧ Kept none' w w'' ∧ w''.heap[b1]? = some (.cells Rt.zero.arr 24 (0, 0)) := fun w' hk hb => by
    obtain ⟨w'', a, b, c, _, _⟩ := rt_box hk hb hbb Rt.zero
    exact ⟨w'', a, b, c⟩
  have hemp : (⟨#[]⟩ : ByteArray) = bs [] := rfl
  refine W_loop (fun env w' => Kept none' w w' ∧ Kept none' w1 w' ∧ ∃ (i : Nat) (v : Value) (wd : List Nat) (done : List (List Nat)), env = [.string (bs l), .pointer (some ⟨b1, 0, none⟩), undef, v, .string (bs wd), .int .i64 (i : Nat), undef, undef, undef, undef, undef, undef, undef, undef, undef, undef, undef, undef] ∧
    CutAt l i wd done ∧ i ≤ l.length + 1 ∧ done.length ≤ i ∧ wd.length ≤ i ∧ Oct wd ∧ Row 9 1 w' v done.length (strs done) ∧ (∀ j, v.ownBlock = some j → w1.heap.size ≤ j)) (fun env _ => l.length + 1 - natAt env 5) ?_ ?_
  · refine ⟨hk1, Kept.refl _ _, 0, _, [], [], by simp; rfl, .inl ⟨by omega, by simpa using (splitG_head 32 l).symm⟩, by omega, by simp, by simp, fun x h => by simp at h, row_nil _ _ _, fun j hj => by simp [Value.ownBlock] at hj⟩
  rintro env w2 ⟨hk2, hk12, i, v, wd, done, rfl, hcut, hi, hdl, hwl, hwo, hrow, hown⟩
  have hvar := rowVar hrow
  by_cases hgo : i ≤ l.length
  · have hcut : splitG 32 l = done ++ (wd ++ (splitG 32 (l.drop i)).headD []) :: (splitG 32 (l.drop i)).tail := by
      rcases hcut with h | h
      · exact h.2
      · omega
    have e1 : IntKind.i64.wrap ((i : Int) + 1) = ((i + 1 : Nat) : Int) := i64w (by omega) (by omega)
    simp
    refine W_yes (by simp; omega) ?_
    simp only [W_seq, W_skip]
    rw [W_block]
    -- the word ends here
    have hend : splitG 32 l = (done ++ [wd]) ++ (if i < l.length then splitG 32 (l.drop (i + 1)) else []) → (if i < l.length then (([] : List Nat) ++ (splitG 32 (l.drop (i + 1))).headD []) :: (splitG 32 (l.drop (i + 1))).tail = splitG 32 (l.drop (i + 1)) else True) → CutAt l (i + 1) [] (done ++ [wd]) := by
      intro h h'
      by_cases hil : i < l.length
      · rw [if_pos hil] at h h'
        exact .inl ⟨by omega, by rw [h', h]⟩
      · rw [if_neg hil] at h
        exact .inr ⟨by omega, by simpa using h.symm⟩
    have hh : (if i < l.length then (([] : List Nat) ++ (splitG 32 (l.drop (i + 1))).headD []) :: (splitG 32 (l.drop (i + 1))).tail = splitG 32 (l.drop (i + 1)) else True) := by
      split
      · simpa using splitG_head 32 (l.drop (i + 1))
      · trivial
    by_cases hsep : i = l.length ∨ l[i]? = some 32
    · have hnew : CutAt l (i + 1) [] (done ++ [wd]) := by
        refine hend ?_ hh
        rw [hcut]
        by_cases hil : i < l.length
        · have hd : l.drop i = 32 :: l.drop (i + 1) := by
            have h32 : l[i]? = some 32 := by rcases hsep with h | h <;> first | exact h | omega
            rw [List.drop_eq_getElem_cons hil]
            rw [List.getElem?_eq_getElem hil] at h32
            rw [Option.some.inj h32]
          rw [hd, if_pos hil]
          simp [splitG]
        · rw [if_neg hil, List.drop_of_length_le (by omega)]
          simp [splitG]
      refine W_yes ?_ ?_
      · by_cases hil : i = l.length
        · simp [hil]
        · have h32 : l[i]? = some 32 := by rcases hsep with h | h <;> first | exact h | omega
          have hix := bs_idx hl h32
          have hnil : ¬ (i : Int) = l.length := by omega
          simp [hil, hnil, hix, -idxStrV_string]
      simp only [W_seq]
      refine W_chkIn [v] (by simp [hvar]) ?_
      simp only [W_seq]
      refine W_row' (v := .agg #[.string (bs wd)]) (cs := #[.string (bs wd)]) ?_ (by simp) ?_
      · simp
      have hp5 := hp_new w2 (.cells #[.string (bs wd)] 9)
      have hk5 : Kept none' w2 (w2.alloc (.cells #[.string (bs wd)] 9)) := (Kept.refl _ _).alloc _
      have hrow5 := rowCalm hrow hk5
      generalize hw3 : w2.alloc (.cells #[.string (bs wd)] 9) = w3 at hp5 hk5 hrow5 ⊢
      obtain ⟨v', w6, hrun, hrow6, hk6, hat⟩ := push_str hrow5 (by omega) hp5
      simp only [W_seq]
      refine W_bi (by simp [hvar]) hrun (stab_nil _ _ _) ?_
      have hvar' := rowVar hrow6
      have hs5 := (hk12.trans hk5).size
      have hk16 : Kept none' w1 w6 := (hk12.trans hk5).then hk6 fun j hj hb => by have := hown j hb; omega
      simp [hvar', e1]
      refine ⟨⟨(hk2.trans hk5).then hk6 fun j hj hb => ?_, hk16, i + 1, v', [], ⟨rfl, rfl, rfl⟩, done ++ [wd], hnew, by omega, by simp; omega, by simp, fun x h => by simp at h, by simpa using hrow6, ?_⟩, by simp [natAt]; omega⟩
      · have := hown j hb; omega
      · intro j hj
        rcases hat with h | h
        · exact hown j (by rw [← h]; exact hj)
        · rw [hj] at h; simp at h; omega
    · obtain ⟨hil, hc⟩ : i < l.length ∧ ∃ c, l[i]? = some c ∧ c ≠ 32 := by
        have : i < l.length := by omega
        refine ⟨this, l[i], List.getElem?_eq_getElem this, fun e => hsep (.inr ?_)⟩
        rw [List.getElem?_eq_getElem this, e]
      obtain ⟨c, hc, hc32⟩ := hc
      have hix := bs_idx hl hc
      have h1 := bs_one hc
      have hcat := cat_bs wd [c] (by simp; omega)
      have hc255 := hl c (List.mem_of_getElem? hc)
      have hnil : ¬ (i : Int) = l.length := by omega
      have hc32' : ¬ (c : Int) = 32 := by omega
      refine W_no (by simp [hnil, hix, hc32', -idxStrV_string]) ?_
      simp only [W_set]
      refine ok_intro (.string (bs (wd ++ [c]))) (by simp [e1, h1, hcat, -slStrV_string, -Int.natCast_add]) ?_
      simp [e1]
      refine ⟨⟨hk2, hk12, i + 1, v, wd ++ [c], ⟨rfl, rfl, rfl⟩, done, .inl ⟨by omega, ?_⟩, by omega, by omega, by simp; omega, ?_, hrow, hown⟩, by simp [natAt]; omega⟩
      · have hd : l.drop i = c :: l.drop (i + 1) := by
          rw [List.drop_eq_getElem_cons hil]
          rw [List.getElem?_eq_getElem hil] at hc
          rw [Option.some.inj hc]
        rw [hcut, hd]
        simp [splitG, hc32]
      · exact oct_append hwo fun x hx => by simp at hx; omega
  · have hil : i = l.length + 1 := by omega
    have hdone : done = splitG 32 l := by
      rcases hcut with h | h
      · omega
      · exact h.2
    simp
    refine W_no (by simp; omega) ?_
    simp
    have hn0 : 0 < done.length := by rw [hdone]; exact List.length_pos_iff.2 (splitG_ne 32 l)
    have hoct := splitG_oct hl
    have hA : ∀ r : Rt, r.wf → textL r = l → done = wordsL r := fun r hr ht => by rw [hdone, ← ht, split_text]
    rw [← hdone] at hoct
    have hmem : ∀ m ∈ done, m.length ≤ l.length := by rw [hdone]; exact splitG_mem_len
    clear hdone hcut
    generalize done = ws at hrow hn0 hoct hA hmem hdl ⊢
    have hglt := fun g => rowLt hrow (g := g)
    obtain ⟨g, cap, rfl, hcap, hgo', hx⟩ := rowForm hrow hn0
    have hgb := hown g hgo'
    have hgl := hglt g hgo'
    have hws : StrsAt w2 g 0 ws := fun j m hm => by rw [Nat.zero_add]; exact hx j _ (by simp [strs, hm])
    have hp12 := hk12.has hp1 (fun h => h)
    clear hx hown hrow hvar
    have hp8 := hp_new w2 (.cells Rt.zero.arr 24)
    have hk8 : Kept none' w2 (w2.alloc (.cells Rt.zero.arr 24)) := (Kept.refl none' w2).alloc _
    have hs8 : (w2.alloc (.cells Rt.zero.arr 24)).heap.size = w2.heap.size + 1 := by simp
    generalize hb8 : w2.heap.size = b8 at hp8 hs8 hgl
    have hb18 : b1 < b8 := by have := blk_lt hp12; omega
    generalize w2.alloc (.cells Rt.zero.arr 24) = w3 at hp8 hk8 hs8 ⊢
    have hk3 := hk2.trans hk8
    have hp13 := hk8.has hp12 (fun h => h)
    have hws3 := hws.calm hk8
    have hza : Rt.zero.val = .agg Rt.zero.arr := rfl
    by_cases hl46 : ws.length < 4 ∨ 6 < ws.length
    · have hnone : parseF l = none := parseF_none fun r hr ht => by
        have := hA r hr ht
        have h6 : 4 ≤ (wordsL r).length ∧ (wordsL r).length ≤ 6 := by unfold wordsL; cases r.v <;> cases r.s <;> simp
        rw [← this] at h6; omega
      refine W_yes ?_ ?_
      · rcases hl46 with h | h
        · have h' : (ws.length : Int) < 4 := by omega
          simp [h']
        · have h' : ¬ (ws.length : Int) < 4 := by omega
          have h'' : (6 : Int) < ws.length := by omega
          simp [h', h'']
      obtain ⟨w4, hs, hk, hb⟩ := hbad _ hk3 hp13
      simp only [W_seq]
      refine W_store (xv := .pointer (some ⟨b1, 0, none⟩)) (vv := Rt.zero.val) (by simp) (by simp [wrow_box hp8, hza]) hs (stab_nil _ _ _) ?_
      simp [wrow_box hb, hnone, refV, Rt.val]
      exact hk
    have hl4 : 4 ≤ ws.length ∧ ws.length ≤ 6 := by omega
    refine W_no ?_ ?_
    · have h' : ¬ (ws.length : Int) < 4 := by omega
      have h'' : ¬ (6 : Int) < ws.length := by omega
      simp [h', h'']
    simp
    have hp9 := hp_new w3 (.cells (Array.replicate 4 (.int .u16 0)) 45)
    have hk9 : Kept none' w3 (w3.alloc (.cells (Array.replicate 4 (.int .u16 0)) 45)) := (Kept.refl none' w3).alloc _
    generalize hb9 : w3.heap.size = b9 at hp9
    generalize w3.alloc (.cells (Array.replicate 4 (.int .u16 0)) 45) = w4 at hp9 hk9 ⊢
    have hf9 : FourAt w4 b9 (fun _ => 0) := ⟨_, hp9, by simp, fun j hj => by simp [hj]⟩
    have hbs : b1 < b8 ∧ b8 < b9 ∧ g < b8 ∧ w.heap.size ≤ b1 ∧ b1 < g := by omega
    have hk4 := hk3.trans hk9
    have hp14 := hk9.has hp13 (fun h => h)
    have hp84 := hk9.has hp8 (fun h => h)
    have hws4 := hws3.calm hk9
    clear hp8 hp9 hk8 hk9 hs8 hp12 hp13 hws hws3 hk3 hk2 hk12 hgl hgb hglt
    have hsep : ∀ (w' : World) (b : Nat) (j : Nat) (m : List Nat), b ≠ g → wcell w' g j = some (.string (bs m)) → True := fun _ _ _ _ _ _ => trivial
    refine W_loop (fun env w' => Kept none' w w' ∧ ∃ (k : Nat) (ns : Nat → Nat), env = [.string (bs l), .pointer (some ⟨b1, 0, none⟩), undef, .slice (some ⟨g, 0, none⟩) ws.length cap, undef, undef, undef, undef, .pointer (some ⟨b8, 0, none⟩), .pointer (some ⟨b9, 0, none⟩), .int .i64 (k : Nat), undef, undef, undef, undef, undef, undef, undef] ∧ k ≤ 4 ∧ FourAt w' b9 ns ∧ (∀ j, j < 4 → ns j < 65536) ∧ (∀ j, k ≤ j → ns j = 0) ∧ (∀ r : Rt, r.wf → textL r = l → ∀ j, j < k → ns j = r.nums.getD j 0) ∧
      w'.heap[b1]? = some (.cells Rt.zero.arr 24 (0, 0)) ∧ w'.heap[b8]? = some (.cells Rt.zero.arr 24 (0, 0)) ∧ StrsAt w' g 0 ws) (fun env _ => 4 - natAt env 10) ?_ ?_
    · exact ⟨hk4, 0, _, by simp, by omega, hf9, fun j hj => by simp, fun j hj => rfl, fun r _ _ j hj => by omega, hp14, hp84, hws4⟩
    rintro env w5 ⟨hk5, k, ns, rfl, hk, hf, hnb, hnz, hnA, hp15, hp85, hws5⟩
    by_cases hgo4 : k < 4
    · simp
      refine W_yes (by simp; omega) ?_
      have hkl : k < ws.length := by omega
      have hget : ws[k]? = some ws[k] := List.getElem?_eq_getElem hkl
      have hm := hoct _ (List.getElem_mem hkl)
      have hml := hmem _ (List.getElem_mem hkl)
      have hcell := hws5 k _ hget
      rw [Nat.zero_add] at hcell
      -- under the text of some rights this is their word
      have hmA : ∀ r : Rt, r.wf → textL r = l → ∃ n, n < 65536 ∧ n = r.nums.getD k 0 ∧ ws[k] = word k n := fun r hr ht => by
        have h := hA r hr ht
        have hnn : r.nums.getD k 0 < 65536 := by
          have : k = 0 ∨ k = 1 ∨ k = 2 ∨ k = 3 := by omega
          rcases this with rfl | rfl | rfl | rfl
          · exact hr.c
          · exact hr.p
          · exact hr.m
          · exact hr.h
        refine ⟨_, hnn, rfl, ?_⟩
        have hg : (wordsL r)[k]? = some (word k (r.nums.getD k 0)) := by
          have : k = 0 ∨ k = 1 ∨ k = 2 ∨ k = 3 := by omega
          unfold wordsL
          rcases this with rfl | rfl | rfl | rfl <;> rfl
        rw [← h, hget] at hg
        exact Option.some.inj hg
      generalize ws[k] = m at hget hm hml hcell hmA
      have hkil : (k : Int) < ws.length := by omega
      simp only [W_seq, W_skip]
      rw [W_block]
      simp only [W_seq, W_set]
      refine ok_intro (.string (bs m)) (by simp [hkl, hkil, hcell]) ?_
      by_cases hm25 : m.length < 2 ∨ 5 < m.length
      · have hnone : parseF l = none := parseF_none fun r hr ht => by
          obtain ⟨n, hn, _, rfl⟩ := hmA r hr ht
          have := word_len (i := k) hn
          omega
        refine W_yes ?_ ?_
        · rcases hm25 with h | h
          · have h' : (m.length : Int) < 2 := by omega
            simp [h']
          · have h' : ¬ (m.length : Int) < 2 := by omega
            have h'' : (5 : Int) < m.length := by omega
            simp [h', h'']
        obtain ⟨w6, hs, hk6, hb⟩ := hbad _ hk5 hp15
        simp only [W_seq]
        refine W_store (xv := .pointer (some ⟨b1, 0, none⟩)) (vv := Rt.zero.val) (by simp) (by simp [hza]) hs (stab_nil _ _ _) ?_
        simp [wrow_box hb, hnone, refV, Rt.val]
        exact hk6
      refine W_no ?_ ?_
      · have h' : ¬ (m.length : Int) < 2 := by omega
        have h'' : ¬ (5 : Int) < m.length := by omega
        simp [h', h'']
      simp only [W_seq, W_skip, W_set]
      refine ok_intro (.int .i64 1) (by simp) ?_
      rw [W_block]
      refine W_loop (fun env w' => Kept none' w w' ∧ ∃ (i a : Nat) (ns : Nat → Nat), env = [.string (bs l), .pointer (some ⟨b1, 0, none⟩), undef, .slice (some ⟨g, 0, none⟩) ws.length cap, undef, undef, undef, undef, .pointer (some ⟨b8, 0, none⟩), .pointer (some ⟨b9, 0, none⟩), .int .i64 (k : Nat), .string (bs m), .int .i64 (i : Nat), undef, undef, undef, undef, undef] ∧ 1 ≤ i ∧ i ≤ m.length ∧ FourAt w' b9 ns ∧ (∀ j, j < 4 → ns j < 65536) ∧ (∀ j, k < j → ns j = 0) ∧ (∀ r : Rt, r.wf → textL r = l → ∀ j, j < k → ns j = r.nums.getD j 0) ∧
        ns k = a ∧ refNum 0 (m.drop 1) = refNum a (m.drop i) ∧ w'.heap[b1]? = some (.cells Rt.zero.arr 24 (0, 0)) ∧ w'.heap[b8]? = some (.cells Rt.zero.arr 24 (0, 0)) ∧ StrsAt w' g 0 ws) (fun env _ => m.length - natAt env 12) ?_ ?_
      · refine ⟨hk5, 1, 0, ns, by simp, by omega, by omega, hf, hnb, fun j hj => hnz j (by omega), hnA, hnz k (by omega), rfl, hp15, hp85, hws5⟩
      rintro env w6 ⟨hk6, i, a, ns', rfl, hi1, him, hf6, hnb6, hnz6, hnA6, hnk, hrn, hp16, hp86, hws6⟩
      by_cases hgoi : i < m.length
      · simp
        refine W_yes (by simp; omega) ?_
        have hgi : m[i]? = some m[i] := List.getElem?_eq_getElem hgoi
        have hdrop : m.drop i = m[i] :: m.drop (i + 1) := List.drop_eq_getElem_cons hgoi
        have hc255 := hm _ (List.getElem_mem hgoi)
        have hix := bs_idx hm hgi
        generalize m[i] = c at hgi hdrop hc255 hix
        have hcellk := hf6.cell hgo4
        have hka := hnb6 k hgo4
        rw [hnk] at hcellk hka
        have hgo4i : (k : Int) < 4 := by omega
        have hb98 : b9 ≠ b8 ∧ b9 ≠ b1 ∧ b9 ≠ g := by omega
        have e2 : IntKind.i64.wrap ((i : Int) + 1) = ((i + 1 : Nat) : Int) := i64w (by omega) (by omega)
        simp only [W_seq, W_skip]
        rw [W_block]
        simp only [W_seq, W_set]
        refine ok_intro (.int .u8 c) (by simp [hix, -idxStrV_string]) ?_
        rw [W_block]
        simp only [W_seq, W_set]
        by_cases hd : 48 ≤ c ∧ c ≤ 57
        · have h1 : (48 : Int) ≤ c := by omega
          have h2 : (c : Int) ≤ 57 := by omega
          refine ok_intro (.bool true) (by simp [h1, h2]) ?_
          refine W_yes (by simp) ?_
          obtain ⟨w7, hst, hf7, ho7, hk7⟩ := hf6.put (x := (a * 16 + (c - 48)) % 65536) hgo4
          have m0 : IntKind.u8.wrap ((c : Int) - 48) = (c : Int) - 48 := u8w (by omega) (by omega)
          have m1 : IntKind.u16.wrap ((c : Int) - 48) = (c : Int) - 48 := u16w (by omega) (by omega)
          have m2 : IntKind.u16.wrap (IntKind.u16.wrap ((a : Int) * 16) + ((c : Int) - 48)) = (((a * 16 + (c - 48)) % 65536 : Nat) : Int) := by rw [IntKind.wrap_u16, IntKind.wrap_u16]; omega
          refine W_store (xv := .pointer (some ⟨b9, k, none⟩)) (vv := .int .u16 (((a * 16 + (c - 48)) % 65536 : Nat) : Int)) ?_ ?_ hst (stab_nil _ _ _) ?_
          · simp; omega
          · simp [hgo4, hgo4i, hcellk, m0, m1, m2, -Int.natCast_emod]
          simp [e2]
          have hstep : refNum a (c :: m.drop (i + 1)) = refNum ((a * 16 + (c - 48)) % 65536) (m.drop (i + 1)) := by rw [refNum, if_pos hd]
          refine ⟨⟨hk7 w hk6 (by omega), i + 1, by omega, by omega, by omega, ((a * 16 + (c - 48)) % 65536), (fun j => if j = k then ((a * 16 + (c - 48)) % 65536) else ns' j), hf7, ?_, ?_, ?_, by simp, ?_, by rw [ho7 b1 (by omega)]; exact hp16, by rw [ho7 b8 (by omega)]; exact hp86, fun j mm hj => ?_⟩, by simp [natAt]; omega⟩
          · intro j hj
            show (if j = k then _ else _) < 65536
            split
            · omega
            · exact hnb6 j hj
          · intro j hj
            show (if j = k then _ else _) = 0
            rw [if_neg (by omega)]; exact hnz6 j hj
          · intro r hr ht j hj
            show (if j = k then _ else _) = _
            rw [if_neg (by omega)]; simpa using hnA6 r hr ht j hj
          · rw [← List.drop_one, hrn, hdrop]; exact hstep
          · have := hws6 j mm hj
            unfold wcell at this ⊢
            rw [ho7 g (by omega)]; exact this
        · refine ok_intro (.bool false) ?_ ?_
          · simp; omega
          refine W_no (by simp) ?_
          simp only [W_seq, W_set]
          by_cases hd2 : 97 ≤ c ∧ c ≤ 102
          · have h1 : (97 : Int) ≤ c := by omega
            have h2 : (c : Int) ≤ 102 := by omega
            refine ok_intro (.bool true) (by simp [h1, h2]) ?_
            refine W_yes (by simp) ?_
            obtain ⟨w7, hst, hf7, ho7, hk7⟩ := hf6.put (x := (a * 16 + (c - 97) + 10) % 65536) hgo4
            have m0 : IntKind.u8.wrap ((c : Int) - 97) = (c : Int) - 97 := u8w (by omega) (by omega)
            have m1 : IntKind.u16.wrap ((c : Int) - 97) = (c : Int) - 97 := u16w (by omega) (by omega)
            have m2 : IntKind.u16.wrap (IntKind.u16.wrap (IntKind.u16.wrap ((a : Int) * 16) + ((c : Int) - 97)) + 10) = (((a * 16 + (c - 97) + 10) % 65536 : Nat) : Int) := by rw [IntKind.wrap_u16, IntKind.wrap_u16, IntKind.wrap_u16]; omega
            refine W_store (xv := .pointer (some ⟨b9, k, none⟩)) (vv := .int .u16 (((a * 16 + (c - 97) + 10) % 65536 : Nat) : Int)) ?_ ?_ hst (stab_nil _ _ _) ?_
            · simp; omega
            · simp [hgo4, hgo4i, hcellk, m0, m1, m2, -Int.natCast_emod]
            simp [e2]
            have hstep : refNum a (c :: m.drop (i + 1)) = refNum ((a * 16 + (c - 97) + 10) % 65536) (m.drop (i + 1)) := by rw [refNum, if_neg hd, if_pos hd2]
            refine ⟨⟨hk7 w hk6 (by omega), i + 1, by omega, by omega, by omega, ((a * 16 + (c - 97) + 10) % 65536), (fun j => if j = k then ((a * 16 + (c - 97) + 10) % 65536) else ns' j), hf7, ?_, ?_, ?_, by simp, ?_, by rw [ho7 b1 (by omega)]; exact hp16, by rw [ho7 b8 (by omega)]; exact hp86, fun j mm hj => ?_⟩, by simp [natAt]; omega⟩
            · intro j hj
              show (if j = k then _ else _) < 65536
              split
              · omega
              · exact hnb6 j hj
            · intro j hj
              show (if j = k then _ else _) = 0
              rw [if_neg (by omega)]; exact hnz6 j hj
            · intro r hr ht j hj
              show (if j = k then _ else _) = _
              rw [if_neg (by omega)]; simpa using hnA6 r hr ht j hj
            · rw [← List.drop_one, hrn, hdrop]; exact hstep
            · have := hws6 j mm hj
              unfold wcell at this ⊢
              rw [ho7 g (by omega)]; exact this
          · refine ok_intro (.bool false) ?_ ?_
            · simp; omega
            refine W_no (by simp) ?_
            have hnone : parseF l = none := parseF_none fun r hr ht => by
              obtain ⟨n, hn, _, rfl⟩ := hmA r hr ht
              have h1 : refNum 0 (hexL n) = some n := refNum_hexL hn
              have h2 : refNum 0 ((word k n).drop 1) = none := by rw [hrn, hdrop, refNum, if_neg hd, if_neg hd2]
              have h3 : (word k n).drop 1 = hexL n := rfl
              rw [h3, h1] at h2; cases h2
            obtain ⟨w7, hs, hk7, hb⟩ := hbad _ hk6 hp16
            simp only [W_seq]
            refine W_store (xv := .pointer (some ⟨b1, 0, none⟩)) (vv := Rt.zero.val) (by simp) (by simp [hza]) hs (stab_nil _ _ _) ?_
            simp [wrow_box hb, hnone, refV, Rt.val]
            exact hk7
      · have hie : i = m.length := by omega
        subst hie
        have e2 : IntKind.i64.wrap ((k : Int) + 1) = ((k + 1 : Nat) : Int) := i64w (by omega) (by omega)
        simp
        refine W_no (by simp) ?_
        simp [e2]
        refine ⟨⟨hk6, k + 1, by omega, by omega, ns', hf6, hnb6, fun j hj => hnz6 j (by omega), ?_, hp16, hp86, hws6⟩, by simp [natAt]; omega⟩
        intro r hr ht j hj
        by_cases hjk : j = k
        · subst hjk
          obtain ⟨n, hn, hnn, rfl⟩ := hmA r hr ht
          have h1 : refNum 0 (hexL n) = some n := refNum_hexL hn
          have h3 : (word j n).drop 1 = hexL n := rfl
          rw [List.drop_length, h3, h1] at hrn
          simp only [refNum, Option.some.injEq] at hrn
          simp only [← List.getD_eq_getElem?_getD]
          omega
        · have := hnA6 r hr ht j (by omega)
          simpa using this
    · have hk4 : k = 4 := by omega
      subst hk4
      simp
      refine W_no (by simp) ?_
      simp
      have q0 := hf.cell (k := 0) (by omega); have q1 := hf.cell (k := 1) (by omega); have q2 := hf.cell (k := 2) (by omega); have q3 := hf.cell (k := 3) (by omega)
      have hR0 : ∃ R0 : Rt, R0 = ⟨ns 0, ns 1, ns 2, ns 3, false, false⟩ := ⟨_, rfl⟩
      obtain ⟨R0, hR0⟩ := hR0
      have hR0v : R0.val = .agg #[.int .u16 (ns 0 : Nat), .int .u16 (ns 1 : Nat), .int .u16 (ns 2 : Nat), .int .u16 (ns 3 : Nat), .bool false, .bool false] := by rw [hR0]; rfl
      refine ok_intro [R0.val] (by rw [q0, q1, q2, q3, hR0v]; rfl) ?_
      obtain ⟨w6, hs6, hk6, hp86, ho6, _⟩ := rt_box (w0 := w) hk5 hp85 (by omega) R0
      refine W_store (xv := .pointer (some ⟨b8, 0, none⟩)) (vv := R0.val) (by simp) ?_ hs6 (stab_nil _ _ _) ?_
      · simp [q0, q1, q2, q3, hR0v]
        rw [hR0]; rfl
      have hp16 : w6.heap[b1]? = some (.cells Rt.zero.arr 24 (0, 0)) := by rw [ho6 b1 (by omega)]; exact hp15
      have hws6 : StrsAt w6 g 0 ws := fun j mm hj => by
        have := hws5 j mm hj
        unfold wcell at this ⊢
        rw [ho6 g (by omega)]; exact this
      simp
      refine W_loop (fun env w' => Kept none' w w' ∧ ∃ (k : Nat) (V S : Bool), env = [.string (bs l), .pointer (some ⟨b1, 0, none⟩), undef, .slice (some ⟨g, 0, none⟩) ws.length cap, undef, undef, undef, undef, .pointer (some ⟨b8, 0, none⟩), undef, undef, undef, undef, undef, undef, undef, .int .i64 (k : Nat), undef] ∧ 4 ≤ k ∧ k ≤ ws.length ∧ V = decide (privL ∈ (ws.take k).drop 4) ∧ S = decide (sgnL ∈ (ws.take k).drop 4) ∧
        w'.heap[b1]? = some (.cells Rt.zero.arr 24 (0, 0)) ∧ w'.heap[b8]? = some (.cells { R0 with v := V, s := S }.arr 24 (0, 0)) ∧ StrsAt w' g 0 ws) (fun env _ => ws.length - natAt env 16) ?_ ?_
      · refine ⟨hk6, 4, false, false, by simp, by omega, by omega, ?_, ?_, hp16, ?_, hws6⟩
        · simp
        · simp
        · rw [hp86, hR0]
      rintro env w7 ⟨hk7, k, V, S, rfl, hk4, hkw, hV, hS, hp17, hp87, hws7⟩
      by_cases hgo7 : k < ws.length
      · simp
        refine W_yes (by simp; omega) ?_
        have hget : ws[k]? = some ws[k] := List.getElem?_eq_getElem hgo7
        have hm := hoct _ (List.getElem_mem hgo7)
        have hcell := hws7 k _ hget
        rw [Nat.zero_add] at hcell
        have htake : (ws.take (k + 1)).drop 4 = (ws.take k).drop 4 ++ [ws[k]] := by
          rw [List.take_add_one, hget, List.drop_append_of_le_length (by simp; omega)]; rfl
        generalize ws[k] = m at hget hm hcell htake
        have hPe : strBin .eql (bs m) ⟨#[112, 114, 105, 118, 105, 108, 101, 103, 101, 100]⟩ = some (.bool (decide (m = privL))) := bs_eql (l := privL) hm (by show ∀ x ∈ privL, x ≤ 255; decide)
        have hSe : strBin .eql (bs m) ⟨#[115, 105, 103, 110, 101, 100]⟩ = some (.bool (decide (m = sgnL))) := bs_eql (l := sgnL) hm (by show ∀ x ∈ sgnL, x ≤ 255; decide)
        have hV' : (V || decide (m = privL)) = decide (privL ∈ (ws.take (k + 1)).drop 4) := by rw [htake, hV]; by_cases h1 : m = privL <;> simp [h1, eq_comm]
        have hS' : (S || decide (m = sgnL)) = decide (sgnL ∈ (ws.take (k + 1)).drop 4) := by rw [htake, hS]; by_cases h1 : m = sgnL <;> simp [h1, eq_comm]
        have hkil : (k : Int) < ws.length := by omega
        have hk0 : ¬ (k : Int) < 0 := by omega
        have e2 : IntKind.i64.wrap ((k : Int) + 1) = ((k + 1 : Nat) : Int) := i64w (by omega) (by omega)
        have l4 : wcell w7 b8 4 = some (.bool V) := by rw [wcell_of hp87]; rfl
        simp only [W_seq, W_skip]
        rw [W_block]
        simp only [W_seq]
        refine W_chkIn [.bool (V || decide (m = privL)), .bool (!V && decide (m = privL))] (by cases V <;> simp [l4, hgo7, hkil, hcell, hPe]) ?_
        obtain ⟨⟨w8, hs8, hk8, hp88, ho8⟩, _⟩ := rt_flag (w0 := w) hk7 hp87 (by omega) (V || decide (m = privL))
        refine W_store (xv := .pointer (some ⟨b8, 4, none⟩)) (vv := .bool (V || decide (m = privL))) (by simp) (by cases V <;> simp [l4, hgo7, hkil, hcell, hPe]) hs8 (stab_nil _ _ _) ?_
        have hcell8 : wcell w8 g k = some (.string (bs m)) := by
          unfold wcell at hcell ⊢
          rw [ho8 g (by omega)]; exact hcell
        have l5 : wcell w8 b8 5 = some (.bool S) := by rw [wcell_of hp88]; rfl
        simp only [W_seq]
        refine W_chkIn [.bool (S || decide (m = sgnL)), .bool (!S && decide (m = sgnL))] (by cases S <;> simp [l5, hgo7, hkil, hcell8, hSe]) ?_
        obtain ⟨_, ⟨w9, hs9, hk9, hp89, ho9⟩⟩ := rt_flag (w0 := w) hk8 hp88 (by omega) (S || decide (m = sgnL))
        refine W_store (xv := .pointer (some ⟨b8, 5, none⟩)) (vv := .bool (S || decide (m = sgnL))) (by simp) (by cases S <;> simp [l5, hgo7, hkil, hcell8, hSe]) hs9 (stab_nil _ _ _) ?_
        simp [e2]
        refine ⟨⟨hk9, k + 1, by omega, by omega, by omega, ?_, ?_, ?_⟩, by simp [natAt]; omega⟩
        · rw [ho9 b1 (by omega), ho8 b1 (by omega)]; exact hp17
        · rw [hp89]
          rw [← hV', ← hS']
        · intro j mm hj
          have := hws7 j mm hj
          unfold wcell at this ⊢
          rw [ho9 g (by omega), ho8 g (by omega)]; exact this
      · have hkk : k = ws.length := by omega
        subst hkk
        rw [List.take_length] at hV hS
        simp
        refine W_no (by simp) ?_
        simp only [W_seq, W_exit, Wx_exit_c, Wx_exit_post, Wx_exit_blk, if_true, W_set]
        obtain ⟨R, hR⟩ : ∃ R : Rt, R = { R0 with v := V, s := S } := ⟨_, rfl⟩
        rw [← hR] at hp87
        have hwf : R.wf := by rw [hR, hR0]; exact ⟨hnb 0 (by omega), hnb 1 (by omega), hnb 2 (by omega), hnb 3 (by omega)⟩
        have hRA : ∀ r : Rt, r.wf → textL r = l → R = r := fun r hr ht => by
          have h := hA r hr ht
          have n0 := hnA r hr ht 0 (by omega); have n1 := hnA r hr ht 1 (by omega); have n2 := hnA r hr ht 2 (by omega); have n3 := hnA r hr ht 3 (by omega)
          obtain ⟨c, p, mm, h', v, s⟩ := r
          have hd := rtOf_words ⟨c, p, mm, h', v, s⟩ hr
          rw [h] at hV hS
          have hvs : V = v ∧ S = s := by
            rw [hV, hS]
            unfold wordsL
            cases v <;> cases s <;> simp [privL, sgnL]
          rw [hR, hR0, hvs.1, hvs.2]
          simp only [Rt.nums] at n0 n1 n2 n3
          rw [n0, n1, n2, n3]; rfl
        refine W_calm (by simp [wrow_box hp87]) (refText_ret R w7 hwf) ?_
        intro w8 hk8
        have hp88 := hk8.has hp87 (fun h => h)
        have hp18 := hk8.has hp17 (fun h => h)
        have hk78 := hk7.trans hk8
        have hto := textL_oct R hwf
        by_cases hte : textL R = l
        · have hne' : strBin .neq (bs l) (bs l) = some (.bool false) := by simpa using bs_neq hl hl
          have hsome : parseF l = some R := by rw [← hte]; exact parseF_text R hwf
          refine W_no (by simp [hte, hne']) ?_
          obtain ⟨w9, hs9, hk9, hb9', _, _⟩ := rt_box hk78 hp18 hbb R
          simp only [W_seq, W_skip]
          refine W_store (xv := .pointer (some ⟨b1, 0, none⟩)) (vv := R.val) (by simp) (by simp [wrow_box hp88, Rt.val]) hs9 (stab_nil _ _ _) ?_
          simp [wrow_box hb9', hsome, refV, Rt.val]
          exact hk9
        · have hne := bs_neq hto hl
          have hnone : parseF l = none := parseF_none fun r hr ht => hte (by rw [hRA r hr ht]; exact ht)
          refine W_yes (by simp [hne, hte]) ?_
          obtain ⟨w9, hs, hk9, hb⟩ := hbad _ hk78 hp18
          simp only [W_seq]
          refine W_store (xv := .pointer (some ⟨b1, 0, none⟩)) (vv := Rt.zero.val) (by simp) (by simp [hza]) hs (stab_nil _ _ _) ?_
          simp [wrow_box hb, hnone, refV, Rt.val]
          exact hk9
end Go.Proofs.YtaaicadjoghbcaaDoor
