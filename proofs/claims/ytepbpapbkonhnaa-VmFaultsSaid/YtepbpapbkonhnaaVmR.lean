/- Layer 20: codes that grow; the walk of VmFaults. -/
import Derived.Test.YtepbpapbkonhnaaVmQ
set_option linter.unusedSimpArgs false
set_option linter.unusedVariables false
set_option maxRecDepth 8000
namespace Go.Proofs.Ytepbpapbkonhnaa
open Go.Eng

@[simp] theorem ins_setAll (x y : Ins) : setRow x.arr 0 y.arr.toList = y.arr := by rw [setRow_all (by simp)]
def codeCells (xs : List Ins) : List Value := xs.flatMap fun x => x.arr.toList
abbrev CRow (w : World) (v : Value) (xs : List Ins) : Prop := Row 55 5 w v xs.length (codeCells xs)
theorem codeCells_len (xs : List Ins) : (codeCells xs).length = xs.length * 5 := code_size xs
theorem codeCells_append (xs ys : List Ins) : codeCells (xs ++ ys) = codeCells xs ++ codeCells ys := List.flatMap_append
theorem code_append {w : World} {v : Value} {xs ys : List Ins} {sb c m : Nat} {fz : Nat × Nat} (h : CRow w v xs) (hs : xs.length + ys.length ≤ 1000000) (hm : m = ys.length) (hb : w.heap[sb]? = some (.cells (codeArr ys) 55 fz)) :
    ∃ v' w', (builtin .append #[56, 56] 56 #[] #[v, .slice (some ⟨sb, 0, none⟩) m c]).run Try.prog w = .ok (.value v') w' ∧ CRow w' v' (xs ++ ys) ∧ Kept (fun j => v.ownBlock = some j) w w' ∧
      (v'.ownBlock = v.ownBlock ∨ v'.ownBlock = some w.heap.size) := by
  subst hm
  obtain ⟨v', w', h1, h2, h3, h4⟩ := row_append (P := Try.prog) (t := 56) (T := 55) (k := 5) (sb := sb) (so := 0) (c := c) (m := ys.length) (ys := codeCells ys) Try.underlying56 (by kernel_rfl) (by omega) h hs (codeCells_len ys)
    (fun j y hy => by
      rw [Nat.zero_add, wcell_of hb]
      show (ys.flatMap fun x => x.arr.toList).toArray[j]? = _
      rw [List.getElem?_toArray]; exact hy)
    (fun y hy => by
      obtain ⟨x, _, hx⟩ := List.mem_flatMap.1 hy
      have := ins_one x
      rw [Array.all_eq_true_iff_forall_mem] at this
      exact this y (Array.mem_toList_iff.1 hx))
  refine ⟨v', w', h1, ?_, h3, h4⟩
  show Row _ 5 w' v' (xs ++ ys).length (codeCells (xs ++ ys))
  rw [List.length_append, codeCells_append]
  exact h2
theorem code_of_row {w : World} {S : Nat → Prop} {v : Value} {xs : List Ins} (h : CRow w v xs) (h0 : 0 < xs.length) (hl : xs.length < 4611686018427387904) (hS : ∀ g, v.ownBlock = some g → ¬ S g) : Code w S v xs := by
  obtain ⟨g, cap, rfl, hc, ho, hcell⟩ := rowForm h h0
  refine ⟨g, 0, cap, rfl, hl, hS g ho, fun i x hx => ?_⟩
  have hi := (List.getElem?_eq_some_iff.1 hx).1
  have := wrow_list (w := w) (b := g) (off := 0 + i * 5) (r := x.arr.toList) (by simp) (fun j hj => by
    have hj' : j < 5 := by simpa using hj
    rw [Nat.zero_add, Array.getElem?_toList]
    have hlt : i * 5 + j < (codeCells xs).length := by rw [codeCells_len]; omega
    have e := code_get xs i j x hx hj'
    have e2 : (codeCells xs)[i * 5 + j]? = x.arr[j]? := e
    rw [← e2, List.getElem?_eq_getElem hlt]
    exact hcell _ _ (List.getElem?_eq_getElem hlt))
  simpa using this
theorem crow_nil (w : World) : CRow w (.slice none 0 0) [] := row_nil _ _ _

set_option maxHeartbeats 8000000 in
theorem faults_ret (n q : Int) (w : World) : Ret Try.prog 9 [.int .i64 n, .int .i64 q] w fun v w' => v = .bool true ∧ Kept none' w w' := by
  refine ret_of_W Try.func9 rfl nok_tipstafflaw20_VmFaults ?_
  obtain ⟨k, hk, ek⟩ := mod_k n 50 (by omega)
  obtain ⟨i, hi, ei⟩ := mod_k q 12 (by omega)
  have e1 : IntKind.i64.wrap (k : Int) = k := i64w (by omega) (by omega)
  have e2 : IntKind.i64.wrap (i : Int) = i := i64w (by omega) (by omega)
  simp only [nc_tipstafflaw20_VmFaults, Ins.zero]
  simp [ek, e1]
  refine W_loop (fun env w' => Kept none' w w' ∧ ∃ (j : Nat) (v : Value), env = [undef, .int .i64 q, undef, .int .i64 k, v, .int .i64 j, undef, undef, undef, undef, undef, undef, undef, undef, undef] ∧ j ≤ k ∧ CRow w' v (List.replicate j movIns) ∧ (∀ g, v.ownBlock = some g → w.heap.size ≤ g))
    (fun env _ => k - natAt env 5) ?_ ?_
  · exact ⟨Kept.refl _ _, 0, .slice none 0 0, by simp, by omega, crow_nil w, fun g hg => by cases hg⟩
  · rintro env w1 ⟨hk1, j, v, rfl, hj, hrow, hown⟩
    have hvv := rowVar hrow
    by_cases hjk : j < k
    · simp
      refine W_yes (by simp; omega) ?_
      simp [hvv]
      have hm : ({ op := 183, dst := 6, src := 0, off := 0, imm := 0 } : Ins) = movIns := rfl
      rw [hm]
      have h6 : (w1.alloc (.cells movIns.arr 55)).heap[w1.heap.size]? = some (.cells (codeArr [movIns]) 55 (0, 0)) := hp_new w1 _
      have hk2 : Kept none' w1 (w1.alloc (.cells movIns.arr 55)) := (Kept.refl _ _).alloc _
      have hrow2 : CRow (w1.alloc (.cells movIns.arr 55)) v (List.replicate j movIns) := rowCalm hrow hk2
      generalize w1.alloc (.cells movIns.arr 55) = w2 at h6 hk2 hrow2 ⊢
      obtain ⟨v', w3, hrun, hrow3, hk3, hown3⟩ := code_append (c := 1) (m := 1) hrow2 (by simp; omega) rfl h6
      refine W_bi (by simp [hvv]) hrun (stab_nil _ _ _) ?_
      have hvv' := rowVar hrow3
      have hk4 : Kept none' w w3 := (hk1.trans hk2).then hk3 (fun b hb hS => by have := hown b hS; omega)
      have hsz := (hk1.trans hk2).size
      have e5 : IntKind.i64.wrap ((j : Int) + 1) = ((j + 1 : Nat) : Int) := i64w (by omega) (by omega)
      have hrep : List.replicate j movIns ++ [movIns] = List.replicate (j + 1) movIns := by rw [List.replicate_succ']
      rw [hrep] at hrow3
      simp [hvv', e5]
      refine ⟨⟨hk4, j + 1, v', ⟨rfl, by omega⟩, by omega, hrow3, fun g hg => ?_⟩, ?_⟩
      · rcases hown3 with h | h
        · rw [h] at hg; exact hown g hg
        · rw [h] at hg; cases hg; omega
      · simp [natAt, e5]; omega
    · have : j = k := by omega
      subst this
      simp
      refine W_no (by simp) ?_
      have hb : wrow (w1.alloc (.cells (codeArr [{ op := 149, dst := 0, src := 0, off := 0, imm := 0 }, { op := 121, dst := 0, src := 6, off := 0, imm := 0 }, { op := 255, dst := 0, src := 0, off := 0, imm := 0 }, { op := 183, dst := 10, src := 0, off := 0, imm := 0 }, { op := 133, dst := 0, src := 0, off := 0, imm := 1 }, { op := 15, dst := 6, src := 9, off := 0, imm := 0 }, { op := 123, dst := 1, src := 6, off := 0, imm := 0 }, { op := 121, dst := 0, src := 10, off := -8, imm := 0 }, { op := 0, dst := 0, src := 0, off := 0, imm := 0 }, { op := 24, dst := 6, src := 1, off := 0, imm := 0 }, { op := 133, dst := 0, src := 0, off := 0, imm := 6 }, { op := 191, dst := 11, src := 6, off := 0, imm := 0 }]) 55)) w1.heap.size (i * 5) 5 = some (badIns i).arr := by
        have hi' : i = 0 ∨ i = 1 ∨ i = 2 ∨ i = 3 ∨ i = 4 ∨ i = 5 ∨ i = 6 ∨ i = 7 ∨ i = 8 ∨ i = 9 ∨ i = 10 ∨ i = 11 := by omega
        rw [wrow_of (hp_new w1 _) (by rw [codeArr_size]; simp; omega)]
        rcases hi' with rfl | rfl | rfl | rfl | rfl | rfl | rfl | rfl | rfl | rfl | rfl | rfl <;> rfl
      simp [hvv, ei, e2, show (i : Int) < 12 by omega, hb]
      have hk2 : Kept none' w1 (w1.alloc (.cells (codeArr [{ op := 149, dst := 0, src := 0, off := 0, imm := 0 }, { op := 121, dst := 0, src := 6, off := 0, imm := 0 }, { op := 255, dst := 0, src := 0, off := 0, imm := 0 }, { op := 183, dst := 10, src := 0, off := 0, imm := 0 }, { op := 133, dst := 0, src := 0, off := 0, imm := 1 }, { op := 15, dst := 6, src := 9, off := 0, imm := 0 }, { op := 123, dst := 1, src := 6, off := 0, imm := 0 }, { op := 121, dst := 0, src := 10, off := -8, imm := 0 }, { op := 0, dst := 0, src := 0, off := 0, imm := 0 }, { op := 24, dst := 6, src := 1, off := 0, imm := 0 }, { op := 133, dst := 0, src := 0, off := 0, imm := 6 }, { op := 191, dst := 11, src := 6, off := 0, imm := 0 }]) 55)) := (Kept.refl _ _).alloc _
      have hs2 : (w1.alloc (.cells (codeArr [{ op := 149, dst := 0, src := 0, off := 0, imm := 0 }, { op := 121, dst := 0, src := 6, off := 0, imm := 0 }, { op := 255, dst := 0, src := 0, off := 0, imm := 0 }, { op := 183, dst := 10, src := 0, off := 0, imm := 0 }, { op := 133, dst := 0, src := 0, off := 0, imm := 1 }, { op := 15, dst := 6, src := 9, off := 0, imm := 0 }, { op := 123, dst := 1, src := 6, off := 0, imm := 0 }, { op := 121, dst := 0, src := 10, off := -8, imm := 0 }, { op := 0, dst := 0, src := 0, off := 0, imm := 0 }, { op := 24, dst := 6, src := 1, off := 0, imm := 0 }, { op := 133, dst := 0, src := 0, off := 0, imm := 6 }, { op := 191, dst := 11, src := 6, off := 0, imm := 0 }]) 55)).heap.size = w1.heap.size + 1 := by simp
      generalize w1.alloc (.cells (codeArr [{ op := 149, dst := 0, src := 0, off := 0, imm := 0 }, { op := 121, dst := 0, src := 6, off := 0, imm := 0 }, { op := 255, dst := 0, src := 0, off := 0, imm := 0 }, { op := 183, dst := 10, src := 0, off := 0, imm := 0 }, { op := 133, dst := 0, src := 0, off := 0, imm := 1 }, { op := 15, dst := 6, src := 9, off := 0, imm := 0 }, { op := 123, dst := 1, src := 6, off := 0, imm := 0 }, { op := 121, dst := 0, src := 10, off := -8, imm := 0 }, { op := 0, dst := 0, src := 0, off := 0, imm := 0 }, { op := 24, dst := 6, src := 1, off := 0, imm := 0 }, { op := 133, dst := 0, src := 0, off := 0, imm := 6 }, { op := 191, dst := 11, src := 6, off := 0, imm := 0 }]) 55) = w2 at hk2 hs2 ⊢
      have hz : ({ op := 0, dst := 0, src := 0, off := 0, imm := 0 } : Ins) = Ins.zero := rfl
      rw [hz]
      have h10 : (w2.alloc (.cells (codeArr [badIns i, Ins.zero]) 55)).heap[w1.heap.size + 1]? = some (.cells (codeArr [badIns i, Ins.zero]) 55 (0, 0)) := hs2 ▸ hp_new w2 _
      have hk3 : Kept none' w1 (w2.alloc (.cells (codeArr [badIns i, Ins.zero]) 55)) := hk2.alloc _
      generalize w2.alloc (.cells (codeArr [badIns i, Ins.zero]) 55) = w3 at h10 hk3 ⊢
      obtain ⟨v', w4, hrun, hrow4, hk4, hown4⟩ := code_append (c := 2) (m := 2) (rowCalm hrow hk3) (by simp; omega) rfl h10
      refine W_bi (by simp [hvv]) hrun (stab_nil _ _ _) ?_
      have hvv' := rowVar hrow4
      have hk5 : Kept none' w w4 := (hk1.trans hk3).then hk4 (fun b hb hS => by have := hown b hS; omega)
      have hcode : Code w4 (fun i => w4.heap.size ≤ i) v' (faultCode j i) := code_of_row hrow4 (by simp [faultCode]) (by simp [faultCode]; omega) (fun g hg => by have := rowLt hrow4 hg; omega)
      simp [hvv']
      have hok : codeOkB (faultCode j i) = true := by
        unfold codeOkB faultCode
        rw [List.all_append, Bool.and_eq_true]
        refine ⟨?_, ?_⟩
        · rw [List.all_eq_true]
          intro x hx
          obtain rfl := (List.mem_replicate.1 hx).2
          kernel_rfl
        · have hi' : i = 0 ∨ i = 1 ∨ i = 2 ∨ i = 3 ∨ i = 4 ∨ i = 5 ∨ i = 6 ∨ i = 7 ∨ i = 8 ∨ i = 9 ∨ i = 10 ∨ i = 11 := by omega
          rcases hi' with rfl | rfl | rfl | rfl | rfl | rfl | rfl | rfl | rfl | rfl | rfl | rfl <;> (show _ = _) <;> kernel_rfl
      refine W_call0 (by simp [hvv']) (run_law hcode hok (luck_none _ _) (fun _ => by omega) (by omega) (fun _ h => by cases h) (by omega) (fault_a j i (by omega) (by omega))) ?_
      rintro r w5 ⟨rfl, hk6⟩
      have g13 := hp_new w5 (.cells (Res 0 0 0 0) 58)
      have hk7 : Kept none' w (w5.alloc (.cells (Res 0 0 0 0) 58)) := (hk5.trans hk6).alloc _
      have hsz := (hk5.trans hk6).size
      simp
      generalize w5.alloc (.cells (Res 0 0 0 0) 58) = w6 at g13 hk7 ⊢
      refine W_store (by simp) (by simp) (res_box 0 j j 14 g13 rfl) (stab_nil _ _ _) ?_
      have g131 := put_same (o := .cells (Res 0 j j 14) 58) (blk_lt g13)
      have hk8 := hk7.putNew hsz (.cells (Res 0 j j 14) 58)
      generalize put w6 _ _ = w7 at g131 hk8 ⊢
      simp
      refine W_call0 (by simp) (runs_ret w7) ?_
      rintro r w8 ⟨rfl, hk9⟩
      have g132 := hk9.has g131 (fun h => h)
      simp [res_row g132]
      exact hk8.trans hk9
end Go.Proofs.Ytepbpapbkonhnaa
