/- Layer 20: the walks of VmPlaces and VmAtomic. -/
import Derived.Test.YtepbpapbkonhnaaVmP
set_option linter.unusedSimpArgs false
set_option linter.unusedVariables false
set_option maxRecDepth 8000
namespace Go.Proofs.Ytepbpapbkonhnaa
open Go.Eng

theorem tmod_1000 (a : Int) : -1000 < a.tmod 1000 ∧ a.tmod 1000 < 1000 := ⟨Int.lt_tmod_of_pos a (by omega), Int.tmod_lt_of_pos a (by omega)⟩

set_option maxHeartbeats 4000000 in
theorem places_ret (a b n : Int) (w : World) : Ret Try.prog 8 [.agg #[.int .i32 a, .int .i32 b], .int .i32 n] w fun v w' => v = .bool true ∧ Kept none' w w' := by
  refine ret_of_W Try.func8 rfl nok_tipstafflaw20_VmPlaces ?_
  have ha := tmod_1000 a
  have hb := tmod_1000 b
  have h3 := hp_new w (.cells #[.int .i32 a, .int .i32 b] 67)
  have hk0 : Kept none' w (w.alloc (.cells #[.int .i32 a, .int .i32 b] 67)).drew := ((Kept.refl _ _).alloc _).drew
  have c0 : wcell (w.alloc (.cells #[.int .i32 a, .int .i32 b] 67)).drew w.heap.size 0 = some (.int .i32 a) := by rw [wcell_drew, wcell_of h3]; rfl
  have c1 : wcell (w.alloc (.cells #[.int .i32 a, .int .i32 b] 67)).drew w.heap.size 1 = some (.int .i32 b) := by rw [wcell_drew, wcell_of h3]; rfl
  simp only [nc_tipstafflaw20_VmPlaces, W_seq]
  refine W_new' (v := .agg #[.int .i32 a, .int .i32 b]) (cs := #[.int .i32 a, .int .i32 b]) (by simp) rfl ?_
  simp only [W_seq, W_set]
  refine ok_intro (.bool false) (by simp) ?_
  simp only [W_draw]
  have hsz0 := hk0.size
  generalize (w.alloc (.cells #[.int .i32 a, .int .i32 b] 67)).drew = w1 at c0 c1 hk0 hsz0 ⊢
  simp [c0, c1]
  generalize a.tmod 1000 = A at *
  generalize b.tmod 1000 = B at *
  have e1 : IntKind.i32.wrap (B - A) = B - A := by rw [IntKind.wrap_i32]; omega
  have e2 : IntKind.i32.wrap (B - A - 8) = B - A - 8 := by rw [IntKind.wrap_i32]; omega
  simp [Ins.zero, e1, e2]
  have hc : [({ op := 191, dst := 6, src := 10, off := 0, imm := 0 } : Ins), { op := 7, dst := 6, src := 0, off := 0, imm := A }, { op := 23, dst := 6, src := 0, off := 0, imm := B }, { op := 7, dst := 6, src := 0, off := 0, imm := B - A - 8 }, { op := 122, dst := 6, src := 0, off := 0, imm := n },
    { op := 121, dst := 0, src := 10, off := -8, imm := 0 }, { op := 121, dst := 7, src := 6, off := 0, imm := 0 }, { op := 93, dst := 0, src := 7, off := 1, imm := 0 }, { op := 149, dst := 0, src := 0, off := 0, imm := 0 }, { op := 5, dst := 0, src := 0, off := -1, imm := 0 }] = placeCode A B (B - A - 8) n := rfl
  rw [hc]
  have h6 := hp_new w1 (.cells (codeArr (placeCode A B (B - A - 8) n)) 55)
  have hk1 : Kept none' w (w1.alloc (.cells (codeArr (placeCode A B (B - A - 8) n)) 55)) := hk0.alloc _
  generalize w1.alloc (.cells (codeArr (placeCode A B (B - A - 8) n)) 55) = w2 at h6 hk1 ⊢
  refine W_call0 (by simp) (run_plain (n' := 10) (c := 10) h6 rfl (by simp [placeCode]) (by kernel_rfl) (by omega) (place_a A B (B - A - 8) n ha hb rfl)) ?_
  rintro r w3 ⟨rfl, hk2⟩
  have g9 := hp_new w3 (.cells (Res 0 0 0 0) 58)
  have hk3 : Kept none' w (w3.alloc (.cells (Res 0 0 0 0) 58)) := (hk1.trans hk2).alloc _
  have hsz := (hk1.trans hk2).size
  simp
  generalize w3.alloc (.cells (Res 0 0 0 0) 58) = w4 at g9 hk3 ⊢
  refine W_store (by simp) (by simp) (res_box (IntKind.u64.wrap (IntKind.i64.wrap n)) 8 9 0 g9 rfl) (stab_nil _ _ _) ?_
  have g91 := put_same (o := .cells (Res (IntKind.u64.wrap (IntKind.i64.wrap n)) 8 9 0) 58) (blk_lt g9)
  have hk4 := hk3.putNew hsz (.cells (Res (IntKind.u64.wrap (IntKind.i64.wrap n)) 8 9 0) 58)
  generalize put w4 _ _ = w5 at g91 hk4 ⊢
  simp
  refine W_call0 (by simp) (runs_ret w5) ?_
  rintro r w6 ⟨rfl, hk5⟩
  have g92 := hk5.has g91 (fun h => h)
  simp [res_row g92]
  exact hk4.trans hk5

set_option maxHeartbeats 4000000 in
theorem atomic_law (a b q : Int) (w : World) : Ret Try.prog 7 [.agg #[.int .i32 a, .int .i32 b], .int .i64 q] w fun v w' => v = .bool true ∧ Kept none' w w' := by
  refine ret_of_W Try.func7 rfl nok_tipstafflaw20_VmAtomic ?_
  obtain ⟨k, hk, ek⟩ := mod_k q 4 (by omega)
  have h3 := hp_new w (.cells #[.int .i32 a, .int .i32 b] 67)
  have hk0 : Kept none' w (w.alloc (.cells #[.int .i32 a, .int .i32 b] 67)) := (Kept.refl _ _).alloc _
  simp only [nc_tipstafflaw20_VmAtomic, W_seq]
  refine W_new' (v := .agg #[.int .i32 a, .int .i32 b]) (cs := #[.int .i32 a, .int .i32 b]) (by simp) rfl ?_
  have hsz0 := hk0.size
  generalize w.alloc (.cells #[.int .i32 a, .int .i32 b] 67) = w1 at h3 hk0 hsz0 ⊢
  have e1 : IntKind.i64.wrap (k : Int) = k := i64w (by omega) (by omega)
  have rep : (Array.replicate 4 (Value.int .i32 0)) = #[.int .i32 0, .int .i32 0, .int .i32 0, .int .i32 0] := rfl
  simp only [W_seq, W_set]
  refine ok_intro (.bool false) (by simp) ?_
  refine ok_intro (.int .i64 k) (by simp [ek, e1]) ?_
  have h5 := hp_new w1 (.cells #[.int .i32 0, .int .i32 64, .int .i32 80, .int .i32 160] 21)
  have h31 := hp_old h3 (.cells #[.int .i32 0, .int .i32 64, .int .i32 80, .int .i32 160] 21)
  have hk1 : Kept none' w (w1.alloc (.cells #[.int .i32 0, .int .i32 64, .int .i32 80, .int .i32 160] 21)) := hk0.alloc _
  refine W_row' (v := .agg #[.int .i32 0, .int .i32 64, .int .i32 80, .int .i32 160]) (cs := #[.int .i32 0, .int .i32 64, .int .i32 80, .int .i32 160]) (by simp [rep]) rfl ?_
  have hsz1 := hk1.size
  generalize w1.alloc (.cells #[.int .i32 0, .int .i32 64, .int .i32 80, .int .i32 160] 21) = w2 at h5 h31 hk1 hsz1 ⊢
  generalize w1.heap.size = p5 at *
  obtain ⟨im, z, him, hz, hzs⟩ : ∃ im z : Int, (#[Value.int .i32 0, .int .i32 64, .int .i32 80, .int .i32 160])[k]? = some (.int .i32 im) ∧ atomN im (IntKind.u64.wrap (IntKind.i64.wrap a)) (IntKind.u64.wrap (IntKind.i64.wrap b)) = some z ∧
      (#[Value.int .u64 (IntKind.u64.wrap (IntKind.u64.wrap (IntKind.i64.wrap a) + IntKind.u64.wrap (IntKind.i64.wrap b))), .int .u64 (bitOr .u64 (IntKind.u64.wrap (IntKind.i64.wrap a)) (IntKind.u64.wrap (IntKind.i64.wrap b))),
        .int .u64 (bitAnd .u64 (IntKind.u64.wrap (IntKind.i64.wrap a)) (IntKind.u64.wrap (IntKind.i64.wrap b))), .int .u64 (bitXor .u64 (IntKind.u64.wrap (IntKind.i64.wrap a)) (IntKind.u64.wrap (IntKind.i64.wrap b)))])[k]? = some (.int .u64 z) := by
    have : k = 0 ∨ k = 1 ∨ k = 2 ∨ k = 3 := by omega
    rcases this with rfl | rfl | rfl | rfl <;> exact ⟨_, _, rfl, rfl, rfl⟩
  simp only [W_set]
  refine ok_intro (.int .i32 im) (by simp [wcell_of h5, hk, him]) ?_
  have c0 : wcell w2 w.heap.size 0 = some (.int .i32 a) := by rw [wcell_of h31]; rfl
  have c1 : wcell w2 w.heap.size 1 = some (.int .i32 b) := by rw [wcell_of h31]; rfl
  simp [Ins.zero, c0, c1]
  have hc : [({ op := 122, dst := 10, src := 0, off := -8, imm := a } : Ins), { op := 122, dst := 10, src := 0, off := -16, imm := 5 }, { op := 183, dst := 6, src := 0, off := 0, imm := b }, { op := 219, dst := 10, src := 6, off := -8, imm := im },
    { op := 121, dst := 0, src := 10, off := -16, imm := 0 }, { op := 85, dst := 0, src := 0, off := 1, imm := 5 }, { op := 121, dst := 0, src := 10, off := -8, imm := 0 }, { op := 149, dst := 0, src := 0, off := 0, imm := 0 }] = atomCode a b im := rfl
  rw [hc]
  have h7 := hp_new w2 (.cells (codeArr (atomCode a b im)) 55)
  have h32 := hp_old h31 (.cells (codeArr (atomCode a b im)) 55)
  have hk2 : Kept none' w (w2.alloc (.cells (codeArr (atomCode a b im)) 55)) := hk1.alloc _
  generalize w2.alloc (.cells (codeArr (atomCode a b im)) 55) = w3 at h7 h32 hk2 ⊢
  refine W_call0 (by simp) (run_plain (n' := 8) (c := 8) h7 rfl (by simp [atomCode]) (by kernel_rfl) (by omega) (atom_a a b im z hz)) ?_
  rintro r w4 ⟨rfl, hk3⟩
  have g10 := hp_new w4 (.cells (Res 0 0 0 0) 58)
  have h33 := hp_old (hk3.has h32 (fun h => h)) (.cells (Res 0 0 0 0) 58)
  have hk4 : Kept none' w (w4.alloc (.cells (Res 0 0 0 0) 58)) := (hk2.trans hk3).alloc _
  have hsz := (hk2.trans hk3).size
  have hne : w.heap.size ≠ w4.heap.size := by have := blk_lt (hk3.has h32 (fun h => h)); omega
  simp
  generalize w4.alloc (.cells (Res 0 0 0 0) 58) = w5 at g10 h33 hk4 ⊢
  generalize w4.heap.size = p10 at *
  refine W_store (by simp) (by simp) (res_box z 7 8 0 g10 rfl) (stab_nil _ _ _) ?_
  have g101 : (put w5 p10 (.cells (Res z 7 8 0) 58 (0, 0))).drew.heap[p10]? = _ := put_same (o := .cells (Res z 7 8 0) 58) (blk_lt g10)
  have h34 : (put w5 p10 (.cells (Res z 7 8 0) 58 (0, 0))).drew.heap[w.heap.size]? = _ := (put_other hne).trans h33
  have hk5 : Kept none' w (put w5 p10 (.cells (Res z 7 8 0) 58 (0, 0))).drew := (hk4.putNew hsz _).drew
  simp only [W_seq, W_draw]
  generalize (put w5 p10 (.cells (Res z 7 8 0) 58 (0, 0))).drew = w6 at g101 h34 hk5 ⊢
  have c02 : wcell w6 w.heap.size 0 = some (.int .i32 a) := by rw [wcell_of h34]; rfl
  have c12 : wcell w6 w.heap.size 1 = some (.int .i32 b) := by rw [wcell_of h34]; rfl
  simp [c02, c12]
  refine W_call0 (by simp) (runs_ret w6.drew) ?_
  rintro r w7 ⟨rfl, hk6⟩
  have g102 := hk6.has (show w6.drew.heap[p10]? = _ from g101) (fun h => h)
  have hk7 : Kept none' w w7 := hk5.drew.trans hk6
  have d3 : wcell w7 p10 3 = some (.int .i64 0) := by rw [wcell_of g102]; rfl
  have d0 : wcell w7 p10 0 = some (.int .u64 z) := by rw [wcell_of g102]; rfl
  simp [d3, d0]
  refine W_yes (by simp) ?_
  simp [d3, d0]
  refine W_yes (by simp) ?_
  simp
  refine W_yes (by simp) ?_
  have rep4 : (Array.replicate 4 (Value.int .u64 0)) = #[.int .u64 0, .int .u64 0, .int .u64 0, .int .u64 0] := rfl
  simp [rep4, d0, hk, hzs]
  exact hk7.alloc _
end Go.Proofs.Ytepbpapbkonhnaa
