/- Layer 19, part P: calls on no memory. -/
import Derived.Test.YtihaopoehhnbkaaRegN
import Derived.Test.YtihaopoehhnbkaaCmdsStk
set_option linter.unusedSimpArgs false
set_option linter.unusedVariables false
set_option maxRecDepth 8000
namespace Go.Proofs.Ytihaopoehhnbkaa
open Go.Eng

theorem none_ret (w : World) : Ret Try.prog 19 [] w fun v w' => v = .pointer none ∧ w' = w := by
  refine ret_of_W Try.func19 rfl ok_tipstafflaw19_none ?_
  simp [c_tipstafflaw19_none]

theorem view_nil (a : RVal) (off n : Int) (w : World) : Ret Try.prog 39 [.pointer none, a.val, .int .i64 off, .int .i64 n] w
    fun v w' => Kept none' w w' ∧ v = .tuple #[.slice none 0 0, .int .i64 0, .bool false] := by
  refine ret_of_W Try.func39 rfl ok_region_Memory_view ?_
  simp [c_region_Memory_view]
  refine W_yes (by simp) ?_
  simp
  exact (Kept.refl _ _).alloc _

theorem load_nil (w : World) : Ret Try.prog 16 [.pointer none, RVal.zero.val, .int .i64 0, .int .i64 1] w
    fun v w' => Kept none' w w' ∧ v = .tuple #[RVal.zero.val, .int .i64 14] := by
  refine ret_of_W Try.func16 rfl ok_region_Memory_Load ?_
  have hz : (Value.agg #[.int .i64 0, .int .u64 0, .int .i64 0, .pointer none]) = RVal.zero.val := rfl
  simp only [c_region_Memory_Load, hz]
  have h6 := hp_new w (.cells RVal.zero.arr 29)
  have h4 := hp_new (w.alloc (.cells RVal.zero.arr 29)) (.cells RVal.zero.arr 29)
  have h6' := hp_old h6 (.cells RVal.zero.arr 29)
  have hk0 : Kept none' w ((w.alloc (.cells RVal.zero.arr 29)).alloc (.cells RVal.zero.arr 29)) := ((Kept.refl _ _).alloc _).alloc _
  rw [alloc_size] at h4
  simp
  generalize (w.alloc (.cells RVal.zero.arr 29)).alloc (.cells RVal.zero.arr 29) = w2 at h4 h6' hk0 ⊢
  refine W_call0 (by simp) (sized_ret 1 w2) ?_
  rintro v w3 ⟨rfl, rfl⟩
  simp
  refine W_no (by simp) ?_
  simp
  refine W_call0 (by simp [rval_row h6']) (view_nil RVal.zero 0 1 w3) ?_
  rintro v w4 ⟨hk1, rfl⟩
  have h4' := hk1.has h4 (fun h => h)
  simp
  refine W_yes (by simp) ?_
  simp
  refine W_store (by simp) (by simp) (store_val (v := RVal.zero) h4') (stab_nil _ _ _) ?_
  simp [rval_row (put_same (blk_lt h4'))]
  exact (hk0.trans hk1).put (fun h => absurd h (by omega)) _

theorem save_nil (w : World) : Ret Try.prog 15 [.pointer none, RVal.zero.val, .int .i64 0, .int .i64 1, RVal.zero.val] w
    fun v w' => Kept none' w w' ∧ v = .int .i64 14 := by
  refine ret_of_W Try.func15 rfl ok_region_Memory_Save ?_
  simp only [c_region_Memory_Save]
  have h7 := hp_new (w.alloc (.cells RVal.zero.arr 29)) (.cells RVal.zero.arr 29)
  have hk0 : Kept none' w ((w.alloc (.cells RVal.zero.arr 29)).alloc (.cells RVal.zero.arr 29)) := ((Kept.refl _ _).alloc _).alloc _
  rw [alloc_size] at h7
  simp
  generalize (w.alloc (.cells RVal.zero.arr 29)).alloc (.cells RVal.zero.arr 29) = w2 at h7 hk0 ⊢
  refine W_call0 (by simp) (sized_ret 1 w2) ?_
  rintro v w3 ⟨rfl, rfl⟩
  simp
  refine W_yes (by simp [wcell_of h7]; exact .inl (by decide)) ?_
  simp
  exact hk0

theorem bytes_nil (w : World) : Ret Try.prog 18 [.pointer none, RVal.zero.val, .int .i64 0] w
    fun v w' => Kept none' w w' ∧ v = .tuple #[.slice none 0 0, .int .i64 14] := by
  refine ret_of_W Try.func18 rfl ok_region_Memory_Bytes ?_
  simp only [c_region_Memory_Bytes]
  have h5 := hp_new w (.cells RVal.zero.arr 29)
  have hk0 : Kept none' w (w.alloc (.cells RVal.zero.arr 29)) := (Kept.refl _ _).alloc _
  simp
  generalize w.alloc (.cells RVal.zero.arr 29) = w2 at h5 hk0 ⊢
  refine W_call0 (by simp [rval_row h5]) (view_nil RVal.zero 0 0 w2) ?_
  rintro v w3 ⟨hk1, rfl⟩
  simp
  refine W_no (by simp) ?_
  simp
  refine W_no (by simp) ?_
  simp
  refine W_yes (by simp) ?_
  simp
  exact hk0.trans hk1

theorem fill_nil (w : World) : Ret Try.prog 20 [.pointer none, RVal.zero.val, .slice none 0 0] w
    fun v w' => Kept none' w w' ∧ v = .int .i64 14 := by
  refine ret_of_W Try.func20 rfl ok_region_Memory_Fill ?_
  simp only [c_region_Memory_Fill]
  have h5 := hp_new w (.cells RVal.zero.arr 29)
  have hk0 : Kept none' w (w.alloc (.cells RVal.zero.arr 29)) := (Kept.refl _ _).alloc _
  simp
  generalize w.alloc (.cells RVal.zero.arr 29) = w2 at h5 hk0 ⊢
  refine W_call0 (by simp [rval_row h5]) (view_nil RVal.zero 0 0 w2) ?_
  rintro v w3 ⟨hk1, rfl⟩
  simp
  refine W_no (by simp) ?_
  simp
  refine W_yes (by simp) ?_
  simp
  exact hk0.trans hk1

theorem map_nil (w : World) : Ret Try.prog 21 [.pointer none, .int .i64 0] w fun v w' => v = .pointer none ∧ w' = w := by
  refine ret_of_W Try.func21 rfl ok_region_Memory_Map ?_
  simp [c_region_Memory_Map]
  refine W_yes (by simp) ?_
  simp
end Go.Proofs.Ytihaopoehhnbkaa
