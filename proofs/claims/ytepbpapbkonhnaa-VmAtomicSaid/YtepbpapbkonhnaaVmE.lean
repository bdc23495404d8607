/- Layer 19: Load and Save for every value that isn't a cell's place. -/
import Derived.Test.YtepbpapbkonhnaaVmC
set_option linter.unusedSimpArgs false
set_option linter.unusedVariables false
set_option maxRecDepth 8000
namespace Go.Proofs.Ytepbpapbkonhnaa
open Go.Eng

theorem bytes_none (b : Nat) (a : RVal) (w : World) (h2 : a.tag ≠ 2) (h3 : a.tag ≠ 3) (h5 : a.tag ≠ 5) : Ret Try.prog 56 [.pointer (some ⟨b, 0, none⟩), a.val] w
    fun v w' => v = .tuple #[.slice none 0 0, .int .i64 0] ∧ Kept none' w w' := by
  refine ret_of_W Try.func56 rfl ok_region_Memory_bytes ?_
  simp [c_region_Memory_bytes, h2, h3, h5]
  refine W_no (by simp) ?_
  simp [h3]
  refine W_no (by simp [h3]) ?_
  simp [h5]
  refine W_no (by simp [h5]) ?_
  simp
  exact (Kept.refl _ _).alloc _

theorem view_none (b : Nat) (a : RVal) (off n : Int) (w : World) (h2 : a.tag ≠ 2) (h3 : a.tag ≠ 3) (h5 : a.tag ≠ 5) :
    Ret Try.prog 35 [.pointer (some ⟨b, 0, none⟩), a.val, .int .i64 off, .int .i64 n] w fun v w' => Kept none' w w' ∧ v = .tuple #[.slice none 0 0, .int .i64 0, .bool false] := by
  refine ret_of_W Try.func35 rfl ok_region_Memory_view ?_
  simp [c_region_Memory_view]
  refine W_no (by simp) ?_
  simp
  refine W_call0 (by simp) (bytes_none b a _ h2 h3 h5) ?_
  rintro v w1 ⟨rfl, hk⟩
  have h7 := hk.has (hp_new w _) (fun h => h)
  simp
  refine W_call0 (by simp [wcell_of h7]) (plus_ret (IntKind.i64.wrap a.n) off _) ?_
  rintro v w2 ⟨rfl, rfl⟩
  have hkk : Kept none' w w2 := ((Kept.refl _ _).alloc _).trans (hk.mono fun _ _ h => h)
  simp
  refine W_yes (by simp) ?_
  simp
  exact hkk

/-- What a load tells. -/
def loadOf (m : RMem) (a : RVal) (off k : Int) : RVal × Int :=
  if a.tag = 2 then loadC m (IntKind.i64.wrap a.n + off) k else if a.tag = 3 then loadS m (IntKind.i64.wrap a.n + off) k else (RVal.zero, 14)
theorem load_none (b : Nat) (m : RMem) (a : RVal) (off k : Int) (w : World) (hm : IsMem w b m) (h2 : a.tag ≠ 2) (h3 : a.tag ≠ 3) (h5 : a.tag ≠ 5) :
    Ret Try.prog 17 [.pointer (some ⟨b, 0, none⟩), a.val, .int .i64 off, .int .i64 k] w
      fun v w' => Kept none' w w' ∧ v = .tuple #[RVal.zero.val, .int .i64 14] := by
  refine ret_of_W Try.func17 rfl ok_region_Memory_Load ?_
  have hb' := blk_lt hm
  have hz : (Value.agg #[.int .i64 0, .int .u64 0, .int .i64 0, .pointer none]) = RVal.zero.val := rfl
  simp only [c_region_Memory_Load, hz]
  have h6 := hp_new w (.cells a.arr 43)
  have h4 := hp_new (w.alloc (.cells a.arr 43)) (.cells RVal.zero.arr 43)
  have h6' := hp_old h6 (.cells RVal.zero.arr 43)
  have hk0 : Kept none' w ((w.alloc (.cells a.arr 43)).alloc (.cells RVal.zero.arr 43)) := ((Kept.refl _ _).alloc _).alloc _
  rw [alloc_size] at h4
  simp
  generalize (w.alloc (.cells a.arr 43)).alloc (.cells RVal.zero.arr 43) = w2 at h4 h6' hk0 ⊢
  refine W_call0 (by simp) (sized_ret k w2) ?_
  rintro v w3 ⟨rfl, rfl⟩
  simp
  by_cases hs : sizeOk k
  · have hs' := hs
    unfold sizeOk at hs'
    refine W_no (by simp; omega) ?_
    simp
    refine W_call0 (by simp [rval_row h6']) (view_none b a off k w3 h2 h3 h5) ?_
    rintro v w4 ⟨hk1, rfl⟩
    have hk2 := hk0.trans hk1
    have h4' := hk1.has h4 (fun h => h)
    simp
    refine W_yes (by simp) ?_
    simp
    refine W_store (by simp) (by simp) (store_val (v := RVal.zero) h4') (stab_nil _ _ _) ?_
    simp [rval_row (put_same (blk_lt h4'))]
    exact hk2.put (fun h => absurd h (by omega)) _
  · have hs' := hs
    unfold sizeOk at hs'
    refine W_yes (by simp; omega) ?_
    simp
    refine W_store (by simp) (by simp) (store_val (v := RVal.zero) h4) (stab_nil _ _ _) ?_
    simp [rval_row (put_same (blk_lt h4))]
    exact hk0.put (fun h => absurd h (by omega)) _
theorem load_any (b : Nat) (m : RMem) (a : RVal) (off k : Int) (w : World) (hm : IsMem w b m) (h5 : a.tag ≠ 5) (ho1 : -9223372036854775808 ≤ off) (ho2 : off ≤ 9223372036854775807) (hb : BytesOk m) :
    Ret Try.prog 17 [.pointer (some ⟨b, 0, none⟩), a.val, .int .i64 off, .int .i64 k] w
      fun v w' => Kept none' w w' ∧ v = .tuple #[(loadOf m a off k).1.val, .int .i64 (loadOf m a off k).2] := by
  unfold loadOf
  by_cases h2 : a.tag = 2
  · rw [if_pos h2]; exact load_ctx b m a off k w hm h2 ho1 ho2 hb
  · rw [if_neg h2]
    by_cases h3 : a.tag = 3
    · rw [if_pos h3]; exact load_stack b m a off k w hm h3 ho1 ho2 hb
    · rw [if_neg h3]; exact load_none b m a off k w hm h2 h3 h5
theorem load_T (w0 : World) (b : Nat) (m : RMem) (a : RVal) (off k : Int) (hm : IsMem w0 b m) (hc : a.cell = none) (h5 : a.tag ≠ 5) (ho1 : -9223372036854775808 ≤ off) (ho2 : off ≤ 9223372036854775807) (hb : BytesOk m)
    (hl : (loadOf m a off k).1.cell = none) :
    T Try.prog w0 17 [.pointer (some ⟨b, 0, none⟩), .agg a.arr, .int .i64 off, .int .i64 k] = some (.tuple #[.agg (loadOf m a off k).1.arr, .int .i64 (loadOf m a off k).2]) :=
  T_of_ret (by kernel_rfl) (by have := rval_ext0 w0.heap.size a hc; have := blk_lt hm; simp_all) (by have := rval_ext0 w0.heap.size _ hl; simp_all) fun w hk =>
    (load_any b m a off k w (hk.has hm fun h => h) h5 ho1 ho2 hb).mono fun v w' h => ⟨h.2, h.1⟩

theorem writes_no (b : Nat) (a : RVal) (w : World) (h3 : a.tag ≠ 3) (h5 : a.tag ≠ 5) : Ret Try.prog 39 [.pointer (some ⟨b, 0, none⟩), a.val] w
    fun v w' => v = .bool false ∧ Kept none' w w' := by
  refine ret_of_W Try.func39 rfl ok_region_Memory_writes ?_
  simp [c_region_Memory_writes]
  refine W_no (by simp [h5]) ?_
  simp [h3]
  exact (Kept.refl _ _).alloc _
/-- What a save makes of the memory, and what it tells. -/
def saveOf (m : RMem) (a : RVal) (off k : Int) (v : RVal) : RMem × Int := if a.tag = 3 then saveS m (IntKind.i64.wrap a.n + off) k v else (m, 14)
theorem save_none (b : Nat) (m : RMem) (a v : RVal) (off k : Int) (w : World) (hm : IsMem w b m) (h3 : a.tag ≠ 3) (h5 : a.tag ≠ 5) (ho1 : -9223372036854775808 ≤ off) (ho2 : off ≤ 9223372036854775807) :
    Ret Try.prog 18 [.pointer (some ⟨b, 0, none⟩), a.val, .int .i64 off, .int .i64 k, v.val] w
      fun r w' => Kept (· = b) w w' ∧ r = .int .i64 14 ∧ IsMem w' b m := by
  refine ret_of_W Try.func18 rfl ok_region_Memory_Save ?_
  have hb' := blk_lt hm
  simp only [c_region_Memory_Save]
  have h6 := hp_new w (.cells a.arr 43)
  have h4 := hp_new (w.alloc (.cells a.arr 43)) (.cells v.arr 43)
  have h6' := hp_old h6 (.cells v.arr 43)
  have hm0 : IsMem ((w.alloc (.cells a.arr 43)).alloc (.cells v.arr 43)) b m := hp_old (hp_old hm _) _
  have hk0 : Kept none' w ((w.alloc (.cells a.arr 43)).alloc (.cells v.arr 43)) := ((Kept.refl _ _).alloc _).alloc _
  rw [alloc_size] at h4
  simp
  generalize (w.alloc (.cells a.arr 43)).alloc (.cells v.arr 43) = w2 at h4 h6' hm0 hk0 ⊢
  refine W_call0 (by simp) (sized_ret k w2) ?_
  rintro r w3 ⟨rfl, rfl⟩
  simp
  have fail : ∀ w', Kept none' w w' → Kept (· = b) w w' := fun w' h => h.mono (fun _ _ h => h.elim)
  by_cases hs : sizeOk k ∧ 0 < v.tag ∧ v.tag ≤ 5
  · have hs' := hs
    unfold sizeOk at hs'
    refine W_no (by simp [wcell_of h4]; omega) ?_
    simp
    have fin : ∀ (c : Bool) (p : Value) (w4 : World), Kept none' w3 w4 → ∀ (q : Prop), q → q := fun _ _ _ _ _ h => h
    by_cases h2 : a.tag = 2
    · refine W_call0 (by simp [rval_row h6']) (view_ctx b a off k w3 h2 ho1 ho2 (by omega) (by omega)) ?_
      rintro r w4 ⟨hk1, hr⟩
      have hk2 := hk0.trans hk1
      have h6'' := hk1.has h6' (fun h => h)
      have hm1 : IsMem w4 b m := hk1.has hm0 (fun h => h)
      generalize hN : IntKind.i64.wrap a.n = N at *
      split at hr
      · obtain ⟨f, hf, rfl⟩ := hr
        simp [rval_row h6'']
        refine W_yes (by simp) ?_
        refine W_call0 (by simp [rval_row h6'']) (writes_no b a w4 h3 h5) ?_
        rintro r w5 ⟨rfl, hk3⟩
        have hm2 : IsMem w5 b m := hk3.has hm1 (fun h => h)
        have hk4 := hk2.trans hk3
        simp
        refine W_yes (by simp) ?_
        simp
        exact ⟨fail _ hk4, hm2⟩
      · subst hr
        simp
        refine W_no (by simp) ?_
        simp
        refine W_yes (by simp) ?_
        simp
        exact ⟨fail _ hk2, hm1⟩
    · refine W_call0 (by simp [rval_row h6']) (view_none b a off k w3 h2 h3 h5) ?_
      rintro r w4 ⟨hk1, rfl⟩
      have hk2 := hk0.trans hk1
      have hm1 : IsMem w4 b m := hk1.has hm0 (fun h => h)
      simp
      refine W_no (by simp) ?_
      simp
      refine W_yes (by simp) ?_
      simp
      exact ⟨fail _ hk2, hm1⟩
  · have hs' := hs
    unfold sizeOk at hs'
    refine W_yes (by simp [wcell_of h4]; omega) ?_
    simp
    exact ⟨fail _ hk0, hm0⟩
theorem save_any (b : Nat) (m : RMem) (a v : RVal) (off k : Int) (w : World) (hm : IsMem w b m) (h5 : a.tag ≠ 5) (ho1 : -9223372036854775808 ≤ off) (ho2 : off ≤ 9223372036854775807) (hv : v.tag = 1 → 0 ≤ v.n) :
    Ret Try.prog 18 [.pointer (some ⟨b, 0, none⟩), a.val, .int .i64 off, .int .i64 k, v.val] w
      fun r w' => Kept (· = b) w w' ∧ r = .int .i64 (saveOf m a off k v).2 ∧ IsMem w' b (saveOf m a off k v).1 := by
  unfold saveOf
  by_cases h3 : a.tag = 3
  · rw [if_pos h3]; exact save_stack b m a v off k w hm h3 ho1 ho2 hv
  · rw [if_neg h3]; exact save_none b m a v off k w hm h3 h5 ho1 ho2
end Go.Proofs.Ytepbpapbkonhnaa
