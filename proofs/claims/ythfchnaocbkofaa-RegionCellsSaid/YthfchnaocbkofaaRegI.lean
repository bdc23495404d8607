/- Layer 19, part I: Load of the context; New; saves. -/
import Derived.Test.YthfchnaocbkofaaRegH
set_option linter.unusedSimpArgs false
set_option linter.unusedVariables false
set_option maxRecDepth 8000
namespace Go.Proofs.Ythfchnaocbkofaa
open Go.Eng

/-- What a load of k bytes of the context tells. -/
def loadC (m : RMem) (s k : Int) : RVal × Int :=
  if sizeOk k ∧ 0 ≤ s ∧ s + k ≤ 32 then (⟨1, leN (fun j => m.ctx (s.toNat + j)) k.toNat, 0, none⟩, 0) else (RVal.zero, 14)

theorem load_ctx (b : Nat) (m : RMem) (a : RVal) (off k : Int) (w : World) (hm : IsMem w b m) (ha : a.tag = 2) (ho1 : -9223372036854775808 ≤ off) (ho2 : off ≤ 9223372036854775807) (hb : BytesOk m) :
    Ret Try.prog 11 [.pointer (some ⟨b, 0, none⟩), a.val, .int .i64 off, .int .i64 k] w
      fun v w' => Kept none' w w' ∧ v = .tuple #[(loadC m (IntKind.i64.wrap a.n + off) k).1.val, .int .i64 (loadC m (IntKind.i64.wrap a.n + off) k).2] := by
  refine ret_of_W Try.func11 rfl ok_region_Memory_Load ?_
  have hb' := blk_lt hm
  have hz : (Value.agg #[.int .i64 0, .int .u64 0, .int .i64 0, .pointer none]) = RVal.zero.val := rfl
  simp only [c_region_Memory_Load, hz]
  have h6 := hp_new w (.cells a.arr 43)
  have h4 := hp_new (w.alloc (.cells a.arr 43)) (.cells RVal.zero.arr 43)
  have h6' := hp_old h6 (.cells RVal.zero.arr 43)
  have hm0 : IsMem ((w.alloc (.cells a.arr 43)).alloc (.cells RVal.zero.arr 43)) b m := hp_old (hp_old hm _) _
  have hk0 : Kept none' w ((w.alloc (.cells a.arr 43)).alloc (.cells RVal.zero.arr 43)) := ((Kept.refl _ _).alloc _).alloc _
  rw [alloc_size] at h4
  simp
  generalize (w.alloc (.cells a.arr 43)).alloc (.cells RVal.zero.arr 43) = w2 at h4 h6' hm0 hk0 ⊢
  refine W_call0 (by simp) (sized_ret k w2) ?_
  rintro v w3 ⟨rfl, rfl⟩
  simp
  by_cases hs : sizeOk k
  · have hs' := hs
    unfold sizeOk at hs'
    refine W_no (by simp; omega) ?_
    simp
    refine W_call0 (by simp [rval_row h6']) (view_ctx b a off k w3 ha ho1 ho2 (by omega) (by omega)) ?_
    rintro v w4 ⟨hk1, hv⟩
    have hk2 := hk0.trans hk1
    have h4' := hk1.has h4 (fun h => h)
    have h6'' := hk1.has h6' (fun h => h)
    have hm1 : IsMem w4 b m := hk1.has hm0 (fun h => h)
    generalize hN : IntKind.i64.wrap a.n = N at *
    by_cases hin : 0 ≤ N + off ∧ N + off + k ≤ 32
    · rw [if_pos hin] at hv
      obtain ⟨f, hf, rfl⟩ := hv
      have hne : ¬ (32 = f) := by omega
      simp [hne]
      refine W_no (by simp) ?_
      simp
      refine W_call0 (by simp [rval_row h6'']) (exact_ret a f k w4) ?_
      rintro v w5 ⟨rfl, hk3⟩
      have hk4 := hk2.trans hk3
      have h4'' := hk3.has h4' (fun h => h)
      have h6x := hk3.has h6'' (fun h => h)
      have hm2 : IsMem w5 b m := hk3.has hm1 (fun h => h)
      have b2 : 0 ≤ (f : Int) / 8 := by omega
      have b3 : (f : Int) / 8 < 8 := by omega
      have hff : (N + off).toNat = f := by omega
      simp
      refine W_no (by simp [ha]) ?_
      simp [wcell_of h6x, ha]
      refine W_no (by simp) ?_
      simp
      refine W_no (by simp) ?_
      simp
      obtain ⟨n, rfl⟩ : ∃ n : Nat, k = n := ⟨k.toNat, by omega⟩
      refine W_call0 (by simp) (little_ret b f n (32 - f) (fun j => m.ctx (f + j)) w5 (by omega) (fun j => hb.2 _) ?_) ?_
      · intro j hj
        rw [wcell_of hm2, mem_ctx m _ (by omega)]
      rintro v w7 ⟨rfl, rfl⟩
      simp
      refine W_store (by simp) (by simp; rfl) (store_val (v := ⟨1, leN (fun j => m.ctx (f + j)) n, 0, none⟩) h4'') (stab_nil _ _ _) ?_
      have hl : loadC m (N + off) n = (⟨1, leN (fun j => m.ctx (f + j)) n, 0, none⟩, 0) := by
        unfold loadC
        rw [hff, if_pos ⟨hs, hin⟩]
        simp
      simp [rval_row (put_same (blk_lt h4'')), hl]
      exact hk4.put (fun h => absurd h (by omega)) _
    · rw [if_neg hin] at hv
      subst hv
      simp
      refine W_yes (by simp) ?_
      simp
      refine W_store (by simp) (by simp) (store_val (v := RVal.zero) h4') (stab_nil _ _ _) ?_
      have : ¬ (sizeOk k ∧ 0 ≤ N + off ∧ N + off + k ≤ 32) := fun h => hin h.2
      simp [rval_row (put_same (blk_lt h4')), loadC, this]
      exact hk2.put (fun h => absurd h (by omega)) _
  · have hs' := hs
    unfold sizeOk at hs'
    refine W_yes (by simp; omega) ?_
    simp
    refine W_store (by simp) (by simp) (store_val (v := RVal.zero) h4) (stab_nil _ _ _) ?_
    simp [rval_row (put_same (blk_lt h4)), loadC, hs]
    exact hk0.put (fun h => absurd h (by omega)) _
end Go.Proofs.Ythfchnaocbkofaa
