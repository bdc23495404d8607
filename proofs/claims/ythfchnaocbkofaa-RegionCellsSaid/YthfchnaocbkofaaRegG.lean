/- Layer 19, part G: Load on the stack and on the context. -/
import Derived.Test.YthfchnaocbkofaaRegF
set_option linter.unusedSimpArgs false
set_option linter.unusedVariables false
set_option maxRecDepth 8000
namespace Go.Proofs.Ythfchnaocbkofaa
open Go.Eng

instance (m : RMem) (f n : Nat) : Decidable (Ready m f n) :=
  decidable_of_iff (∀ j, j < n → readyAt m (f + j) = true) ⟨fun h j h1 h2 => by
    have := h (j - f) (by omega)
    rwa [show f + (j - f) = j from by omega] at this, fun h j hj => h (f + j) (by omega) (by omega)⟩

def sizeOk (k : Int) : Prop := k = 1 ∨ k = 2 ∨ k = 4 ∨ k = 8
instance (k : Int) : Decidable (sizeOk k) := by unfold sizeOk; exact inferInstance

/-- What a load of k bytes of the stack tells, s being the place (nought at the stack's end). -/
def loadS (m : RMem) (s k : Int) : RVal × Int :=
  if sizeOk k ∧ -64 ≤ s ∧ s + k ≤ 0 then
    if k = 8 ∧ (s + 64).toNat % 8 = 0 ∧ (m.kept ((s + 64).toNat / 8)).tag ≠ 0 then (m.kept ((s + 64).toNat / 8), 0)
    else if Ready m (s + 64).toNat k.toNat then (⟨1, leN (fun j => m.stack ((s + 64).toNat + j)) k.toNat, 0, none⟩, 0)
    else (RVal.zero, 14)
  else (RVal.zero, 14)

def BytesOk (m : RMem) : Prop := (∀ i, 0 ≤ m.stack i ∧ m.stack i ≤ 255) ∧ (∀ i, 0 ≤ m.ctx i ∧ m.ctx i ≤ 255)

theorem rval_row {w : World} {b : Nat} {v : RVal} {T : TypeId} {fz : Nat × Nat} (h : w.heap[b]? = some (.cells v.arr T fz)) : wrow w b 0 4 = some v.arr := by
  rw [wrow_of h (by simp [RVal.arr])]
  simp [RVal.arr]

theorem isMem_row {w : World} {b k : Nat} {m : RMem} (hm : IsMem w b m) (h : k < 8) : wrow w b (160 + k * 4) 4 = some (m.kept k).arr := by
  rw [wrow_of hm (by rw [mem_size]; omega), mem_row m k h]

theorem store_val {w : World} {b : Nat} {v u : RVal} {T : TypeId} (h : w.heap[b]? = some (.cells u.arr T (0, 0))) : stv w 4 (.pointer (some ⟨b, 0, none⟩)) v.val = some (put w b (.cells v.arr T (0, 0))) := by
  rw [stv_of (n := 4) (v := v.val) h rfl (by simp [RVal.arr]) (.inl (by simp)) (by simp [Value.oneCell', RVal.val, RVal.arr])]
  simp [RVal.arr, RVal.val]

theorem load_stack (b : Nat) (m : RMem) (a : RVal) (off k : Int) (w : World) (hm : IsMem w b m) (ha : a.tag = 3) (ho1 : -9223372036854775808 ≤ off) (ho2 : off ≤ 9223372036854775807) (hb : BytesOk m) :
    Ret Try.prog 11 [.pointer (some ⟨b, 0, none⟩), a.val, .int .i64 off, .int .i64 k] w
      fun v w' => Kept none' w w' ∧ v = .tuple #[(loadS m (IntKind.i64.wrap a.n + off) k).1.val, .int .i64 (loadS m (IntKind.i64.wrap a.n + off) k).2] := by
  refine ret_of_W Try.func11 rfl ok_region_Memory_Load ?_
  have hb' := blk_lt hm
  have hz : (Value.agg #[.int .i64 0, .int .u64 0, .int .i64 0, .pointer none]) = RVal.zero.val := rfl
  simp only [c_region_Memory_Load, hz]
  have h6 := hp_new w (.cells a.arr 43)
  have h4 := hp_new (w.alloc (.cells a.arr 43)) (.cells RVal.zero.arr 43)
  have h6' := hp_old h6 (.cells RVal.zero.arr 43)
  have hm0 : IsMem ((w.alloc (.cells a.arr 43)).alloc (.cells RVal.zero.arr 43)) b m := hp_old (hp_old hm _) _
  have hk0 : Kept none' w ((w.alloc (.cells a.arr 43)).alloc (.cells RVal.zero.arr 43)) := ((Kept.refl _ _).alloc _).alloc _
  rw [alloc_size] at h4
  simp
  generalize (w.alloc (.cells a.arr 43)).alloc (.cells RVal.zero.arr 43) = w2 at h4 h6' hm0 hk0 ⊢
  refine W_call0 (by simp) (sized_ret k w2) ?_
  rintro v w3 ⟨rfl, rfl⟩
  simp
  by_cases hs : sizeOk k
  · have hs' := hs
    unfold sizeOk at hs'
    refine W_no (by simp; omega) ?_
    simp
    refine W_call0 (by simp [rval_row h6']) (view_stack b a off k w3 ha ho1 ho2 (by omega) (by omega)) ?_
    rintro v w4 ⟨hk1, hv⟩
    have hk2 := hk0.trans hk1
    have h4' := hk1.has h4 (fun h => h)
    have h6'' := hk1.has h6' (fun h => h)
    have hm1 : IsMem w4 b m := hk1.has hm0 (fun h => h)
    generalize hN : IntKind.i64.wrap a.n = N at *
    by_cases hin : -64 ≤ N + off ∧ N + off + k ≤ 0
    · rw [if_pos hin] at hv
      obtain ⟨f, hf, rfl⟩ := hv
      have hne : ¬ (64 = f) := by omega
      simp [hne]
      refine W_no (by simp) ?_
      simp
      refine W_call0 (by simp [rval_row h6'']) (exact_ret a f k w4) ?_
      rintro v w5 ⟨rfl, hk3⟩
      have hk4 := hk2.trans hk3
      have h4'' := hk3.has h4' (fun h => h)
      have h6x := hk3.has h6'' (fun h => h)
      have hm2 : IsMem w5 b m := hk3.has hm1 (fun h => h)
      have b2 : 0 ≤ (f : Int) / 8 := by omega
      have b3 : (f : Int) / 8 < 8 := by omega
      have ek := mem_tag m (f / 8) (by omega)
      have hff : (N + off + 64).toNat = f := by omega
      have hmod : (f : Int).tmod 8 = ((f % 8 : Nat) : Int) := by rw [Int.tmod_eq_emod_of_nonneg (by omega)]; omega
      simp
      refine W_cond (t := decide (k = 8 ∧ f % 8 = 0 ∧ (m.kept (f / 8)).tag ≠ 0)) ?_ ?_ ?_
      · unfold IsMem at hm2
        have hd : IntKind.i64.wrap ((f : Int) / 8) = (f : Int) / 8 := div8 f (by omega)
        have hm3 : (decide ((f : Int).tmod 8 = 0)) = decide (f % 8 = 0) := by rw [hmod]; simp; omega
        by_cases h8 : k = 8 ∧ f % 8 = 0
        · simp [ha, h8.1, hm3, h8.2, b2, b3, hd, div8n, wcell_of hm2, ek]
        · have hx : (decide (a.tag = 3) && decide (k = 8) && decide ((f : Int).tmod 8 = 0)) = false := by
            rw [hm3]
            simp only [Bool.and_eq_false_iff, decide_eq_false_iff_not]
            by_cases h9 : k = 8
            · right; exact fun h => h8 ⟨h9, h⟩
            · left; right; exact h9
          simp only [hx, Ex.ev]
          simp
          intro h9 h10
          exact absurd ⟨h9, h10⟩ h8
      · intro ht
        have ht' : k = 8 ∧ f % 8 = 0 ∧ (m.kept (f / 8)).tag ≠ 0 := by simpa using ht
        simp
        have hd : IntKind.i64.wrap ((f : Int) / 8) = (f : Int) / 8 := div8 f (by omega)
        refine W_store (by simp) (by simp [hd, b2, b3, div8n, isMem_row hm2 (show f / 8 < 8 by omega)]) (store_val (v := m.kept (f / 8)) h4'') (stab_nil _ _ _) ?_
        have hl : loadS m (N + off) k = (m.kept (f / 8), 0) := by
          unfold loadS
          rw [hff, if_pos ⟨hs, hin⟩, if_pos ht']
        simp [rval_row (put_same (blk_lt h4'')), hl]
        exact hk4.put (fun h => absurd h (by omega)) _
      · intro ht
        have ht' : ¬ (k = 8 ∧ f % 8 = 0 ∧ (m.kept (f / 8)).tag ≠ 0) := by simpa using ht
        simp [wcell_of h6x, ha]
        refine W_yes (by simp) ?_
        obtain ⟨n, rfl⟩ : ∃ n : Nat, k = n := ⟨k.toNat, by omega⟩
        refine W_call0 (by simp) (ready_ret b m f n w5 hm2 (by omega)) ?_
        rintro v w6 ⟨rfl, r, rfl, hr⟩
        simp
        by_cases hR : Ready m f n
        · have hr' := hr.2 hR
          subst hr'
          refine W_no (by simp) ?_
          simp
          refine W_call0 (by simp) (little_ret b (32 + f) n (64 - f) (fun j => m.stack (f + j)) w6 (by omega) (fun j => hb.1 _) ?_) ?_
          · intro j hj
            rw [wcell_of hm2, Nat.add_assoc, mem_stack m _ (by omega)]
          rintro v w7 ⟨rfl, rfl⟩
          simp
          refine W_store (by simp) (by simp; rfl) (store_val (v := ⟨1, leN (fun j => m.stack (f + j)) n, 0, none⟩) h4'') (stab_nil _ _ _) ?_
          have hl : loadS m (N + off) n = (⟨1, leN (fun j => m.stack (f + j)) n, 0, none⟩, 0) := by
            unfold loadS
            rw [hff, if_pos ⟨hs, hin⟩, if_neg ht', if_pos (by simpa using hR)]
            simp
          simp [rval_row (put_same (blk_lt h4'')), hl]
          exact hk4.put (fun h => absurd h (by omega)) _
        · have hr' : r = false := by
            cases r
            · rfl
            · exact absurd (hr.1 rfl) hR
          subst hr'
          refine W_yes (by simp) ?_
          simp
          refine W_store (by simp) (by simp) (store_val (v := RVal.zero) h4'') (stab_nil _ _ _) ?_
          have hl : loadS m (N + off) n = (RVal.zero, 14) := by
            unfold loadS
            rw [hff, if_pos ⟨hs, hin⟩, if_neg ht', if_neg (by simpa using hR)]
          simp [rval_row (put_same (blk_lt h4'')), hl]
          exact hk4.put (fun h => absurd h (by omega)) _
    · rw [if_neg hin] at hv
      subst hv
      simp
      refine W_yes (by simp) ?_
      simp
      refine W_store (by simp) (by simp) (store_val (v := RVal.zero) h4') (stab_nil _ _ _) ?_
      have : ¬ (sizeOk k ∧ -64 ≤ N + off ∧ N + off + k ≤ 0) := fun h => hin h.2
      simp [rval_row (put_same (blk_lt h4')), loadS, this]
      exact hk2.put (fun h => absurd h (by omega)) _
  · have hs' := hs
    unfold sizeOk at hs'
    refine W_yes (by simp; omega) ?_
    simp
    refine W_store (by simp) (by simp) (store_val (v := RVal.zero) h4) (stab_nil _ _ _) ?_
    simp [rval_row (put_same (blk_lt h4)), loadS, hs]
    exact hk0.put (fun h => absurd h (by omega)) _
end Go.Proofs.Ythfchnaocbkofaa
