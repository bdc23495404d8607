/- RegionKept: the walk. -/
import Derived.Test.YtihaopoehhnbkaaRegL
import Derived.Test.YtihaopoehhnbkaaCmdsKept
set_option linter.unusedSimpArgs false
set_option linter.unusedVariables false
set_option maxRecDepth 8000
namespace Go.Proofs.Ytihaopoehhnbkaa
open Go.Eng

theorem wcell_kept {S : Nat → Prop} {w w' : World} {b off : Nat} {v : Value} (hk : Kept S w w') (hs : ¬ S b) (h : wcell w b off = some v) : wcell w' b off = some v := by
  unfold wcell at h ⊢
  cases hb : w.heap[b]? with
  | none => rw [hb] at h; cases h
  | some o => rw [hk.has hb hs]; rw [hb] at h; exact h

/-- A slice of whole numbers of 64 bits, as it lies in the memory. -/
def Ints (w : World) (v : Value) (xs : List Int) : Prop :=
  ∃ (a : Option Addr) (n c : Nat), v = .slice a n c ∧ n = xs.length ∧ n ≤ 9223372036854775807 ∧ (n = 0 ∨ ∃ b off, a = some ⟨b, off, none⟩ ∧ ∀ i, i < n → wcell w b (off + i) = some (.int .i64 (xs.getD i 0)))

theorem store_rows8 {w : World} {p k : Nat} {g : Nat → RVal} {T : TypeId} (hm : w.heap[p]? = some (.cells (rows8 g) T (0, 0))) (h : k < 8) (v : RVal) :
    stv w 4 (.pointer (some ⟨p, k * 4, none⟩)) v.val = some (put w p (.cells (rows8 (fset g k v)) T (0, 0))) := by
  rw [stv_of (n := 4) (v := v.val) hm rfl (by rw [rows8_size]; omega) (.inl (by simp)) (by simp [Value.oneCell', RVal.val, RVal.arr])]
  have := rows8_set g k v h
  simp only [RVal.val, Value.cells] at this ⊢
  rw [this]
theorem row8_of {w : World} {p k : Nat} {g : Nat → RVal} {T : TypeId} (hm : w.heap[p]? = some (.cells (rows8 g) T (0, 0))) (h : k < 8) : wrow w p (k * 4) 4 = some (g k).arr := by
  rw [wrow_of hm (by rw [rows8_size]; omega), rows8_row g k h]

theorem mod_small (x d : Int) (hd : 0 < d) (hd2 : d < 100) : ∃ k : Nat, k < d ∧ (IntKind.u64.wrap x).tmod d = k ∧ IntKind.i64.wrap ((IntKind.u64.wrap x).tmod d) = k := by
  have h0 : 0 ≤ IntKind.u64.wrap x := by rw [IntKind.wrap_u64]; omega
  have h1 : (IntKind.u64.wrap x).tmod d = IntKind.u64.wrap x % d := Int.tmod_eq_emod_of_nonneg h0
  have h2 : 0 ≤ IntKind.u64.wrap x % d := Int.emod_nonneg _ (by omega)
  have h3 : IntKind.u64.wrap x % d < d := Int.emod_lt_of_pos _ (by omega)
  refine ⟨(IntKind.u64.wrap x % d).toNat, by omega, by omega, ?_⟩
  rw [h1, i64w (by omega) (by omega)]
  omega

theorem zero_off (o : Int) : IntKind.i64.wrap (RVal.mk 3 0 0 none).n + o = o := by
  have : IntKind.i64.wrap (RVal.mk 3 0 0 none).n = 0 := rfl
  rw [this, Int.zero_add]

set_option maxHeartbeats 1000000 in
theorem kept_ret (v0 : Value) (xs : List Int) (x1 : Int) (w : World) (h0 : Ints w v0 xs) : Ret Try.prog 3 [v0, .int .i64 x1] w fun v w' => v = .bool true ∧ Kept none' w w' := by
  refine ret_of_W Try.func3 rfl ok_tipstafflaw19_RegionKept ?_
  have hz : (Value.agg #[.int .i64 0, .int .u64 0, .int .i64 0, .pointer none]) = .agg RVal.zero.arr := rfl
  have hz8 : (Value.agg #[.int .i64 0, .int .u64 0, .int .i64 0, .pointer none, .int .i64 0, .int .u64 0, .int .i64 0, .pointer none, .int .i64 0, .int .u64 0, .int .i64 0, .pointer none, .int .i64 0, .int .u64 0, .int .i64 0, .pointer none,
    .int .i64 0, .int .u64 0, .int .i64 0, .pointer none, .int .i64 0, .int .u64 0, .int .i64 0, .pointer none, .int .i64 0, .int .u64 0, .int .i64 0, .pointer none, .int .i64 0, .int .u64 0, .int .i64 0, .pointer none]) = .agg (rows8 fun _ => RVal.zero) := rfl
  simp only [c_tipstafflaw19_RegionKept, hz, hz8]
  generalize hcs : Array.replicate 32 (Value.int .u8 0) = cs
  have hss : cs.size = 32 := by subst hcs; rfl
  obtain ⟨a, n, c, rfl, hn, hmax, hrow⟩ := h0
  simp
  refine W_call0 (by simp) (new_ret cs (fun _ => 0) _ hss ?_) ?_
  · intro i hi
    subst hcs
    simp [hi]
  rintro v w1 ⟨b, maps, rfl, hb, hk1, hm1⟩
  have hb1 := blk_lt hm1
  simp
  refine W_store (by simp) (by simp; rfl) (store_val (v := ⟨3, 0, 0, none⟩) (hp_new w1 _)) (stab_nil _ _ _) ?_
  obtain ⟨h3, hk2, hs2⟩ := box_fact w1 RVal.zero ⟨3, 0, 0, none⟩ 29
  generalize put (w1.alloc (.cells RVal.zero.arr 29)) w1.heap.size (.cells (RVal.mk 3 0 0 none).arr 29 (0, 0)) = w2 at h3 hk2 hs2 ⊢
  have hm2 := isMem_kept hk2 hm1
  have hkA := hk1.trans hk2
  have hw1 := hk1.size
  have hr8 := hp_new w2 (.cells (rows8 fun _ => RVal.zero) 30)
  have h3' := hp_old h3 (.cells (rows8 fun _ => RVal.zero) 30)
  have hm3 : IsMem _ b _ := hp_old hm2 (.cells (rows8 fun _ => RVal.zero) 30)
  have hkB := hkA.alloc (.cells (rows8 fun _ => RVal.zero) 30)
  simp [hs2]
  rw [hs2] at hr8
  generalize w2.alloc (.cells (rows8 fun _ => RVal.zero) 30) = w3 at hr8 h3' hm3 hkB ⊢
  generalize hp : w1.heap.size = p at *
  refine W_call0 (by simp) (saves_ret _) ?_
  rintro v w4 ⟨rfl, hk4⟩
  have hr4 := hk4.has hr8 (fun h => h)
  have h34 := hk4.has h3' (fun h => h)
  have hm4 := isMem_kept hk4 hm3
  have hkC := hkB.trans hk4
  simp
  refine W_no (by simp) ?_
  simp
  refine W_loop (fun env w' => Kept none' w w' ∧ w'.heap[p]? = some (.cells (RVal.mk 3 0 0 none).arr 29 (0, 0)) ∧
      ∃ (i : Nat) (g : Nat → RVal) (m : RMem), env = [.slice a n c, .int .i64 x1, undef, undef, .pointer (some ⟨b, 0, none⟩), .pointer (some ⟨p, 0, none⟩), .pointer (some ⟨p + 1, 0, none⟩), undef, .int .i64 i, undef, undef, undef, undef, undef, undef, undef, undef, undef, undef, undef, undef, undef, undef] ∧
        i ≤ 12 ∧ w'.heap[p + 1]? = some (.cells (rows8 g) 30 (0, 0)) ∧ IsMem w' b m ∧ Keeps m g) (fun env _ => 12 - natAt env 8) ?_ ?_
  · exact ⟨hkC, h34, 0, _, _, by simp, by omega, hr4, hm4, keeps_fresh _ _ (fun _ => by omega)⟩
  · rintro env w5 ⟨hk5, h35, i, g, m, rfl, hi, hr5, hm5, hg⟩
    by_cases hc1 : i < n ∧ i < 12
    · simp
      refine W_yes (by simp; omega) ?_
      have hn0 : n ≠ 0 := by omega
      obtain ⟨rb, off, rfl, hcells⟩ := hrow.resolve_left hn0
      have hrow' := wcell_kept hk5 (fun h => h) (hcells i hc1.1)
      generalize xs.getD i 0 = x at hrow'
      obtain ⟨k, hk7, hk, hkw⟩ := mod_small x 7 (by omega) (by omega)
      have eu : IntKind.u64.wrap (i : Int) = i := u64w (by omega) (by omega)
      have e2 : IntKind.i64.wrap ((i : Int) + 1) = ((i + 1 : Nat) : Int) := i64w (by omega) (by omega)
      have e3 : IntKind.i64.wrap (8 * (k : Int)) = 8 * (k : Int) := i64w (by omega) (by omega)
      have e4 : IntKind.i64.wrap (8 * (k : Int) - 64) = 8 * (k : Int) - 64 := i64w (by omega) (by omega)
      have hk8 : (k : Int) < 8 := by omega
      simp [hc1.1, hrow']
      rw [hkw]
      refine W_store (by simp [hk8]) (by simp [eu]; rfl) (store_rows8 (k := k) hr5 (by omega) ⟨2, i, 0, none⟩) (stab_nil _ _ _) ?_
      have hput : ∀ o, Kept none' w (put w5 (p + 1) o).drew := fun o => (hk5.put (fun h => absurd h (by omega)) o).drew
      have hr6 : (put w5 (p + 1) (.cells (rows8 (fset g k ⟨2, i, 0, none⟩)) 30 (0, 0))).drew.heap[p + 1]? = some (.cells (rows8 (fset g k ⟨2, i, 0, none⟩)) 30 (0, 0)) := put_same (blk_lt hr5)
      have h36 : (put w5 (p + 1) (.cells (rows8 (fset g k ⟨2, i, 0, none⟩)) 30 (0, 0))).drew.heap[p]? = some (.cells (RVal.mk 3 0 0 none).arr 29 (0, 0)) := (put_other (by omega)).trans h35
      have hm6 : IsMem (put w5 (p + 1) (.cells (rows8 (fset g k ⟨2, i, 0, none⟩)) 30 (0, 0))).drew b m := (put_other (by omega)).trans hm5
      have hk6 := hput (.cells (rows8 (fset g k ⟨2, i, 0, none⟩)) 30 (0, 0))
      simp
      generalize (put w5 (p + 1) (.cells (rows8 (fset g k ⟨2, i, 0, none⟩)) 30 (0, 0))).drew = w6 at hr6 h36 hm6 hk6 ⊢
      have hrow8 : wrow w6 (p + 1) (k * 4) 4 = some (RVal.mk 2 i 0 none).arr := by rw [row8_of hr6 (show k < 8 by omega), fset_same]
      refine W_call0 (by simp [hk8, e3, e4, rval_row h36, hrow8]) (save_stack b m ⟨3, 0, 0, none⟩ ⟨2, i, 0, none⟩ (8 * k - 64) 8 w6 hm6 rfl (by omega) (by omega) (fun h => by simp at h)) ?_
      rintro v w7 ⟨hk7', rfl, hm7⟩
      rw [zero_off] at hm7 ⊢
      obtain ⟨hs0, hg'⟩ := keeps_step hg k (by omega) ⟨2, i, 0, none⟩ rfl rfl
      simp
      refine W_no (by simp [hs0]) ?_
      simp
      refine ⟨⟨hk6.then hk7' (fun i hi h => by omega), hk7'.has h36 (fun h => by omega), i + 1, by simp [e2], by omega, _, hk7'.has hr6 (fun h => by omega), _, hm7, hg'⟩, by simp [natAt, e2]; omega⟩
    · simp
      refine W_no (by simp; omega) ?_
      obtain ⟨r, hr8', hr, hrw⟩ := mod_small x1 8 (by omega) (by omega)
      have e1 : IntKind.i64.wrap ((r : Int) - 8) = (r : Int) - 8 := i64w (by omega) (by omega)
      simp
      rw [hrw, e1]
      refine W_call0 (by simp [rval_row h35]; rfl) (save_stack b m ⟨3, 0, 0, none⟩ ⟨1, 1, 0, none⟩ (r - 8) 1 w5 hm5 rfl (by omega) (by omega) (fun h => by simp)) ?_
      rintro v w6 ⟨hk6, rfl, hm6⟩
      rw [zero_off] at hm6 ⊢
      obtain ⟨hs0, hg', hl⟩ := keeps_last hg r (by omega)
      have hkD := hk5.then hk6 (fun i hi h => by omega)
      have h36 := hk6.has h35 (fun h => by omega)
      have hr6 := hk6.has hr5 (fun h => by omega)
      generalize (saveS m (r - 8) 1 ⟨1, 1, 0, none⟩).1 = m2 at hm6 hg' hl
      simp
      refine W_no (by simp [hs0]) ?_
      simp
      refine W_loop (fun env w' => Kept none' w w' ∧ w'.heap[p]? = some (.cells (RVal.mk 3 0 0 none).arr 29 (0, 0)) ∧
          ∃ (k : Nat), env = [undef, undef, undef, undef, .pointer (some ⟨b, 0, none⟩), .pointer (some ⟨p, 0, none⟩), .pointer (some ⟨p + 1, 0, none⟩), undef, undef, undef, undef, .int .i64 (r - 8), undef, .int .i64 k, undef, undef, undef, undef, undef, undef, undef, undef, undef] ∧
            k ≤ 7 ∧ w'.heap[p + 1]? = some (.cells (rows8 g) 30 (0, 0)) ∧ IsMem w' b m2) (fun env _ => 7 - natAt env 13) ?_ ?_
      · exact ⟨hkD, h36, 0, by simp, by omega, hr6, hm6⟩
      rintro env w7 ⟨hk7, h37, k, rfl, hk, hr7, hm7⟩
      by_cases hc2 : k < 7
      · simp
        refine W_yes (by simp; omega) ?_
        obtain ⟨ha8, ha4⟩ := keeps_load hg' k hc2
        have hk8 : (k : Int) < 8 := by omega
        have e2 : IntKind.i64.wrap ((k : Int) + 1) = ((k + 1 : Nat) : Int) := i64w (by omega) (by omega)
        have e3 : IntKind.i64.wrap (8 * (k : Int)) = 8 * (k : Int) := i64w (by omega) (by omega)
        have e4 : IntKind.i64.wrap (8 * (k : Int) - 64) = 8 * (k : Int) - 64 := i64w (by omega) (by omega)
        simp
        refine W_call0 (by simp [e3, e4, rval_row h37]) (load_stack b m2 ⟨3, 0, 0, none⟩ (8 * k - 64) 8 w7 hm7 rfl (by omega) (by omega) hg'.ok) ?_
        rintro v w8 ⟨hk8', rfl⟩
        rw [zero_off, ha8]
        have h38 := hk8'.has h37 (fun h => h)
        have hr8x := hk8'.has hr7 (fun h => h)
        have hm8 := isMem_kept hk8' hm7
        have hkE := hk7.trans hk8'
        generalize hA : (if (g k).tag ≠ 0 then (g k, (0 : Int)) else (RVal.zero, 14)) = A
        simp
        refine W_store (by simp) (by simp) (store_val (v := A.1) (hp_new w8 _)) (stab_nil _ _ _) ?_
        obtain ⟨hB15, hkb15, hs15⟩ := box_fact w8 RVal.zero (A.1) 29
        generalize put (w8.alloc (.cells RVal.zero.arr 29)) w8.heap.size (.cells (A.1).arr 29 (0, 0)) = w9 at hB15 hkb15 hs15 ⊢
        have h39 := hkb15.has h38 (fun h => h)
        have hr9 := hkb15.has hr8x (fun h => h)
        have hm9 := isMem_kept hkb15 hm8
        have hkF := hkE.trans hkb15
        generalize w8.heap.size = n8 at *
        simp
        refine W_call0 (by simp [e3, e4, rval_row h39]) (load_stack b m2 ⟨3, 0, 0, none⟩ (8 * k - 64) 4 w9 hm9 rfl (by omega) (by omega) hg'.ok) ?_
        rintro v w10 ⟨hk10, rfl⟩
        rw [zero_off, ha4]
        have h3a := hk10.has h39 (fun h => h)
        have hra := hk10.has hr9 (fun h => h)
        have hBa := hk10.has hB15 (fun h => h)
        have hma := isMem_kept hk10 hm9
        have hkG := hkF.trans hk10
        simp
        refine W_store (by simp) (by simp) (store_val (v := RVal.zero) (hp_new w10 _)) (stab_nil _ _ _) ?_
        obtain ⟨hB18, hkb18, hs18⟩ := box_fact w10 RVal.zero (RVal.zero) 29
        generalize put (w10.alloc (.cells RVal.zero.arr 29)) w10.heap.size (.cells (RVal.zero).arr 29 (0, 0)) = w11 at hB18 hkb18 hs18 ⊢
        have h3b : w11.drew.heap[p]? = _ := hkb18.has h3a (fun h => h)
        have hrb : w11.drew.heap[p + 1]? = _ := hkb18.has hra (fun h => h)
        have hBb : w11.drew.heap[n8]? = _ := hkb18.has hBa (fun h => h)
        have hmb : IsMem w11.drew b m2 := isMem_kept hkb18.drew hma
        have hkH := (hkG.trans hkb18).drew
        generalize w10.heap.size = n10 at *
        simp
        generalize w11.drew = w12 at h3b hrb hBb hmb hkH ⊢
        have et := rows8_tag g k (by omega)
        refine W_no ?_ ?_
        · by_cases hg0 : (g k).tag = 0
          · rw [if_neg (fun h => h hg0)] at hA
            subst hA
            simp [hk8, wcell_of hrb, et, hg0]
          · rw [if_pos hg0] at hA
            subst hA
            have hq := eqv_rval w12 (g k) (g k) (hg'.cell k hc2) (hg'.cell k hc2)
            simp [hk8, wcell_of hrb, et, hg0, rval_row hBb, row8_of hrb (show k < 8 by omega), hq]
        simp
        refine ⟨⟨hkH, h3b, k + 1, by simp [e2], by omega, hrb, hmb⟩, by simp [natAt, e2]; omega⟩
      · simp
        refine W_no (by simp; omega) ?_
        simp
        refine W_call0 (by simp [rval_row h37]) (load_stack b m2 ⟨3, 0, 0, none⟩ (r - 8) 1 w7 hm7 rfl (by omega) (by omega) hg'.ok) ?_
        rintro v w8 ⟨hk8', rfl⟩
        rw [zero_off]
        generalize loadS m2 (r - 8) 1 = A at hl
        simp
        refine W_store (by simp) (by simp) (store_val (v := A.1) (hp_new w8 _)) (stab_nil _ _ _) ?_
        obtain ⟨hB21, hkb21, hs21⟩ := box_fact w8 RVal.zero (A.1) 29
        generalize put (w8.alloc (.cells RVal.zero.arr 29)) w8.heap.size (.cells (A.1).arr 29 (0, 0)) = w9 at hB21 hkb21 hs21 ⊢
        simp [hl]
        exact (hk7.trans hk8').trans hkb21
end Go.Proofs.Ytihaopoehhnbkaa
