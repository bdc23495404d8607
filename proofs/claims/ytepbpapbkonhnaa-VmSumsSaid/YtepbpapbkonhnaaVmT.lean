/- Layer 20: the walk of VmSums. -/
import Derived.Test.YtepbpapbkonhnaaVmS
set_option linter.unusedSimpArgs false
set_option linter.unusedVariables false
set_option maxRecDepth 8000
namespace Go.Proofs.Ytepbpapbkonhnaa
open Go.Eng

theorem sum_shift (c : Nat → Int) (hc : ∀ i, 0 ≤ c i ∧ c i ≤ 255) (A t : Nat) (ht : t < 8) :
    bitOr .u64 (IntKind.u64.wrap (leN (fun j => c (A + (t + 1) + j)) (7 - t) * 256)) (c (A + t)) = leN (fun j => c (A + t + j)) (8 - t) := by
  have hb := leN_bound (fun j => c (A + (t + 1) + j)) (fun j => hc _) (7 - t)
  have hp : (256 : Int) ^ (7 - t) ≤ 256 ^ 7 := by
    obtain ⟨d, hd⟩ : ∃ d, 7 = (7 - t) + d := ⟨t, by omega⟩
    conv => rhs; rw [hd, Int.pow_add]
    have h1 : (0 : Int) < 256 ^ (7 - t) := Int.pow_pos (by omega)
    have h2 : (0 : Int) < 256 ^ d := Int.pow_pos (by omega)
    have := Int.mul_le_mul_of_nonneg_left (show (1 : Int) ≤ 256 ^ d by omega) (Int.le_of_lt h1)
    simpa using this
  have h7 : (256 : Int) ^ 7 = 72057594037927936 := rfl
  rw [h7] at hp
  generalize hX : leN (fun j => c (A + (t + 1) + j)) (7 - t) = X at *
  rw [u64w (by omega) (by omega), vor_low X (c (A + t)) (by omega) (by omega) (hc _).1 (hc _).2]
  rw [show 8 - t = (7 - t) + 1 by omega, leN_cons]
  have : leN (fun j => c (A + t + (j + 1))) (7 - t) = X := by
    rw [← hX]
    exact vleN_congr _ fun j _ => by rw [show A + t + (j + 1) = A + (t + 1) + j by omega]
  rw [this]
  simp only [Nat.add_zero]
  omega

def downAt (env : Env) (i : Nat) : Nat :=
  match env[i]? with
  | some (.int _ n) => (n + 1).toNat
  | _ => 0
set_option maxHeartbeats 8000000 in
theorem sums_ret (cs : Array Value) (c : Nat → Int) (hcs : cs.size = 32) (hc : ∀ i, i < 32 → cs[i]? = some (.int .u8 (c i))) (hr : ∀ i, 0 ≤ c i ∧ c i ≤ 255) (a b q : Int) (w : World) :
    Ret Try.prog 5 [.agg cs, .agg #[.int .i64 a, .int .i64 b], .int .i64 q] w fun v w' => v = .bool true ∧ Kept none' w w' := by
  refine ret_of_W Try.func5 rfl nok_tipstafflaw20_VmSums ?_
  obtain ⟨A, hA, eA⟩ := mod_k a 25 (by omega)
  obtain ⟨B, hB, eB⟩ := mod_k b 25 (by omega)
  obtain ⟨i, hi, ei⟩ := mod_k q 6 (by omega)
  have e1 : IntKind.i16.wrap (A : Int) = A := IntWalk.i16_in _ ⟨by omega, by omega⟩
  have e2 : IntKind.i16.wrap (B : Int) = B := IntWalk.i16_in _ ⟨by omega, by omega⟩
  have e3 : IntKind.i64.wrap (i : Int) = i := i64w (by omega) (by omega)
  simp only [nc_tipstafflaw20_VmSums, Ins.zero, W_seq]
  have h4 := hp_old (hp_new w (.cells cs 38)) (.cells #[.int .i64 a, .int .i64 b] 64)
  have h5 := hp_new (w.alloc (.cells cs 38)) (.cells #[.int .i64 a, .int .i64 b] 64)
  rw [alloc_size] at h5
  have hk1 : Kept none' w ((w.alloc (.cells cs 38)).alloc (.cells #[.int .i64 a, .int .i64 b] 64)).drew := (((Kept.refl _ _).alloc _).alloc _).drew
  have h41 : ((w.alloc (.cells cs 38)).alloc (.cells #[.int .i64 a, .int .i64 b] 64)).drew.heap[w.heap.size]? = _ := h4
  have h51 : ((w.alloc (.cells cs 38)).alloc (.cells #[.int .i64 a, .int .i64 b] 64)).drew.heap[w.heap.size + 1]? = _ := h5
  refine W_new' (v := .agg cs) (cs := cs) (by simp) rfl ?_
  simp only [W_seq]
  refine W_new' (v := .agg #[.int .i64 a, .int .i64 b]) (cs := #[.int .i64 a, .int .i64 b]) (by simp) rfl ?_
  simp only [W_seq, W_set]
  refine ok_intro (.bool false) (by simp) ?_
  simp only [W_seq, W_draw]
  generalize ((w.alloc (.cells cs 38)).alloc (.cells #[.int .i64 a, .int .i64 b] 64)).drew = w1 at hk1 h41 h51 ⊢
  have c50 : wcell w1 (w.heap.size + 1) 0 = some (.int .i64 a) := by rw [wcell_of h51]; rfl
  have c51 : wcell w1 (w.heap.size + 1) 1 = some (.int .i64 b) := by rw [wcell_of h51]; rfl
  have rep : (Array.replicate 6 (Value.int .u8 0)) = #[.int .u8 0, .int .u8 0, .int .u8 0, .int .u8 0, .int .u8 0, .int .u8 0] := rfl
  have htab : [Value.int .u8 15, .int .u8 31, .int .u8 47, .int .u8 79, .int .u8 95, .int .u8 175][i]? = some (.int .u8 ((codeOfOp i : Nat) : Int)) := by
    have : i = 0 ∨ i = 1 ∨ i = 2 ∨ i = 3 ∨ i = 4 ∨ i = 5 := by omega
    rcases this with rfl | rfl | rfl | rfl | rfl | rfl <;> rfl
  simp [c50, c51, eA, eB, e1, e2, rep, ei, e3, htab, show (i : Int) < 6 by omega]
  have hcode : [({ op := 121, dst := 6, src := 1, off := (A : Int), imm := 0 } : Ins), { op := 121, dst := 0, src := 1, off := (B : Int), imm := 0 }, { op := codeOfOp i, dst := 0, src := 6, off := 0, imm := 0 }, { op := 149, dst := 0, src := 0, off := 0, imm := 0 }] = sumCode (codeOfOp i) A B := rfl
  rw [hcode]
  have h42 := hp_old (hp_old h41 (.cells #[.int .u8 15, .int .u8 31, .int .u8 47, .int .u8 79, .int .u8 95, .int .u8 175] 5)) (.cells (codeArr (sumCode (codeOfOp i) A B)) 55)
  have h10 := hp_new (w1.alloc (.cells #[.int .u8 15, .int .u8 31, .int .u8 47, .int .u8 79, .int .u8 95, .int .u8 175] 5)) (.cells (codeArr (sumCode (codeOfOp i) A B)) 55)
  rw [alloc_size] at h10
  have hk3 : Kept none' w ((w1.alloc (.cells #[.int .u8 15, .int .u8 31, .int .u8 47, .int .u8 79, .int .u8 95, .int .u8 175] 5)).alloc (.cells (codeArr (sumCode (codeOfOp i) A B)) 55)) := (hk1.alloc _).alloc _
  generalize (w1.alloc (.cells #[.int .u8 15, .int .u8 31, .int .u8 47, .int .u8 79, .int .u8 95, .int .u8 175] 5)).alloc (.cells (codeArr (sumCode (codeOfOp i) A B)) 55) = w3 at h42 h10 hk3 ⊢
  have hws : ∀ m k r f, setRow (WorldArr (fun _ => 0) m k r f) 0 cs.toList = WorldArr c m k r f := fun m k r f => world_s0 _ _ _ _ _ hcs hc
  simp [wrow_box h42 hcs, hcs, hws]
  have hok : codeOkB (sumCode (codeOfOp i) A B) = true := by
    have : i = 0 ∨ i = 1 ∨ i = 2 ∨ i = 3 ∨ i = 4 ∨ i = 5 := by omega
    rcases this with rfl | rfl | rfl | rfl | rfl | rfl <;> (show _ = _) <;> kernel_rfl
  refine W_call0 (by simp [wrow_box h42 hcs, hcs, hws]) (run_law (code_of (n := 4) (c := 4) h10 rfl (by simp [sumCode]) (by have := blk_lt h10; omega)) hok (luck_none _ _) hr (by omega) (fun _ h => by cases h) (by omega) (sum_a c i A B (by omega) (by omega) (by omega))) ?_
  rintro r w4 ⟨rfl, hk4⟩
  have h43 := hk4.has h42 (fun h => h)
  have g13 := hp_new w4 (.cells (Res 0 0 0 0) 58)
  have h44 := hp_old h43 (.cells (Res 0 0 0 0) 58)
  have hk5 : Kept none' w (w4.alloc (.cells (Res 0 0 0 0) 58)) := (hk3.trans hk4).alloc _
  have hsz := (hk3.trans hk4).size
  have hne : w.heap.size ≠ w4.heap.size := by have := blk_lt h43; omega
  simp
  generalize w4.alloc (.cells (Res 0 0 0 0) 58) = w5 at g13 h44 hk5 ⊢
  generalize w4.heap.size = p13 at *
  generalize hZ : opOf i (leN (fun j => c (B + j)) 8) (leN (fun j => c (A + j)) 8) = Z at *
  refine W_store (by simp) (by simp) (res_box Z 3 4 0 g13 rfl) (stab_nil _ _ _) ?_
  have g131 := put_same (o := .cells (Res Z 3 4 0) 58) (blk_lt g13)
  have h45 := (put_other (o := .cells (Res Z 3 4 0) 58) hne).trans h44
  have hk6 := hk5.putNew hsz (.cells (Res Z 3 4 0) 58)
  generalize put w5 _ _ = w6 at g131 h45 hk6 ⊢
  simp
  refine W_loop (fun env w' => w'.heap = w6.heap ∧ Kept none' w w' ∧ ∃ t : Nat, env = [undef, undef, .int .i64 q, undef, .pointer (some ⟨w.heap.size, 0, none⟩), undef, .int .i16 A, .int .i16 B, undef, undef, undef, undef, undef, .pointer (some ⟨p13, 0, none⟩), .int .u64 (leN (fun j => c (A + t + j)) (8 - t)), .int .u64 (leN (fun j => c (B + t + j)) (8 - t)), .int .i16 ((t : Int) - 1), undef, undef, undef] ∧ t ≤ 8)
    (fun env _ => downAt env 16) ?_ ?_
  · refine ⟨rfl, hk6, 8, ?_, by omega⟩
    simp [leN]
  · rintro env w7 ⟨hh, hk7, t, rfl, ht⟩
    have h47 : w7.heap[w.heap.size]? = some (.cells cs 38 (0, 0)) := by rw [hh]; exact h45
    by_cases h0 : 0 < t
    · obtain ⟨t, rfl⟩ : ∃ t', t = t' + 1 := ⟨t - 1, by omega⟩
      have r8 : 8 - (t + 1) = 7 - t := by omega
      have rt : ((t + 1 : Nat) : Int) - 1 = t := by omega
      rw [r8, rt]
      have ea : IntKind.i16.wrap ((A : Int) + t) = (A : Int) + t := IntWalk.i16_in _ ⟨by omega, by omega⟩
      have eb : IntKind.i16.wrap ((B : Int) + t) = (B : Int) + t := IntWalk.i16_in _ ⟨by omega, by omega⟩
      have et : IntKind.i16.wrap ((t : Int) - 1) = (t : Int) - 1 := IntWalk.i16_in _ ⟨by omega, by omega⟩
      have na : ((A : Int) + t).toNat = A + t := by omega
      have nb : ((B : Int) + t).toNat = B + t := by omega
      have a0 : (0 : Int) ≤ (A : Int) + t := by omega
      have b0 : (0 : Int) ≤ (B : Int) + t := by omega
      have a1 : (A : Int) + t < 32 := by omega
      have b1 : (B : Int) + t < 32 := by omega
      have ca : wcell w7.drew w.heap.size (A + t) = some (.int .u8 (c (A + t))) := by rw [wcell_drew, wcell_of h47, hc _ (by omega)]
      have cb : wcell w7.drew w.heap.size (B + t) = some (.int .u8 (c (B + t))) := by rw [wcell_drew, wcell_of h47, hc _ (by omega)]
      have ua : IntKind.u64.wrap (c (A + t)) = c (A + t) := u64w (hr _).1 (by have := (hr (A + t)).2; omega)
      have ub : IntKind.u64.wrap (c (B + t)) = c (B + t) := u64w (hr _).1 (by have := (hr (B + t)).2; omega)
      have sa := sum_shift c hr A t (by omega)
      have sb := sum_shift c hr B t (by omega)
      simp only [W_seq]
      refine W_yes (by simp) ?_
      simp [ea, eb, na, nb, a0, b0, a1, b1, ca, cb, ua, ub, sa, sb]
      have h8 : (2 : Int) ^ min 8 IntKind.u64.bits = 256 := rfl
      refine ⟨⟨hh, hk7.drew, t, ⟨by rw [h8]; exact sa, by rw [h8]; exact sb, et⟩, by omega⟩, ?_⟩
      simp [downAt, et]
    · have : t = 0 := by omega
      subst this
      simp
      refine W_no (by simp) ?_
      have rep6 : (Array.replicate 6 (Value.int .u64 0)) = #[.int .u64 0, .int .u64 0, .int .u64 0, .int .u64 0, .int .u64 0, .int .u64 0] := rfl
      generalize hX : leN (fun j => c (A + j)) 8 = X at *
      generalize hY : leN (fun j => c (B + j)) 8 = Y at *
      have htb : [Value.int .u64 (IntKind.u64.wrap (Y + X)), .int .u64 (IntKind.u64.wrap (Y - X)), .int .u64 (IntKind.u64.wrap (Y * X)), .int .u64 (bitOr .u64 Y X), .int .u64 (bitAnd .u64 Y X), .int .u64 (bitXor .u64 Y X)][i]? = some (.int .u64 Z) := by
        rw [← hZ]
        have : i = 0 ∨ i = 1 ∨ i = 2 ∨ i = 3 ∨ i = 4 ∨ i = 5 := by omega
        rcases this with rfl | rfl | rfl | rfl | rfl | rfl <;> rfl
      simp [rep6, ei, e3, htb, show (i : Int) < 6 by omega]
      have g137 : w7.heap[p13]? = some (.cells (Res Z 3 4 0) 58 (0, 0)) := by rw [hh]; exact g131
      have g138 := hp_old g137 (.cells #[.int .u64 (IntKind.u64.wrap (Y + X)), .int .u64 (IntKind.u64.wrap (Y - X)), .int .u64 (IntKind.u64.wrap (Y * X)), .int .u64 (bitOr .u64 Y X), .int .u64 (bitAnd .u64 Y X), .int .u64 (bitXor .u64 Y X)] 32)
      have hk8 := hk7.alloc (.cells #[.int .u64 (IntKind.u64.wrap (Y + X)), .int .u64 (IntKind.u64.wrap (Y - X)), .int .u64 (IntKind.u64.wrap (Y * X)), .int .u64 (bitOr .u64 Y X), .int .u64 (bitAnd .u64 Y X), .int .u64 (bitXor .u64 Y X)] 32)
      generalize w7.alloc _ = w8 at g138 hk8 ⊢
      refine W_call0 (by simp) (runs_ret w8) ?_
      rintro r w9 ⟨rfl, hk9⟩
      have g139 := hk9.has g138 (fun h => h)
      simp [res_row g139]
      exact hk8.trans hk9
end Go.Proofs.Ytepbpapbkonhnaa
