/- RegionNumbers: the walk. -/
import Derived.Test.YtihaopoehhnbkaaRegN
set_option linter.unusedSimpArgs false
set_option linter.unusedVariables false
set_option maxRecDepth 8000
namespace Go.Proofs.Ytihaopoehhnbkaa
open Go.Eng

set_option maxHeartbeats 1000000 in
theorem numbers_ret (x0 x1 x2 : Int) (w : World) (h20 : 0 ≤ x2) (h21 : x2 ≤ 18446744073709551615) : Ret Try.prog 4 [.int .i64 x0, .int .i64 x1, .int .u64 x2] w fun v w' => v = .bool true ∧ Kept none' w w' := by
  refine ret_of_W Try.func4 rfl ok_tipstafflaw19_RegionNumbers ?_
  have hz : (Value.agg #[.int .i64 0, .int .u64 0, .int .i64 0, .pointer none]) = .agg RVal.zero.arr := rfl
  simp only [c_tipstafflaw19_RegionNumbers, hz]
  generalize hcs : Array.replicate 32 (Value.int .u8 0) = cs
  have hss : cs.size = 32 := by subst hcs; rfl
  simp
  refine W_call0 (by simp) (size64_ret x1 w) ?_
  rintro v w0 ⟨⟨k, hk, rfl⟩, hk0⟩
  have e5 : IntKind.i64.wrap (65 - (k : Int)) = 65 - k := i64w (by omega) (by omega)
  have e6 : IntKind.u64.wrap (65 - (k : Int)) = 65 - k := u64w (by omega) (by omega)
  have e7 : (65 - (k : Int)) ≠ 0 := by omega
  obtain ⟨o, ho, ho1, ho2⟩ := mod_small x0 (65 - k) (by omega) (by omega)
  have e8 : IntKind.i64.wrap ((o : Int) - 64) = o - 64 := i64w (by omega) (by omega)
  simp [e5, e6, e7, ho2, e8]
  refine W_call0 (by simp) (new_ret cs (fun _ => 0) _ hss ?_) ?_
  · intro i hi
    subst hcs
    simp [hi]
  rintro v w1 ⟨b, maps, rfl, hb, hk1, hm1⟩
  have hb1 := blk_lt hm1
  simp
  refine W_store (by simp) (by simp; rfl) (store_val (v := ⟨3, 0, 0, none⟩) (hp_new w1 _)) (stab_nil _ _ _) ?_
  obtain ⟨h3, hk2, hs2⟩ := box_fact w1 RVal.zero ⟨3, 0, 0, none⟩ 29
  generalize put (w1.alloc (.cells RVal.zero.arr 29)) w1.heap.size (.cells (RVal.mk 3 0 0 none).arr 29 (0, 0)) = w2 at h3 hk2 hs2 ⊢
  have hm2 := isMem_kept hk2 hm1
  have hkA := (hk0.trans hk1).trans hk2
  have hw1 := (hk0.trans hk1).size
  generalize w1.heap.size = p at *
  simp
  refine W_call0 (by simp) (saves_ret _) ?_
  rintro v w3 ⟨rfl, hk3⟩
  have h33 := hk3.has h3 (fun h => h)
  have hm3 := isMem_kept hk3 hm2
  have hkB := hkA.trans hk3
  simp [rval_row h33]
  refine W_yes (by simp) ?_
  refine W_call0 (by simp [rval_row h33]; rfl) (save_stack b _ ⟨3, 0, 0, none⟩ ⟨1, x2, 0, none⟩ (o - 64) k w3 hm3 rfl (by omega) (by omega) (fun h => h20)) ?_
  rintro v w4 ⟨hk4, rfl, hm4⟩
  have hsz : sizeOk k := by unfold sizeOk; omega
  rw [zero_off, num_save _ _ o k x2 hsz (by omega)] at hm4 ⊢
  have hm4' : IsMem w4 b (numMem (fun _ => 0) maps o k x2) := hm4
  have hok := num_ok (fun _ => 0) maps o k x2 (fun _ => by omega)
  have h34 := hk4.has h33 (fun h => by omega)
  have hw0 := hk0.size
  have hkC := hkB.then hk4 (fun i hi h => by omega)
  simp
  refine W_no (by simp) ?_
  simp
  have e9 : IntKind.i64.wrap (8 * (k : Int)) = 8 * k := i64w (by omega) (by omega)
  have hshl : k < 8 → intBin .shl .u64 1 .i64 (8 * (k : Int)) = some (.int .u64 (256 ^ k)) := by
    intro h
    rw [intBin_shl _ _ _ _ (by omega)]
    rcases hk with rfl | rfl | rfl | rfl
    · rfl
    · rfl
    · rfl
    · omega
  have hp0 : (256 : Int) ^ k ≠ 0 := Int.ne_of_gt (Int.pow_pos (by omega))
  have hmod : x2.tmod (256 ^ k) = x2 % 256 ^ k := Int.tmod_eq_emod_of_nonneg h20
  have hwr : IntKind.i64.wrap (RVal.mk 3 (IntKind.u64.wrap ((o : Int) - 64)) 0 none).n + 0 = o - 64 := by
    show IntKind.i64.wrap (IntKind.u64.wrap ((o : Int) - 64)) + 0 = o - 64
    rw [IntKind.wrap_i64, IntKind.wrap_u64]; omega
  refine W_cut (fun env w' => w' = w4 ∧ env = [.int .i64 x0, .int .i64 x1, .int .u64 x2, .bool false, .int .i64 k, .int .i64 k, .int .i64 (o - 64), .pointer (some ⟨b, 0, none⟩), .pointer (some ⟨b, 0, none⟩), .pointer (some ⟨p, 0, none⟩), .bool true, .int .i64 0,
      .int .u64 (x2 % 256 ^ k), undef, undef, undef, undef, undef, undef, undef, undef, undef, undef]) ?_ ?_
  · refine W_cond (t := decide (k < 8)) (by simp; omega) ?_ ?_
    · intro h
      have h' : k < 8 := by simpa using h
      simp [e9, hshl h', hp0, hmod]
    · intro h
      have h' : k = 8 := by simp at h; omega
      subst h'
      simp
      have : (256 : Int) ^ 8 = 18446744073709551616 := by decide
      omega
  rintro env w5 ⟨e10, rfl⟩
  rw [e10]
  clear e10 w5
  simp
  refine W_call0 (by simp; rfl) (load_stack b _ ⟨3, IntKind.u64.wrap (o - 64), 0, none⟩ 0 k w4 hm4' rfl (by omega) (by omega) hok) ?_
  rintro v w6 ⟨hk6, rfl⟩
  rw [hwr, num_load _ _ o k x2 h20 hsz (by omega)]
  have h36 := hk6.has h34 (fun h => h)
  have hm6 := isMem_kept hk6 hm4'
  have hkD := hkC.trans hk6
  simp
  refine W_store (by simp) (by simp) (store_val (v := RVal.mk 1 (x2 % 256 ^ k) 0 none) (hp_new w6 _)) (stab_nil _ _ _) ?_
  obtain ⟨hB14, hkb14, hs14⟩ := box_fact w6 RVal.zero (RVal.mk 1 (x2 % 256 ^ k) 0 none) 29
  generalize put (w6.alloc (.cells RVal.zero.arr 29)) w6.heap.size (.cells (RVal.mk 1 (x2 % 256 ^ k) 0 none).arr 29 (0, 0)) = w7 at hB14 hkb14 hs14 ⊢
  have h37 := hkb14.has h36 (fun h => h)
  have hm7 := isMem_kept hkb14 hm6
  have hkE := hkD.trans hkb14
  have hw6 := hkD.size
  generalize w6.heap.size = p14 at *
  simp
  refine W_call0 (by simp; rfl) (bytes_ret b _ ⟨3, IntKind.u64.wrap (o - 64), 0, none⟩ k w7 hm7 rfl (by omega)) ?_
  rintro v w8 ⟨hk8, hv⟩
  have hwr' : IntKind.i64.wrap (RVal.mk 3 (IntKind.u64.wrap ((o : Int) - 64)) 0 none).n = o - 64 := by
    rw [Int.add_zero] at hwr; exact hwr
  rw [hwr', num_bytes _ _ o k x2 (by omega), if_pos rfl] at hv
  obtain ⟨nb, c, rfl, hc, hnb, hbytes⟩ := hv
  have h38 := hk8.has h37 (fun h => h)
  have hm8 := isMem_kept hk8 hm7
  have hB8 := hk8.has hB14 (fun h => h)
  have hkF := hkE.trans hk8
  have hbytes' : ∀ j, j < k → wcell w8 nb j = some (.int .u8 (byteN x2 j)) := by
    intro j hj
    rw [hbytes j (by omega), show ((o : Int) - 64 + 64).toNat = o by omega, num_stack _ _ o k x2 j hj]
  simp
  refine W_no (by simp [wcell_of hB8]) ?_
  simp
  refine W_loop (fun env w' => Kept none' w w' ∧ ∃ (i : Nat), env = [undef, undef, .int .u64 x2, undef, undef, .int .i64 k, .int .i64 (o - 64), undef, .pointer (some ⟨b, 0, none⟩), .pointer (some ⟨p, 0, none⟩), undef, undef, undef, undef, undef, undef, undef,
      .slice (some ⟨nb, 0, none⟩) k c, undef, .int .i64 i, undef, undef, undef] ∧ i ≤ k ∧ w'.heap[p]? = some (.cells (RVal.mk 3 0 0 none).arr 29 (0, 0)) ∧ IsMem w' b (numMem (fun _ => 0) maps o k x2) ∧
      ∀ j, j < k → wcell w' nb j = some (.int .u8 (byteN x2 j))) (fun env _ => k - natAt env 19) ?_ ?_
  · exact ⟨hkF, 0, by simp, by omega, h38, hm8, hbytes'⟩
  rintro env w9 ⟨hk9, i, rfl, hi, h39, hm9, hby⟩
  by_cases hi2 : i < k
  · simp
    refine W_yes (by simp; omega) ?_
    have e2 : IntKind.i64.wrap ((i : Int) + 1) = ((i + 1 : Nat) : Int) := i64w (by omega) (by omega)
    have e3 : IntKind.i64.wrap ((o : Int) - 64 + i) = o - 64 + i := i64w (by omega) (by omega)
    have e4 : IntKind.i64.wrap (8 * (i : Int)) = 8 * i := i64w (by omega) (by omega)
    simp
    refine W_call0 (by simp [e3, rval_row h39]) (load_stack b _ ⟨3, 0, 0, none⟩ (o - 64 + i) 1 w9 hm9 rfl (by omega) (by omega) hok) ?_
    rintro v w10 ⟨hk10, rfl⟩
    rw [zero_off, num_load1 _ _ o k x2 i hi2 (by omega)]
    have h3a := hk10.has h39 (fun h => h)
    have hma := isMem_kept hk10 hm9
    have hby' : ∀ j, j < k → wcell w10 nb j = some (.int .u8 (byteN x2 j)) := fun j hj => wcell_kept hk10 (fun h => h) (hby j hj)
    simp
    refine W_store (by simp) (by simp) (store_val (v := RVal.mk 1 (byteN x2 i) 0 none) (hp_new w10 _)) (stab_nil _ _ _) ?_
    obtain ⟨hB21, hkb21, hs21⟩ := box_fact w10 RVal.zero (RVal.mk 1 (byteN x2 i) 0 none) 29
    generalize put (w10.alloc (.cells RVal.zero.arr 29)) w10.heap.size (.cells (RVal.mk 1 (byteN x2 i) 0 none).arr 29 (0, 0)) = w11 at hB21 hkb21 hs21 ⊢
    have h3b : w11.drew.heap[p]? = _ := hkb21.has h3a (fun h => h)
    have hmb : IsMem w11.drew b _ := isMem_kept hkb21.drew hma
    have hBb : w11.drew.heap[w10.heap.size]? = _ := hB21
    have hby2 : ∀ j, j < k → wcell w11.drew nb j = some (.int .u8 (byteN x2 j)) := fun j hj => wcell_kept hkb21.drew (fun h => h) (hby' j hj)
    have hkz := ((hk9.trans hk10).trans hkb21).drew
    generalize w10.heap.size = n10 at *
    simp
    generalize w11.drew = w12 at h3b hmb hBb hby2 hkz ⊢
    have hbr := byteN_range x2 i
    have e5' : IntKind.u8.wrap (byteN x2 i) = byteN x2 i := u8w (by omega) (by omega)
    have hsh : intBin .shr .u64 x2 .i64 (8 * (i : Int)) = some (.int .u64 (x2 / 256 ^ i)) := by
      rw [intBin_shr _ _ _ _ (by omega)]
      have e5 : min (8 * (i : Int)).toNat IntKind.u64.bits = 8 * i := by
        have : IntKind.u64.bits = 64 := rfl
        omega
      rw [e5, pow_256, Int.fdiv_eq_ediv_of_nonneg _ (Int.le_of_lt (Int.pow_pos (by omega)))]
    have hpos : 0 ≤ x2 / 256 ^ i := Int.ediv_nonneg h20 (Int.le_of_lt (Int.pow_pos (by omega)))
    have hsm : (x2 / 256 ^ i).tmod 256 = byteN x2 i := Int.tmod_eq_emod_of_nonneg hpos
    refine W_no (by simp [e4, hsh, hsm, wcell_of hBb, hby2 i hi2, e5', hi2]) ?_
    simp
    refine ⟨⟨hkz, i + 1, by simp [e2], by omega, h3b, hmb, hby2⟩, by simp [natAt, e2]; omega⟩
  · simp
    refine W_no (by simp; omega) ?_
    simp
    exact hk9
end Go.Proofs.Ytihaopoehhnbkaa
