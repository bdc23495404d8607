/- Layer 20: the laws' own try, and VmCounts. -/
import Derived.Test.YtepbpapbkonhnaaVmM
set_option linter.unusedSimpArgs false
set_option linter.unusedVariables false
set_option maxRecDepth 8000
namespace Go.Proofs.Ytepbpapbkonhnaa
open Go.Eng

set_option maxHeartbeats 1000000 in
theorem runs_ret (w : World) : Ret Try.prog 23 [] w fun v w' => v = .bool true ∧ Kept none' w w' := by
  refine ret_of_W Try.func23 rfl nok_tipstafflaw20_runs ?_
  simp [nc_tipstafflaw20_runs, Ins.zero]
  have h1 := hp_new w (.cells (codeArr (tryCode 7)) 55)
  have hk1 : Kept none' w (w.alloc (.cells (codeArr (tryCode 7)) 55)) := (Kept.refl _ _).alloc _
  have e7 : [({ op := 183, dst := 0, src := 0, off := 0, imm := 7 } : Ins), { op := 149, dst := 0, src := 0, off := 0, imm := 0 }] = tryCode 7 := rfl
  rw [e7]
  generalize w.alloc (.cells (codeArr (tryCode 7)) 55) = w1 at h1 hk1 ⊢
  refine W_call0 (by simp) (run_plain (n' := 2) (c := 2) h1 rfl (by simp [tryCode]) rfl (by omega) try_a) ?_
  rintro r w2 ⟨rfl, hk2⟩
  have h2 := hk2.has h1 (fun h => h)
  simp
  refine W_call0 (by simp) (run_plain (n' := 2) (c := 2) h2 rfl (by simp [tryCode]) rfl (by omega) try_b) ?_
  rintro r w3 ⟨rfl, hk3⟩
  have hk13 := (hk1.trans hk2).trans hk3
  simp
  have g5 := hp_old (hp_new w3 (.cells (Res 0 0 0 0) 58)) (.cells (Res 0 0 0 0) 58)
  have g6 := hp_new (w3.alloc (.cells (Res 0 0 0 0) 58)) (.cells (Res 0 0 0 0) 58)
  rw [alloc_size] at g6
  have hk4 : Kept none' w ((w3.alloc (.cells (Res 0 0 0 0) 58)).alloc (.cells (Res 0 0 0 0) 58)) := (hk13.alloc _).alloc _
  have hsz := hk13.size
  generalize (w3.alloc (.cells (Res 0 0 0 0) 58)).alloc (.cells (Res 0 0 0 0) 58) = w4 at g5 g6 hk4 ⊢
  refine W_store (by simp) (by simp) (res_box 7 1 2 0 g5 rfl) (stab_nil _ _ _) ?_
  have g51 := put_same (o := .cells (Res 7 1 2 0) 58) (blk_lt g5)
  have g61 := (put_other (o := .cells (Res 7 1 2 0) 58) (show w3.heap.size + 1 ≠ w3.heap.size by omega)).trans g6
  have hk5 := hk4.putNew hsz (.cells (Res 7 1 2 0) 58)
  generalize put w4 _ _ = w5 at g51 g61 hk5 ⊢
  refine W_store (by simp) (by simp) (res_box 0 1 1 62 g61 rfl) (stab_nil _ _ _) ?_
  have g52 := (put_other (o := .cells (Res 0 1 1 62) 58) (show w3.heap.size ≠ w3.heap.size + 1 by omega)).trans g51
  have g62 := put_same (o := .cells (Res 0 1 1 62) 58) (blk_lt g61)
  have hk6 := hk5.putNew (b := w3.heap.size + 1) (by omega) (.cells (Res 0 1 1 62) 58)
  generalize put w5 _ _ = w6 at g52 g62 hk6 ⊢
  simp [res_row g52, res_row g62]
  exact hk6

@[simp] theorem res_0 (v p n e : Int) : (Res v p n e)[0]? = some (.int .u64 v) := rfl
@[simp] theorem res_3 (v p n e : Int) : (Res v p n e)[3]? = some (.int .i64 e) := rfl

/-! Counting. -/
theorem mod_k (x d : Int) (hd : 0 < d) : ∃ k : Nat, (k : Int) < d ∧ (IntKind.u64.wrap x).tmod d = k := by
  have h0 := wrap_u64_nonneg x
  have h1 := Int.tmod_nonneg d h0
  have h2 := Int.tmod_lt_of_pos (IntKind.u64.wrap x) hd
  exact ⟨((IntKind.u64.wrap x).tmod d).toNat, by omega, by omega⟩
theorem fset_fset {α : Type} (f : Nat → α) (i : Nat) (x y : α) : fset (fset f i x) i y = fset f i y := by
  funext j; unfold fset; split <;> rfl
def countCode (k : Int) : List Ins := [⟨183, 0, 0, 0, 0⟩, ⟨7, 0, 0, 0, 1⟩, ⟨85, 0, 0, -2, k⟩, ⟨149, 0, 0, 0, 0⟩]
def cst (j : Int) (pos : Int) : VSt := { startSt with r := fset startSt.r 0 (num j), pos := pos }
theorem count_0 (k : Int) (m : RMem) : vstep (countCode k) 0 [] startSt m = some (cst 0 1, m) := rfl
theorem count_1 (k : Int) (m : RMem) (j : Nat) (h : j < 5000) : vstep (countCode k) 0 [] (cst j 1) m = some (cst ((j + 1 : Nat) : Int) 2, m) := by
  have e : vstep (countCode k) 0 [] (cst j 1) m = some ({ cst j 1 with r := fset (cst j 1).r 0 (num (IntKind.u64.wrap ((j : Int) + 1))), pos := 2 }, m) := rfl
  rw [e, u64w (by omega) (by omega)]
  have : (cst j 1).r = fset startSt.r 0 (num j) := rfl
  rw [this, fset_fset]
  rfl
theorem count_2 (k : Nat) (hk : k < 5000) (m : RMem) (j : Nat) : vstep (countCode k) 0 [] (cst j 2) m = some (cst j (if j = k then 3 else 1), m) := by
  have e : vstep (countCode k) 0 [] (cst j 2) m = some (jumpedOf (cst j 2) ⟨85, 0, 0, -2, k⟩ (!decide ((j : Int) = IntKind.u64.wrap (IntKind.i64.wrap k))), m) := by kernel_rfl
  rw [e, i64w (by omega) (by omega), u64w (by omega) (by omega)]
  by_cases h : j = k
  · subst h; simp; rfl
  · have h' : ¬ ((j : Int) = k) := by omega
    simp [h, h']; rfl
theorem vrun_step {xs : List Ins} {c : Int} {us : List Int} {f n : Nat} {s s' : VSt} {m m' : RMem} (h : vstep xs c us s m = some (s', m')) (hd : s'.done = false) : vrun xs c us (f + 1) n s m = vrun xs c us f (n + 1) s' m' := by
  simp only [vrun, h, hd]; rfl
theorem vrun_end {xs : List Ins} {c : Int} {us : List Int} {f n : Nat} {s s' : VSt} {m m' : RMem} (h : vstep xs c us s m = some (s', m')) (hd : s'.done = true) : vrun xs c us (f + 1) n s m = ((s'.r 0).n, s'.pos, (n : Int) + 1, 0) := by
  simp only [vrun, h, hd]; rfl
theorem vrun_stop {xs : List Ins} {c : Int} {us : List Int} {f n : Nat} {s : VSt} {m : RMem} (h : vstep xs c us s m = none) : vrun xs c us (f + 1) n s m = (0, s.pos, (n : Int), 14) := by
  simp only [vrun, h]
theorem count_rounds (k : Nat) (hk : k < 5000) (m : RMem) (f : Nat) : ∀ (r j n : Nat), j + (r + 1) = k → vrun (countCode k) 0 [] (f + 2 * (r + 1)) n (cst j 1) m = vrun (countCode k) 0 [] f (n + 2 * (r + 1)) (cst k 3) m
  | 0, j, n, h => by
    have e : j + 1 = k := by omega
    rw [show f + 2 * (0 + 1) = f + 1 + 1 from rfl, vrun_step (count_1 _ m j (by omega)) rfl, vrun_step (count_2 k hk m (j + 1)) rfl, if_pos e, e]
  | r + 1, j, n, h => by
    rw [show f + 2 * (r + 1 + 1) = f + 2 * (r + 1) + 1 + 1 from by omega, vrun_step (count_1 _ m j (by omega)) rfl, vrun_step (count_2 k hk m (j + 1)) rfl, if_neg (by omega),
      count_rounds k hk m f r (j + 1) (n + 1 + 1) (by omega)]
    congr 1; omega
theorem count_a (k : Nat) (hk : k < 1000) (maps : Value) : runOf (countCode ((k + 1 : Nat) : Int)) (fun _ => 0) 0 [] 4096 maps = (((k + 1 : Nat) : Int), 3, 2 * (k : Int) + 4, 0) := by
  unfold runOf
  have hf : fuelOf 4096 = (4096 - (2 * k + 4)) + 1 + 2 * (k + 1) + 1 := by show 4096 = _; omega
  rw [hf, vrun_step (count_0 _ _) rfl]
  have h0 : cst 0 1 = cst ((0 : Nat) : Int) 1 := rfl
  rw [h0, count_rounds (k + 1) (by omega) _ _ k 0 _ (by omega)]
  rw [vrun_end (s' := { cst ((k + 1 : Nat) : Int) 3 with done := true }) rfl rfl]
  refine Prod.ext rfl (Prod.ext rfl (Prod.ext ?_ rfl))
  simp; omega
theorem count_b (k : Nat) (hk : k < 1000) (maps : Value) : runOf (countCode ((k + 1 : Nat) : Int)) (fun _ => 0) 0 [] (2 * (k : Int) + 3) maps = (0, 3, 2 * (k : Int) + 3, 62) := by
  unfold runOf
  have hf : fuelOf (2 * (k : Int) + 3) = 0 + 2 * (k + 1) + 1 := by unfold fuelOf; omega
  rw [hf, vrun_step (count_0 _ _) rfl]
  have h0 : cst 0 1 = cst ((0 : Nat) : Int) 1 := rfl
  rw [h0, count_rounds (k + 1) (by omega) _ _ k 0 _ (by omega)]
  refine Prod.ext rfl (Prod.ext rfl (Prod.ext ?_ rfl))
  simp [vrun]; omega
theorem try_c (by' : Int) (maps : Value) : runOf (tryCode by') (fun _ => 0) 0 [] 9 maps = (IntKind.u64.wrap (IntKind.i64.wrap by'), 1, 2, 0) := by kernel_rfl

set_option maxHeartbeats 4000000 in
theorem counts_ret (n by' : Int) (w : World) : Ret Try.prog 4 [.int .i64 n, .int .i32 by'] w fun v w' => v = .bool true ∧ Kept none' w w' := by
  refine ret_of_W Try.func4 rfl nok_tipstafflaw20_VmCounts ?_
  obtain ⟨k, hk, ek⟩ := mod_k n 1000 (by omega)
  have e1 : IntKind.i32.wrap (k : Int) = k := by rw [IntKind.wrap_i32]; omega
  have e2 : IntKind.i32.wrap ((k : Int) + 1) = (k : Int) + 1 := by rw [IntKind.wrap_i32]; omega
  have e3 : IntKind.i64.wrap (k : Int) = k := i64w (by omega) (by omega)
  have e4 : IntKind.i64.wrap (2 * (k : Int)) = 2 * k := i64w (by omega) (by omega)
  have e5 : IntKind.i64.wrap (2 * (k : Int) + 3) = 2 * k + 3 := i64w (by omega) (by omega)
  have e6 : IntKind.i64.wrap (2 * (k : Int) + 4) = 2 * k + 4 := i64w (by omega) (by omega)
  have e7 : IntKind.u64.wrap (k : Int) = k := u64w (by omega) (by omega)
  have e8 : IntKind.u64.wrap ((k : Int) + 1) = (k : Int) + 1 := u64w (by omega) (by omega)
  simp [nc_tipstafflaw20_VmCounts, Ins.zero, ek, e1, e2]
  have hc : [({ op := 183, dst := 0, src := 0, off := 0, imm := 0 } : Ins), { op := 7, dst := 0, src := 0, off := 0, imm := 1 }, { op := 85, dst := 0, src := 0, off := -2, imm := (k : Int) + 1 }, { op := 149, dst := 0, src := 0, off := 0, imm := 0 }] = countCode ((k + 1 : Nat) : Int) := rfl
  rw [hc]
  have h1 := hp_new w (.cells (codeArr (countCode ((k + 1 : Nat) : Int))) 55)
  have hk1 : Kept none' w (w.alloc (.cells (codeArr (countCode ((k + 1 : Nat) : Int))) 55)) := (Kept.refl _ _).alloc _
  generalize w.alloc (.cells (codeArr (countCode ((k + 1 : Nat) : Int))) 55) = w1 at h1 hk1 ⊢
  refine W_call0 (by simp) (run_plain (n' := 4) (c := 4) h1 rfl (by simp [countCode]) (by kernel_rfl) (by omega) (count_a k (by omega))) ?_
  rintro r w2 ⟨rfl, hk2⟩
  have h2 := hk2.has h1 (fun h => h)
  have g7 := hp_new w2 (.cells (Res 0 0 0 0) 58)
  have h3 := hp_old h2 (.cells (Res 0 0 0 0) 58)
  have hk3 : Kept none' w (w2.alloc (.cells (Res 0 0 0 0) 58)) := (hk1.trans hk2).alloc _
  have hsz2 := (hk1.trans hk2).size
  simp [e3, e4, e5]
  generalize w2.alloc (.cells (Res 0 0 0 0) 58) = w3 at g7 h3 hk3 ⊢
  have hne := blk_lt h2
  generalize w2.heap.size = p7 at *
  refine W_store (by simp) (by simp) (res_box ((k + 1 : Nat) : Int) 3 (2 * (k : Int) + 4) 0 g7 rfl) (stab_nil _ _ _) ?_
  have g71 := put_same (o := .cells (Res ((k + 1 : Nat) : Int) 3 (2 * (k : Int) + 4) 0) 58) (blk_lt g7)
  have h31 := (put_other (o := .cells (Res ((k + 1 : Nat) : Int) 3 (2 * (k : Int) + 4) 0) 58) (show w.heap.size ≠ p7 by omega)).trans h3
  have hk4 := hk3.putNew hsz2 (.cells (Res ((k + 1 : Nat) : Int) 3 (2 * (k : Int) + 4) 0) 58)
  generalize put w3 _ _ = w4 at g71 h31 hk4 ⊢
  simp [e3, e4, e5]
  refine W_call0 (by simp [e3, e4, e5]) (run_plain (n' := 4) (c := 4) h31 rfl (by simp [countCode]) (by kernel_rfl) (by omega) (count_b k (by omega))) ?_
  rintro r w5 ⟨rfl, hk5⟩
  have g72 := hk5.has g71 (fun h => h)
  have g9 := hp_new w5 (.cells (Res 0 0 0 0) 58)
  have g73 := hp_old g72 (.cells (Res 0 0 0 0) 58)
  have hk6 : Kept none' w (w5.alloc (.cells (Res 0 0 0 0) 58)) := (hk4.trans hk5).alloc _
  have hsz5 := (hk4.trans hk5).size
  have hne7 := blk_lt g72
  simp
  generalize w5.alloc (.cells (Res 0 0 0 0) 58) = w6 at g9 g73 hk6 ⊢
  generalize w5.heap.size = p9 at *
  refine W_store (by simp) (by simp) (res_box 0 3 (2 * (k : Int) + 3) 62 g9 rfl) (stab_nil _ _ _) ?_
  have g91 := put_same (o := .cells (Res 0 3 (2 * (k : Int) + 3) 62) 58) (blk_lt g9)
  have g74 := (put_other (o := .cells (Res 0 3 (2 * (k : Int) + 3) 62) 58) (show p7 ≠ p9 by omega)).trans g73
  have hk7 := hk6.putNew hsz5 (.cells (Res 0 3 (2 * (k : Int) + 3) 62) 58)
  generalize put w6 _ _ = w7 at g91 g74 hk7 ⊢
  simp
  refine W_call0 (by simp) (runs_ret w7) ?_
  rintro r w8 ⟨rfl, hk8⟩
  have g92 := hk8.has g91 (fun h => h)
  have g75 := hk8.has g74 (fun h => h)
  have hk08 := hk7.trans hk8
  have c2 : wcell w8 p9 2 = some (.int .i64 (2 * (k : Int) + 3)) := by rw [wcell_of g92]; rfl
  have c3 : wcell w8 p9 3 = some (.int .i64 62) := by rw [wcell_of g92]; rfl
  simp [Ins.zero, res_row g75, e3, e4, e5, e6, e7, e8, c2, c3]
  refine W_yes (by simp) ?_
  simp
  have hc2 : [({ op := 183, dst := 0, src := 0, off := 0, imm := by' } : Ins), { op := 149, dst := 0, src := 0, off := 0, imm := 0 }] = tryCode by' := rfl
  rw [hc2]
  have h9 := hp_new w8 (.cells (codeArr (tryCode by')) 55)
  have hk9 : Kept none' w (w8.alloc (.cells (codeArr (tryCode by')) 55)) := hk08.alloc _
  generalize w8.alloc (.cells (codeArr (tryCode by')) 55) = w9 at h9 hk9 ⊢
  refine W_yes (by simp) ?_
  refine W_call0 (by simp) (run_plain (n' := 2) (c := 2) h9 rfl (by simp [tryCode]) (by kernel_rfl) (by omega) (try_c by')) ?_
  rintro r w10 ⟨rfl, hk10⟩
  simp
  exact hk9.trans hk10
end Go.Proofs.Ytepbpapbkonhnaa
