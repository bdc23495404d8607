/- VerifyCompares: what it tells, whatever it is given (mkvcomp.py). -/
import Derived.Test.YtfdeipckfdogfaaGreatXsvc0
import Derived.Test.YtfdeipckfdogfaaGreatXsvc1
import Derived.Test.YtfdeipckfdogfaaGreatXsvc2
import Derived.Test.YtfdeipckfdogfaaGreatXsvc3
import Derived.Test.YtfdeipckfdogfaaGreatXsvc4
import Derived.Test.YtfdeipckfdogfaaGreatXsvc5
set_option maxRecDepth 100000
set_option linter.unusedVariables false
namespace Go.Proofs.YtfdeipckfdogfaaGreat
open Go Go.Eng
theorem vcomp_k_0_0 (x0 x1 n : Int) (hr_n : -2147483648 ≤ n ∧ n ≤ 2147483647) (w : World) (e0 : res64 x0 11 = 0) (e1 : res64 x1 6 = 0) : Ret Tryz.prog 12 [.int .i64 x0, .int .i64 x1, .int .i32 n] w fun v w' => v = .bool true ∧ Kept none' w w' := by
  rcases (by omega : n < 0 ∨ (0 ≤ n ∧ n < 9) ∨ n = 9 ∨ 9 < n) with hc0 | hc0 | hc0 | hc0
  · exact vcomp_go (vc_neg_sy n hr_n hc0) x0 x1 n w 0 0 e0 e1 (.chan (some 0)) rfl rfl (vcomp_0_0_neg n hr_n hc0)
  · exact vcomp_go (vc_low_sy n hr_n hc0) x0 x1 n w 0 0 e0 e1 (.chan (some 0)) rfl rfl (vcomp_0_0_low n hr_n hc0)
  · subst hc0; exact vcomp_go sy00 x0 x1 _ w 0 0 e0 e1 (.int .i32 9) rfl rfl vcomp_0_0_nine
  · exact vcomp_go (vc_high_sy n hr_n hc0) x0 x1 n w 0 0 e0 e1 (.chan (some 0)) rfl rfl (vcomp_0_0_high n hr_n hc0)
theorem vcomp_k_0_1 (x0 x1 n : Int) (hr_n : -2147483648 ≤ n ∧ n ≤ 2147483647) (w : World) (e0 : res64 x0 11 = 0) (e1 : res64 x1 6 = 1) : Ret Tryz.prog 12 [.int .i64 x0, .int .i64 x1, .int .i32 n] w fun v w' => v = .bool true ∧ Kept none' w w' := by
  by_cases hc0 : n = 0
  · subst hc0; exact vcomp_go sy00 x0 x1 _ w 0 1 e0 e1 (.int .i32 0) rfl rfl vcomp_0_1_zero
  · exact vcomp_go (vc_nz_sy n hr_n hc0) x0 x1 n w 0 1 e0 e1 (.chan (some 0)) rfl rfl (vcomp_0_1_nz n hr_n hc0)
theorem vcomp_k_0_2 (x0 x1 n : Int) (hr_n : -2147483648 ≤ n ∧ n ≤ 2147483647) (w : World) (e0 : res64 x0 11 = 0) (e1 : res64 x1 6 = 2) : Ret Tryz.prog 12 [.int .i64 x0, .int .i64 x1, .int .i32 n] w fun v w' => v = .bool true ∧ Kept none' w w' := by
  by_cases hc0 : n = 0
  · subst hc0; exact vcomp_go sy00 x0 x1 _ w 0 2 e0 e1 (.int .i32 0) rfl rfl vcomp_0_2_zero
  · exact vcomp_go (vc_nz_sy n hr_n hc0) x0 x1 n w 0 2 e0 e1 (.chan (some 0)) rfl rfl (vcomp_0_2_nz n hr_n hc0)
theorem vcomp_k_0_3 (x0 x1 n : Int) (hr_n : -2147483648 ≤ n ∧ n ≤ 2147483647) (w : World) (e0 : res64 x0 11 = 0) (e1 : res64 x1 6 = 3) : Ret Tryz.prog 12 [.int .i64 x0, .int .i64 x1, .int .i32 n] w fun v w' => v = .bool true ∧ Kept none' w w' := by
  rcases (by omega : n < 0 ∨ (0 ≤ n ∧ n < 9) ∨ n = 9 ∨ 9 < n) with hc0 | hc0 | hc0 | hc0
  · exact vcomp_go (vc_neg_sy n hr_n hc0) x0 x1 n w 0 3 e0 e1 (.chan (some 0)) rfl rfl (vcomp_0_3_neg n hr_n hc0)
  · exact vcomp_go (vc_low_sy n hr_n hc0) x0 x1 n w 0 3 e0 e1 (.chan (some 0)) rfl rfl (vcomp_0_3_low n hr_n hc0)
  · subst hc0; exact vcomp_go sy00 x0 x1 _ w 0 3 e0 e1 (.int .i32 9) rfl rfl vcomp_0_3_nine
  · exact vcomp_go (vc_high_sy n hr_n hc0) x0 x1 n w 0 3 e0 e1 (.chan (some 0)) rfl rfl (vcomp_0_3_high n hr_n hc0)
theorem vcomp_k_0_4 (x0 x1 n : Int) (hr_n : -2147483648 ≤ n ∧ n ≤ 2147483647) (w : World) (e0 : res64 x0 11 = 0) (e1 : res64 x1 6 = 4) : Ret Tryz.prog 12 [.int .i64 x0, .int .i64 x1, .int .i32 n] w fun v w' => v = .bool true ∧ Kept none' w w' := by
  by_cases hc0 : n = 0
  · subst hc0; exact vcomp_go sy00 x0 x1 _ w 0 4 e0 e1 (.int .i32 0) rfl rfl vcomp_0_4_zero
  · exact vcomp_go (vc_nz_sy n hr_n hc0) x0 x1 n w 0 4 e0 e1 (.chan (some 0)) rfl rfl (vcomp_0_4_nz n hr_n hc0)
theorem vcomp_k_0_5 (x0 x1 n : Int) (hr_n : -2147483648 ≤ n ∧ n ≤ 2147483647) (w : World) (e0 : res64 x0 11 = 0) (e1 : res64 x1 6 = 5) : Ret Tryz.prog 12 [.int .i64 x0, .int .i64 x1, .int .i32 n] w fun v w' => v = .bool true ∧ Kept none' w w' := by
  by_cases hc0 : n = 0
  · subst hc0; exact vcomp_go sy00 x0 x1 _ w 0 5 e0 e1 (.int .i32 0) rfl rfl vcomp_0_5_zero
  · exact vcomp_go (vc_nz_sy n hr_n hc0) x0 x1 n w 0 5 e0 e1 (.chan (some 0)) rfl rfl (vcomp_0_5_nz n hr_n hc0)
theorem vcomp_k_1_0 (x0 x1 n : Int) (hr_n : -2147483648 ≤ n ∧ n ≤ 2147483647) (w : World) (e0 : res64 x0 11 = 1) (e1 : res64 x1 6 = 0) : Ret Tryz.prog 12 [.int .i64 x0, .int .i64 x1, .int .i32 n] w fun v w' => v = .bool true ∧ Kept none' w w' := by
  rcases (by omega : n < 0 ∨ (0 ≤ n ∧ n < 9) ∨ n = 9 ∨ 9 < n) with hc0 | hc0 | hc0 | hc0
  · exact vcomp_go (vc_neg_sy n hr_n hc0) x0 x1 n w 1 0 e0 e1 (.chan (some 0)) rfl rfl (vcomp_1_0_neg n hr_n hc0)
  · exact vcomp_go (vc_low_sy n hr_n hc0) x0 x1 n w 1 0 e0 e1 (.chan (some 0)) rfl rfl (vcomp_1_0_low n hr_n hc0)
  · subst hc0; exact vcomp_go sy00 x0 x1 _ w 1 0 e0 e1 (.int .i32 9) rfl rfl vcomp_1_0_nine
  · exact vcomp_go (vc_high_sy n hr_n hc0) x0 x1 n w 1 0 e0 e1 (.chan (some 0)) rfl rfl (vcomp_1_0_high n hr_n hc0)
theorem vcomp_k_1_1 (x0 x1 n : Int) (hr_n : -2147483648 ≤ n ∧ n ≤ 2147483647) (w : World) (e0 : res64 x0 11 = 1) (e1 : res64 x1 6 = 1) : Ret Tryz.prog 12 [.int .i64 x0, .int .i64 x1, .int .i32 n] w fun v w' => v = .bool true ∧ Kept none' w w' := by
  by_cases hc0 : n = 0
  · subst hc0; exact vcomp_go sy00 x0 x1 _ w 1 1 e0 e1 (.int .i32 0) rfl rfl vcomp_1_1_zero
  · exact vcomp_go (vc_nz_sy n hr_n hc0) x0 x1 n w 1 1 e0 e1 (.chan (some 0)) rfl rfl (vcomp_1_1_nz n hr_n hc0)
theorem vcomp_k_1_2 (x0 x1 n : Int) (hr_n : -2147483648 ≤ n ∧ n ≤ 2147483647) (w : World) (e0 : res64 x0 11 = 1) (e1 : res64 x1 6 = 2) : Ret Tryz.prog 12 [.int .i64 x0, .int .i64 x1, .int .i32 n] w fun v w' => v = .bool true ∧ Kept none' w w' := by
  by_cases hc0 : n = 0
  · subst hc0; exact vcomp_go sy00 x0 x1 _ w 1 2 e0 e1 (.int .i32 0) rfl rfl vcomp_1_2_zero
  · exact vcomp_go (vc_nz_sy n hr_n hc0) x0 x1 n w 1 2 e0 e1 (.chan (some 0)) rfl rfl (vcomp_1_2_nz n hr_n hc0)
theorem vcomp_k_1_3 (x0 x1 n : Int) (hr_n : -2147483648 ≤ n ∧ n ≤ 2147483647) (w : World) (e0 : res64 x0 11 = 1) (e1 : res64 x1 6 = 3) : Ret Tryz.prog 12 [.int .i64 x0, .int .i64 x1, .int .i32 n] w fun v w' => v = .bool true ∧ Kept none' w w' := by
  rcases (by omega : n < 0 ∨ (0 ≤ n ∧ n < 9) ∨ n = 9 ∨ 9 < n) with hc0 | hc0 | hc0 | hc0
  · exact vcomp_go (vc_neg_sy n hr_n hc0) x0 x1 n w 1 3 e0 e1 (.chan (some 0)) rfl rfl (vcomp_1_3_neg n hr_n hc0)
  · exact vcomp_go (vc_low_sy n hr_n hc0) x0 x1 n w 1 3 e0 e1 (.chan (some 0)) rfl rfl (vcomp_1_3_low n hr_n hc0)
  · subst hc0; exact vcomp_go sy00 x0 x1 _ w 1 3 e0 e1 (.int .i32 9) rfl rfl vcomp_1_3_nine
  · exact vcomp_go (vc_high_sy n hr_n hc0) x0 x1 n w 1 3 e0 e1 (.chan (some 0)) rfl rfl (vcomp_1_3_high n hr_n hc0)
theorem vcomp_k_1_4 (x0 x1 n : Int) (hr_n : -2147483648 ≤ n ∧ n ≤ 2147483647) (w : World) (e0 : res64 x0 11 = 1) (e1 : res64 x1 6 = 4) : Ret Tryz.prog 12 [.int .i64 x0, .int .i64 x1, .int .i32 n] w fun v w' => v = .bool true ∧ Kept none' w w' := by
  by_cases hc0 : n = 0
  · subst hc0; exact vcomp_go sy00 x0 x1 _ w 1 4 e0 e1 (.int .i32 0) rfl rfl vcomp_1_4_zero
  · exact vcomp_go (vc_nz_sy n hr_n hc0) x0 x1 n w 1 4 e0 e1 (.chan (some 0)) rfl rfl (vcomp_1_4_nz n hr_n hc0)
theorem vcomp_k_1_5 (x0 x1 n : Int) (hr_n : -2147483648 ≤ n ∧ n ≤ 2147483647) (w : World) (e0 : res64 x0 11 = 1) (e1 : res64 x1 6 = 5) : Ret Tryz.prog 12 [.int .i64 x0, .int .i64 x1, .int .i32 n] w fun v w' => v = .bool true ∧ Kept none' w w' := by
  by_cases hc0 : n = 0
  · subst hc0; exact vcomp_go sy00 x0 x1 _ w 1 5 e0 e1 (.int .i32 0) rfl rfl vcomp_1_5_zero
  · exact vcomp_go (vc_nz_sy n hr_n hc0) x0 x1 n w 1 5 e0 e1 (.chan (some 0)) rfl rfl (vcomp_1_5_nz n hr_n hc0)
theorem vcomp_k_2_0 (x0 x1 n : Int) (hr_n : -2147483648 ≤ n ∧ n ≤ 2147483647) (w : World) (e0 : res64 x0 11 = 2) (e1 : res64 x1 6 = 0) : Ret Tryz.prog 12 [.int .i64 x0, .int .i64 x1, .int .i32 n] w fun v w' => v = .bool true ∧ Kept none' w w' := by
  rcases (by omega : n < 0 ∨ (0 ≤ n ∧ n < 9) ∨ n = 9 ∨ 9 < n) with hc0 | hc0 | hc0 | hc0
  · exact vcomp_go (vc_neg_sy n hr_n hc0) x0 x1 n w 2 0 e0 e1 (.chan (some 0)) rfl rfl (vcomp_2_0_neg n hr_n hc0)
  · exact vcomp_go (vc_low_sy n hr_n hc0) x0 x1 n w 2 0 e0 e1 (.chan (some 0)) rfl rfl (vcomp_2_0_low n hr_n hc0)
  · subst hc0; exact vcomp_go sy00 x0 x1 _ w 2 0 e0 e1 (.int .i32 9) rfl rfl vcomp_2_0_nine
  · exact vcomp_go (vc_high_sy n hr_n hc0) x0 x1 n w 2 0 e0 e1 (.chan (some 0)) rfl rfl (vcomp_2_0_high n hr_n hc0)
theorem vcomp_k_2_1 (x0 x1 n : Int) (hr_n : -2147483648 ≤ n ∧ n ≤ 2147483647) (w : World) (e0 : res64 x0 11 = 2) (e1 : res64 x1 6 = 1) : Ret Tryz.prog 12 [.int .i64 x0, .int .i64 x1, .int .i32 n] w fun v w' => v = .bool true ∧ Kept none' w w' := by
  by_cases hc0 : n = 0
  · subst hc0; exact vcomp_go sy00 x0 x1 _ w 2 1 e0 e1 (.int .i32 0) rfl rfl vcomp_2_1_zero
  · exact vcomp_go (vc_nz_sy n hr_n hc0) x0 x1 n w 2 1 e0 e1 (.chan (some 0)) rfl rfl (vcomp_2_1_nz n hr_n hc0)
theorem vcomp_k_2_2 (x0 x1 n : Int) (hr_n : -2147483648 ≤ n ∧ n ≤ 2147483647) (w : World) (e0 : res64 x0 11 = 2) (e1 : res64 x1 6 = 2) : Ret Tryz.prog 12 [.int .i64 x0, .int .i64 x1, .int .i32 n] w fun v w' => v = .bool true ∧ Kept none' w w' := by
  by_cases hc0 : n = 0
  · subst hc0; exact vcomp_go sy00 x0 x1 _ w 2 2 e0 e1 (.int .i32 0) rfl rfl vcomp_2_2_zero
  · exact vcomp_go (vc_nz_sy n hr_n hc0) x0 x1 n w 2 2 e0 e1 (.chan (some 0)) rfl rfl (vcomp_2_2_nz n hr_n hc0)
theorem vcomp_k_2_3 (x0 x1 n : Int) (hr_n : -2147483648 ≤ n ∧ n ≤ 2147483647) (w : World) (e0 : res64 x0 11 = 2) (e1 : res64 x1 6 = 3) : Ret Tryz.prog 12 [.int .i64 x0, .int .i64 x1, .int .i32 n] w fun v w' => v = .bool true ∧ Kept none' w w' := by
  rcases (by omega : n < 0 ∨ (0 ≤ n ∧ n < 9) ∨ n = 9 ∨ 9 < n) with hc0 | hc0 | hc0 | hc0
  · exact vcomp_go (vc_neg_sy n hr_n hc0) x0 x1 n w 2 3 e0 e1 (.chan (some 0)) rfl rfl (vcomp_2_3_neg n hr_n hc0)
  · exact vcomp_go (vc_low_sy n hr_n hc0) x0 x1 n w 2 3 e0 e1 (.chan (some 0)) rfl rfl (vcomp_2_3_low n hr_n hc0)
  · subst hc0; exact vcomp_go sy00 x0 x1 _ w 2 3 e0 e1 (.int .i32 9) rfl rfl vcomp_2_3_nine
  · exact vcomp_go (vc_high_sy n hr_n hc0) x0 x1 n w 2 3 e0 e1 (.chan (some 0)) rfl rfl (vcomp_2_3_high n hr_n hc0)
theorem vcomp_k_2_4 (x0 x1 n : Int) (hr_n : -2147483648 ≤ n ∧ n ≤ 2147483647) (w : World) (e0 : res64 x0 11 = 2) (e1 : res64 x1 6 = 4) : Ret Tryz.prog 12 [.int .i64 x0, .int .i64 x1, .int .i32 n] w fun v w' => v = .bool true ∧ Kept none' w w' := by
  by_cases hc0 : n = 0
  · subst hc0; exact vcomp_go sy00 x0 x1 _ w 2 4 e0 e1 (.int .i32 0) rfl rfl vcomp_2_4_zero
  · exact vcomp_go (vc_nz_sy n hr_n hc0) x0 x1 n w 2 4 e0 e1 (.chan (some 0)) rfl rfl (vcomp_2_4_nz n hr_n hc0)
theorem vcomp_k_2_5 (x0 x1 n : Int) (hr_n : -2147483648 ≤ n ∧ n ≤ 2147483647) (w : World) (e0 : res64 x0 11 = 2) (e1 : res64 x1 6 = 5) : Ret Tryz.prog 12 [.int .i64 x0, .int .i64 x1, .int .i32 n] w fun v w' => v = .bool true ∧ Kept none' w w' := by
  by_cases hc0 : n = 0
  · subst hc0; exact vcomp_go sy00 x0 x1 _ w 2 5 e0 e1 (.int .i32 0) rfl rfl vcomp_2_5_zero
  · exact vcomp_go (vc_nz_sy n hr_n hc0) x0 x1 n w 2 5 e0 e1 (.chan (some 0)) rfl rfl (vcomp_2_5_nz n hr_n hc0)
theorem vcomp_k_3_0 (x0 x1 n : Int) (hr_n : -2147483648 ≤ n ∧ n ≤ 2147483647) (w : World) (e0 : res64 x0 11 = 3) (e1 : res64 x1 6 = 0) : Ret Tryz.prog 12 [.int .i64 x0, .int .i64 x1, .int .i32 n] w fun v w' => v = .bool true ∧ Kept none' w w' := by
  by_cases hs : n < 0
  · have hc0 := hs
    rcases and9_cases n with hc1 | hc1 | hc1 | hc1
    · exact vcomp_go (vc_nand0_sy n hr_n hc0 hc1) x0 x1 n w 3 0 e0 e1 (.chan (some 0)) rfl rfl (vcomp_3_0_nand0 n hr_n hc0 hc1)
    · exact vcomp_go (vc_nand1_sy n hr_n hc0 hc1) x0 x1 n w 3 0 e0 e1 (.chan (some 0)) rfl rfl (vcomp_3_0_nand1 n hr_n hc0 hc1)
    · exact vcomp_go (vc_nand8_sy n hr_n hc0 hc1) x0 x1 n w 3 0 e0 e1 (.chan (some 0)) rfl rfl (vcomp_3_0_nand8 n hr_n hc0 hc1)
    · exact vcomp_go (vc_nand9_sy n hr_n hc0 hc1) x0 x1 n w 3 0 e0 e1 (.chan (some 0)) rfl rfl (vcomp_3_0_nand9 n hr_n hc0 hc1)
  · have hc0 := (Int.not_lt.1 hs)
    rcases and9_cases n with hc1 | hc1 | hc1 | hc1
    · exact vcomp_go (vc_pand0_sy n hr_n hc0 hc1) x0 x1 n w 3 0 e0 e1 (.chan (some 0)) rfl rfl (vcomp_3_0_pand0 n hr_n hc0 hc1)
    · exact vcomp_go (vc_pand1_sy n hr_n hc0 hc1) x0 x1 n w 3 0 e0 e1 (.chan (some 0)) rfl rfl (vcomp_3_0_pand1 n hr_n hc0 hc1)
    · exact vcomp_go (vc_pand8_sy n hr_n hc0 hc1) x0 x1 n w 3 0 e0 e1 (.chan (some 0)) rfl rfl (vcomp_3_0_pand8 n hr_n hc0 hc1)
    · exact vcomp_go (vc_pand9_sy n hr_n hc0 hc1) x0 x1 n w 3 0 e0 e1 (.chan (some 0)) rfl rfl (vcomp_3_0_pand9 n hr_n hc0 hc1)
theorem vcomp_k_3_1 (x0 x1 n : Int) (hr_n : -2147483648 ≤ n ∧ n ≤ 2147483647) (w : World) (e0 : res64 x0 11 = 3) (e1 : res64 x1 6 = 1) : Ret Tryz.prog 12 [.int .i64 x0, .int .i64 x1, .int .i32 n] w fun v w' => v = .bool true ∧ Kept none' w w' := by
  by_cases hc0 : n = 0
  · subst hc0; exact vcomp_go sy00 x0 x1 _ w 3 1 e0 e1 (.int .i32 0) rfl rfl vcomp_3_1_zero
  · exact vcomp_go (vc_nz_sy n hr_n hc0) x0 x1 n w 3 1 e0 e1 (.chan (some 0)) rfl rfl (vcomp_3_1_nz n hr_n hc0)
theorem vcomp_k_3_2 (x0 x1 n : Int) (hr_n : -2147483648 ≤ n ∧ n ≤ 2147483647) (w : World) (e0 : res64 x0 11 = 3) (e1 : res64 x1 6 = 2) : Ret Tryz.prog 12 [.int .i64 x0, .int .i64 x1, .int .i32 n] w fun v w' => v = .bool true ∧ Kept none' w w' := by
  by_cases hc0 : n = 0
  · subst hc0; exact vcomp_go sy00 x0 x1 _ w 3 2 e0 e1 (.int .i32 0) rfl rfl vcomp_3_2_zero
  · exact vcomp_go (vc_nz_sy n hr_n hc0) x0 x1 n w 3 2 e0 e1 (.chan (some 0)) rfl rfl (vcomp_3_2_nz n hr_n hc0)
theorem vcomp_k_3_3 (x0 x1 n : Int) (hr_n : -2147483648 ≤ n ∧ n ≤ 2147483647) (w : World) (e0 : res64 x0 11 = 3) (e1 : res64 x1 6 = 3) : Ret Tryz.prog 12 [.int .i64 x0, .int .i64 x1, .int .i32 n] w fun v w' => v = .bool true ∧ Kept none' w w' := by
  by_cases hs : n < 0
  · have hc0 := hs
    rcases and9_cases n with hc1 | hc1 | hc1 | hc1
    · exact vcomp_go (vc_nand0_sy n hr_n hc0 hc1) x0 x1 n w 3 3 e0 e1 (.chan (some 0)) rfl rfl (vcomp_3_3_nand0 n hr_n hc0 hc1)
    · exact vcomp_go (vc_nand1_sy n hr_n hc0 hc1) x0 x1 n w 3 3 e0 e1 (.chan (some 0)) rfl rfl (vcomp_3_3_nand1 n hr_n hc0 hc1)
    · exact vcomp_go (vc_nand8_sy n hr_n hc0 hc1) x0 x1 n w 3 3 e0 e1 (.chan (some 0)) rfl rfl (vcomp_3_3_nand8 n hr_n hc0 hc1)
    · exact vcomp_go (vc_nand9_sy n hr_n hc0 hc1) x0 x1 n w 3 3 e0 e1 (.chan (some 0)) rfl rfl (vcomp_3_3_nand9 n hr_n hc0 hc1)
  · have hc0 := (Int.not_lt.1 hs)
    rcases and9_cases n with hc1 | hc1 | hc1 | hc1
    · exact vcomp_go (vc_pand0_sy n hr_n hc0 hc1) x0 x1 n w 3 3 e0 e1 (.chan (some 0)) rfl rfl (vcomp_3_3_pand0 n hr_n hc0 hc1)
    · exact vcomp_go (vc_pand1_sy n hr_n hc0 hc1) x0 x1 n w 3 3 e0 e1 (.chan (some 0)) rfl rfl (vcomp_3_3_pand1 n hr_n hc0 hc1)
    · exact vcomp_go (vc_pand8_sy n hr_n hc0 hc1) x0 x1 n w 3 3 e0 e1 (.chan (some 0)) rfl rfl (vcomp_3_3_pand8 n hr_n hc0 hc1)
    · exact vcomp_go (vc_pand9_sy n hr_n hc0 hc1) x0 x1 n w 3 3 e0 e1 (.chan (some 0)) rfl rfl (vcomp_3_3_pand9 n hr_n hc0 hc1)
theorem vcomp_k_3_4 (x0 x1 n : Int) (hr_n : -2147483648 ≤ n ∧ n ≤ 2147483647) (w : World) (e0 : res64 x0 11 = 3) (e1 : res64 x1 6 = 4) : Ret Tryz.prog 12 [.int .i64 x0, .int .i64 x1, .int .i32 n] w fun v w' => v = .bool true ∧ Kept none' w w' := by
  by_cases hc0 : n = 0
  · subst hc0; exact vcomp_go sy00 x0 x1 _ w 3 4 e0 e1 (.int .i32 0) rfl rfl vcomp_3_4_zero
  · exact vcomp_go (vc_nz_sy n hr_n hc0) x0 x1 n w 3 4 e0 e1 (.chan (some 0)) rfl rfl (vcomp_3_4_nz n hr_n hc0)
theorem vcomp_k_3_5 (x0 x1 n : Int) (hr_n : -2147483648 ≤ n ∧ n ≤ 2147483647) (w : World) (e0 : res64 x0 11 = 3) (e1 : res64 x1 6 = 5) : Ret Tryz.prog 12 [.int .i64 x0, .int .i64 x1, .int .i32 n] w fun v w' => v = .bool true ∧ Kept none' w w' := by
  by_cases hc0 : n = 0
  · subst hc0; exact vcomp_go sy00 x0 x1 _ w 3 5 e0 e1 (.int .i32 0) rfl rfl vcomp_3_5_zero
  · exact vcomp_go (vc_nz_sy n hr_n hc0) x0 x1 n w 3 5 e0 e1 (.chan (some 0)) rfl rfl (vcomp_3_5_nz n hr_n hc0)
theorem vcomp_k_4_0 (x0 x1 n : Int) (hr_n : -2147483648 ≤ n ∧ n ≤ 2147483647) (w : World) (e0 : res64 x0 11 = 4) (e1 : res64 x1 6 = 0) : Ret Tryz.prog 12 [.int .i64 x0, .int .i64 x1, .int .i32 n] w fun v w' => v = .bool true ∧ Kept none' w w' := by
  rcases (by omega : n < 0 ∨ (0 ≤ n ∧ n < 9) ∨ n = 9 ∨ 9 < n) with hc0 | hc0 | hc0 | hc0
  · exact vcomp_go (vc_neg_sy n hr_n hc0) x0 x1 n w 4 0 e0 e1 (.chan (some 0)) rfl rfl (vcomp_4_0_neg n hr_n hc0)
  · exact vcomp_go (vc_low_sy n hr_n hc0) x0 x1 n w 4 0 e0 e1 (.chan (some 0)) rfl rfl (vcomp_4_0_low n hr_n hc0)
  · subst hc0; exact vcomp_go sy00 x0 x1 _ w 4 0 e0 e1 (.int .i32 9) rfl rfl vcomp_4_0_nine
  · exact vcomp_go (vc_high_sy n hr_n hc0) x0 x1 n w 4 0 e0 e1 (.chan (some 0)) rfl rfl (vcomp_4_0_high n hr_n hc0)
theorem vcomp_k_4_1 (x0 x1 n : Int) (hr_n : -2147483648 ≤ n ∧ n ≤ 2147483647) (w : World) (e0 : res64 x0 11 = 4) (e1 : res64 x1 6 = 1) : Ret Tryz.prog 12 [.int .i64 x0, .int .i64 x1, .int .i32 n] w fun v w' => v = .bool true ∧ Kept none' w w' := by
  by_cases hc0 : n = 0
  · subst hc0; exact vcomp_go sy00 x0 x1 _ w 4 1 e0 e1 (.int .i32 0) rfl rfl vcomp_4_1_zero
  · exact vcomp_go (vc_nz_sy n hr_n hc0) x0 x1 n w 4 1 e0 e1 (.chan (some 0)) rfl rfl (vcomp_4_1_nz n hr_n hc0)
theorem vcomp_k_4_2 (x0 x1 n : Int) (hr_n : -2147483648 ≤ n ∧ n ≤ 2147483647) (w : World) (e0 : res64 x0 11 = 4) (e1 : res64 x1 6 = 2) : Ret Tryz.prog 12 [.int .i64 x0, .int .i64 x1, .int .i32 n] w fun v w' => v = .bool true ∧ Kept none' w w' := by
  by_cases hc0 : n = 0
  · subst hc0; exact vcomp_go sy00 x0 x1 _ w 4 2 e0 e1 (.int .i32 0) rfl rfl vcomp_4_2_zero
  · exact vcomp_go (vc_nz_sy n hr_n hc0) x0 x1 n w 4 2 e0 e1 (.chan (some 0)) rfl rfl (vcomp_4_2_nz n hr_n hc0)
theorem vcomp_k_4_3 (x0 x1 n : Int) (hr_n : -2147483648 ≤ n ∧ n ≤ 2147483647) (w : World) (e0 : res64 x0 11 = 4) (e1 : res64 x1 6 = 3) : Ret Tryz.prog 12 [.int .i64 x0, .int .i64 x1, .int .i32 n] w fun v w' => v = .bool true ∧ Kept none' w w' := by
  rcases (by omega : n < 0 ∨ (0 ≤ n ∧ n < 9) ∨ n = 9 ∨ 9 < n) with hc0 | hc0 | hc0 | hc0
  · exact vcomp_go (vc_neg_sy n hr_n hc0) x0 x1 n w 4 3 e0 e1 (.chan (some 0)) rfl rfl (vcomp_4_3_neg n hr_n hc0)
  · exact vcomp_go (vc_low_sy n hr_n hc0) x0 x1 n w 4 3 e0 e1 (.chan (some 0)) rfl rfl (vcomp_4_3_low n hr_n hc0)
  · subst hc0; exact vcomp_go sy00 x0 x1 _ w 4 3 e0 e1 (.int .i32 9) rfl rfl vcomp_4_3_nine
  · exact vcomp_go (vc_high_sy n hr_n hc0) x0 x1 n w 4 3 e0 e1 (.chan (some 0)) rfl rfl (vcomp_4_3_high n hr_n hc0)
theorem vcomp_k_4_4 (x0 x1 n : Int) (hr_n : -2147483648 ≤ n ∧ n ≤ 2147483647) (w : World) (e0 : res64 x0 11 = 4) (e1 : res64 x1 6 = 4) : Ret Tryz.prog 12 [.int .i64 x0, .int .i64 x1, .int .i32 n] w fun v w' => v = .bool true ∧ Kept none' w w' := by
  by_cases hc0 : n = 0
  · subst hc0; exact vcomp_go sy00 x0 x1 _ w 4 4 e0 e1 (.int .i32 0) rfl rfl vcomp_4_4_zero
  · exact vcomp_go (vc_nz_sy n hr_n hc0) x0 x1 n w 4 4 e0 e1 (.chan (some 0)) rfl rfl (vcomp_4_4_nz n hr_n hc0)
theorem vcomp_k_4_5 (x0 x1 n : Int) (hr_n : -2147483648 ≤ n ∧ n ≤ 2147483647) (w : World) (e0 : res64 x0 11 = 4) (e1 : res64 x1 6 = 5) : Ret Tryz.prog 12 [.int .i64 x0, .int .i64 x1, .int .i32 n] w fun v w' => v = .bool true ∧ Kept none' w w' := by
  by_cases hc0 : n = 0
  · subst hc0; exact vcomp_go sy00 x0 x1 _ w 4 5 e0 e1 (.int .i32 0) rfl rfl vcomp_4_5_zero
  · exact vcomp_go (vc_nz_sy n hr_n hc0) x0 x1 n w 4 5 e0 e1 (.chan (some 0)) rfl rfl (vcomp_4_5_nz n hr_n hc0)
theorem vcomp_k_5_0 (x0 x1 n : Int) (hr_n : -2147483648 ≤ n ∧ n ≤ 2147483647) (w : World) (e0 : res64 x0 11 = 5) (e1 : res64 x1 6 = 0) : Ret Tryz.prog 12 [.int .i64 x0, .int .i64 x1, .int .i32 n] w fun v w' => v = .bool true ∧ Kept none' w w' := by
  rcases (by omega : n < 0 ∨ (0 ≤ n ∧ n < 9) ∨ n = 9 ∨ 9 < n) with hc0 | hc0 | hc0 | hc0
  · exact vcomp_go (vc_neg_sy n hr_n hc0) x0 x1 n w 5 0 e0 e1 (.chan (some 0)) rfl rfl (vcomp_5_0_neg n hr_n hc0)
  · exact vcomp_go (vc_low_sy n hr_n hc0) x0 x1 n w 5 0 e0 e1 (.chan (some 0)) rfl rfl (vcomp_5_0_low n hr_n hc0)
  · subst hc0; exact vcomp_go sy00 x0 x1 _ w 5 0 e0 e1 (.int .i32 9) rfl rfl vcomp_5_0_nine
  · exact vcomp_go (vc_high_sy n hr_n hc0) x0 x1 n w 5 0 e0 e1 (.chan (some 0)) rfl rfl (vcomp_5_0_high n hr_n hc0)
theorem vcomp_k_5_1 (x0 x1 n : Int) (hr_n : -2147483648 ≤ n ∧ n ≤ 2147483647) (w : World) (e0 : res64 x0 11 = 5) (e1 : res64 x1 6 = 1) : Ret Tryz.prog 12 [.int .i64 x0, .int .i64 x1, .int .i32 n] w fun v w' => v = .bool true ∧ Kept none' w w' := by
  by_cases hc0 : n = 0
  · subst hc0; exact vcomp_go sy00 x0 x1 _ w 5 1 e0 e1 (.int .i32 0) rfl rfl vcomp_5_1_zero
  · exact vcomp_go (vc_nz_sy n hr_n hc0) x0 x1 n w 5 1 e0 e1 (.chan (some 0)) rfl rfl (vcomp_5_1_nz n hr_n hc0)
theorem vcomp_k_5_2 (x0 x1 n : Int) (hr_n : -2147483648 ≤ n ∧ n ≤ 2147483647) (w : World) (e0 : res64 x0 11 = 5) (e1 : res64 x1 6 = 2) : Ret Tryz.prog 12 [.int .i64 x0, .int .i64 x1, .int .i32 n] w fun v w' => v = .bool true ∧ Kept none' w w' := by
  by_cases hc0 : n = 0
  · subst hc0; exact vcomp_go sy00 x0 x1 _ w 5 2 e0 e1 (.int .i32 0) rfl rfl vcomp_5_2_zero
  · exact vcomp_go (vc_nz_sy n hr_n hc0) x0 x1 n w 5 2 e0 e1 (.chan (some 0)) rfl rfl (vcomp_5_2_nz n hr_n hc0)
theorem vcomp_k_5_3 (x0 x1 n : Int) (hr_n : -2147483648 ≤ n ∧ n ≤ 2147483647) (w : World) (e0 : res64 x0 11 = 5) (e1 : res64 x1 6 = 3) : Ret Tryz.prog 12 [.int .i64 x0, .int .i64 x1, .int .i32 n] w fun v w' => v = .bool true ∧ Kept none' w w' := by
  rcases (by omega : n < 0 ∨ (0 ≤ n ∧ n < 9) ∨ n = 9 ∨ 9 < n) with hc0 | hc0 | hc0 | hc0
  · exact vcomp_go (vc_neg_sy n hr_n hc0) x0 x1 n w 5 3 e0 e1 (.chan (some 0)) rfl rfl (vcomp_5_3_neg n hr_n hc0)
  · exact vcomp_go (vc_low_sy n hr_n hc0) x0 x1 n w 5 3 e0 e1 (.chan (some 0)) rfl rfl (vcomp_5_3_low n hr_n hc0)
  · subst hc0; exact vcomp_go sy00 x0 x1 _ w 5 3 e0 e1 (.int .i32 9) rfl rfl vcomp_5_3_nine
  · exact vcomp_go (vc_high_sy n hr_n hc0) x0 x1 n w 5 3 e0 e1 (.chan (some 0)) rfl rfl (vcomp_5_3_high n hr_n hc0)
theorem vcomp_k_5_4 (x0 x1 n : Int) (hr_n : -2147483648 ≤ n ∧ n ≤ 2147483647) (w : World) (e0 : res64 x0 11 = 5) (e1 : res64 x1 6 = 4) : Ret Tryz.prog 12 [.int .i64 x0, .int .i64 x1, .int .i32 n] w fun v w' => v = .bool true ∧ Kept none' w w' := by
  by_cases hc0 : n = 0
  · subst hc0; exact vcomp_go sy00 x0 x1 _ w 5 4 e0 e1 (.int .i32 0) rfl rfl vcomp_5_4_zero
  · exact vcomp_go (vc_nz_sy n hr_n hc0) x0 x1 n w 5 4 e0 e1 (.chan (some 0)) rfl rfl (vcomp_5_4_nz n hr_n hc0)
theorem vcomp_k_5_5 (x0 x1 n : Int) (hr_n : -2147483648 ≤ n ∧ n ≤ 2147483647) (w : World) (e0 : res64 x0 11 = 5) (e1 : res64 x1 6 = 5) : Ret Tryz.prog 12 [.int .i64 x0, .int .i64 x1, .int .i32 n] w fun v w' => v = .bool true ∧ Kept none' w w' := by
  by_cases hc0 : n = 0
  · subst hc0; exact vcomp_go sy00 x0 x1 _ w 5 5 e0 e1 (.int .i32 0) rfl rfl vcomp_5_5_zero
  · exact vcomp_go (vc_nz_sy n hr_n hc0) x0 x1 n w 5 5 e0 e1 (.chan (some 0)) rfl rfl (vcomp_5_5_nz n hr_n hc0)
theorem vcomp_k_6_0 (x0 x1 n : Int) (hr_n : -2147483648 ≤ n ∧ n ≤ 2147483647) (w : World) (e0 : res64 x0 11 = 6) (e1 : res64 x1 6 = 0) : Ret Tryz.prog 12 [.int .i64 x0, .int .i64 x1, .int .i32 n] w fun v w' => v = .bool true ∧ Kept none' w w' := by
  rcases (by omega : n < 0 ∨ (0 ≤ n ∧ n < 9) ∨ n = 9 ∨ 9 < n) with hc0 | hc0 | hc0 | hc0
  · exact vcomp_go (vc_neg_sy n hr_n hc0) x0 x1 n w 6 0 e0 e1 (.chan (some 0)) rfl rfl (vcomp_6_0_neg n hr_n hc0)
  · exact vcomp_go (vc_low_sy n hr_n hc0) x0 x1 n w 6 0 e0 e1 (.chan (some 0)) rfl rfl (vcomp_6_0_low n hr_n hc0)
  · subst hc0; exact vcomp_go sy00 x0 x1 _ w 6 0 e0 e1 (.int .i32 9) rfl rfl vcomp_6_0_nine
  · exact vcomp_go (vc_high_sy n hr_n hc0) x0 x1 n w 6 0 e0 e1 (.chan (some 0)) rfl rfl (vcomp_6_0_high n hr_n hc0)
theorem vcomp_k_6_1 (x0 x1 n : Int) (hr_n : -2147483648 ≤ n ∧ n ≤ 2147483647) (w : World) (e0 : res64 x0 11 = 6) (e1 : res64 x1 6 = 1) : Ret Tryz.prog 12 [.int .i64 x0, .int .i64 x1, .int .i32 n] w fun v w' => v = .bool true ∧ Kept none' w w' := by
  by_cases hc0 : n = 0
  · subst hc0; exact vcomp_go sy00 x0 x1 _ w 6 1 e0 e1 (.int .i32 0) rfl rfl vcomp_6_1_zero
  · exact vcomp_go (vc_nz_sy n hr_n hc0) x0 x1 n w 6 1 e0 e1 (.chan (some 0)) rfl rfl (vcomp_6_1_nz n hr_n hc0)
theorem vcomp_k_6_2 (x0 x1 n : Int) (hr_n : -2147483648 ≤ n ∧ n ≤ 2147483647) (w : World) (e0 : res64 x0 11 = 6) (e1 : res64 x1 6 = 2) : Ret Tryz.prog 12 [.int .i64 x0, .int .i64 x1, .int .i32 n] w fun v w' => v = .bool true ∧ Kept none' w w' := by
  by_cases hc0 : n = 0
  · subst hc0; exact vcomp_go sy00 x0 x1 _ w 6 2 e0 e1 (.int .i32 0) rfl rfl vcomp_6_2_zero
  · exact vcomp_go (vc_nz_sy n hr_n hc0) x0 x1 n w 6 2 e0 e1 (.chan (some 0)) rfl rfl (vcomp_6_2_nz n hr_n hc0)
theorem vcomp_k_6_3 (x0 x1 n : Int) (hr_n : -2147483648 ≤ n ∧ n ≤ 2147483647) (w : World) (e0 : res64 x0 11 = 6) (e1 : res64 x1 6 = 3) : Ret Tryz.prog 12 [.int .i64 x0, .int .i64 x1, .int .i32 n] w fun v w' => v = .bool true ∧ Kept none' w w' := by
  rcases (by omega : n < 0 ∨ (0 ≤ n ∧ n < 9) ∨ n = 9 ∨ 9 < n) with hc0 | hc0 | hc0 | hc0
  · exact vcomp_go (vc_neg_sy n hr_n hc0) x0 x1 n w 6 3 e0 e1 (.chan (some 0)) rfl rfl (vcomp_6_3_neg n hr_n hc0)
  · exact vcomp_go (vc_low_sy n hr_n hc0) x0 x1 n w 6 3 e0 e1 (.chan (some 0)) rfl rfl (vcomp_6_3_low n hr_n hc0)
  · subst hc0; exact vcomp_go sy00 x0 x1 _ w 6 3 e0 e1 (.int .i32 9) rfl rfl vcomp_6_3_nine
  · exact vcomp_go (vc_high_sy n hr_n hc0) x0 x1 n w 6 3 e0 e1 (.chan (some 0)) rfl rfl (vcomp_6_3_high n hr_n hc0)
theorem vcomp_k_6_4 (x0 x1 n : Int) (hr_n : -2147483648 ≤ n ∧ n ≤ 2147483647) (w : World) (e0 : res64 x0 11 = 6) (e1 : res64 x1 6 = 4) : Ret Tryz.prog 12 [.int .i64 x0, .int .i64 x1, .int .i32 n] w fun v w' => v = .bool true ∧ Kept none' w w' := by
  by_cases hc0 : n = 0
  · subst hc0; exact vcomp_go sy00 x0 x1 _ w 6 4 e0 e1 (.int .i32 0) rfl rfl vcomp_6_4_zero
  · exact vcomp_go (vc_nz_sy n hr_n hc0) x0 x1 n w 6 4 e0 e1 (.chan (some 0)) rfl rfl (vcomp_6_4_nz n hr_n hc0)
theorem vcomp_k_6_5 (x0 x1 n : Int) (hr_n : -2147483648 ≤ n ∧ n ≤ 2147483647) (w : World) (e0 : res64 x0 11 = 6) (e1 : res64 x1 6 = 5) : Ret Tryz.prog 12 [.int .i64 x0, .int .i64 x1, .int .i32 n] w fun v w' => v = .bool true ∧ Kept none' w w' := by
  by_cases hc0 : n = 0
  · subst hc0; exact vcomp_go sy00 x0 x1 _ w 6 5 e0 e1 (.int .i32 0) rfl rfl vcomp_6_5_zero
  · exact vcomp_go (vc_nz_sy n hr_n hc0) x0 x1 n w 6 5 e0 e1 (.chan (some 0)) rfl rfl (vcomp_6_5_nz n hr_n hc0)
theorem vcomp_k_7_0 (x0 x1 n : Int) (hr_n : -2147483648 ≤ n ∧ n ≤ 2147483647) (w : World) (e0 : res64 x0 11 = 7) (e1 : res64 x1 6 = 0) : Ret Tryz.prog 12 [.int .i64 x0, .int .i64 x1, .int .i32 n] w fun v w' => v = .bool true ∧ Kept none' w w' := by
  rcases (by omega : n < 0 ∨ (0 ≤ n ∧ n < 9) ∨ n = 9 ∨ 9 < n) with hc0 | hc0 | hc0 | hc0
  · exact vcomp_go (vc_neg_sy n hr_n hc0) x0 x1 n w 7 0 e0 e1 (.chan (some 0)) rfl rfl (vcomp_7_0_neg n hr_n hc0)
  · exact vcomp_go (vc_low_sy n hr_n hc0) x0 x1 n w 7 0 e0 e1 (.chan (some 0)) rfl rfl (vcomp_7_0_low n hr_n hc0)
  · subst hc0; exact vcomp_go sy00 x0 x1 _ w 7 0 e0 e1 (.int .i32 9) rfl rfl vcomp_7_0_nine
  · exact vcomp_go (vc_high_sy n hr_n hc0) x0 x1 n w 7 0 e0 e1 (.chan (some 0)) rfl rfl (vcomp_7_0_high n hr_n hc0)
theorem vcomp_k_7_1 (x0 x1 n : Int) (hr_n : -2147483648 ≤ n ∧ n ≤ 2147483647) (w : World) (e0 : res64 x0 11 = 7) (e1 : res64 x1 6 = 1) : Ret Tryz.prog 12 [.int .i64 x0, .int .i64 x1, .int .i32 n] w fun v w' => v = .bool true ∧ Kept none' w w' := by
  by_cases hc0 : n = 0
  · subst hc0; exact vcomp_go sy00 x0 x1 _ w 7 1 e0 e1 (.int .i32 0) rfl rfl vcomp_7_1_zero
  · exact vcomp_go (vc_nz_sy n hr_n hc0) x0 x1 n w 7 1 e0 e1 (.chan (some 0)) rfl rfl (vcomp_7_1_nz n hr_n hc0)
theorem vcomp_k_7_2 (x0 x1 n : Int) (hr_n : -2147483648 ≤ n ∧ n ≤ 2147483647) (w : World) (e0 : res64 x0 11 = 7) (e1 : res64 x1 6 = 2) : Ret Tryz.prog 12 [.int .i64 x0, .int .i64 x1, .int .i32 n] w fun v w' => v = .bool true ∧ Kept none' w w' := by
  by_cases hc0 : n = 0
  · subst hc0; exact vcomp_go sy00 x0 x1 _ w 7 2 e0 e1 (.int .i32 0) rfl rfl vcomp_7_2_zero
  · exact vcomp_go (vc_nz_sy n hr_n hc0) x0 x1 n w 7 2 e0 e1 (.chan (some 0)) rfl rfl (vcomp_7_2_nz n hr_n hc0)
theorem vcomp_k_7_3 (x0 x1 n : Int) (hr_n : -2147483648 ≤ n ∧ n ≤ 2147483647) (w : World) (e0 : res64 x0 11 = 7) (e1 : res64 x1 6 = 3) : Ret Tryz.prog 12 [.int .i64 x0, .int .i64 x1, .int .i32 n] w fun v w' => v = .bool true ∧ Kept none' w w' := by
  rcases (by omega : n < 0 ∨ (0 ≤ n ∧ n < 9) ∨ n = 9 ∨ 9 < n) with hc0 | hc0 | hc0 | hc0
  · exact vcomp_go (vc_neg_sy n hr_n hc0) x0 x1 n w 7 3 e0 e1 (.chan (some 0)) rfl rfl (vcomp_7_3_neg n hr_n hc0)
  · exact vcomp_go (vc_low_sy n hr_n hc0) x0 x1 n w 7 3 e0 e1 (.chan (some 0)) rfl rfl (vcomp_7_3_low n hr_n hc0)
  · subst hc0; exact vcomp_go sy00 x0 x1 _ w 7 3 e0 e1 (.int .i32 9) rfl rfl vcomp_7_3_nine
  · exact vcomp_go (vc_high_sy n hr_n hc0) x0 x1 n w 7 3 e0 e1 (.chan (some 0)) rfl rfl (vcomp_7_3_high n hr_n hc0)
theorem vcomp_k_7_4 (x0 x1 n : Int) (hr_n : -2147483648 ≤ n ∧ n ≤ 2147483647) (w : World) (e0 : res64 x0 11 = 7) (e1 : res64 x1 6 = 4) : Ret Tryz.prog 12 [.int .i64 x0, .int .i64 x1, .int .i32 n] w fun v w' => v = .bool true ∧ Kept none' w w' := by
  by_cases hc0 : n = 0
  · subst hc0; exact vcomp_go sy00 x0 x1 _ w 7 4 e0 e1 (.int .i32 0) rfl rfl vcomp_7_4_zero
  · exact vcomp_go (vc_nz_sy n hr_n hc0) x0 x1 n w 7 4 e0 e1 (.chan (some 0)) rfl rfl (vcomp_7_4_nz n hr_n hc0)
theorem vcomp_k_7_5 (x0 x1 n : Int) (hr_n : -2147483648 ≤ n ∧ n ≤ 2147483647) (w : World) (e0 : res64 x0 11 = 7) (e1 : res64 x1 6 = 5) : Ret Tryz.prog 12 [.int .i64 x0, .int .i64 x1, .int .i32 n] w fun v w' => v = .bool true ∧ Kept none' w w' := by
  by_cases hc0 : n = 0
  · subst hc0; exact vcomp_go sy00 x0 x1 _ w 7 5 e0 e1 (.int .i32 0) rfl rfl vcomp_7_5_zero
  · exact vcomp_go (vc_nz_sy n hr_n hc0) x0 x1 n w 7 5 e0 e1 (.chan (some 0)) rfl rfl (vcomp_7_5_nz n hr_n hc0)
theorem vcomp_k_8_0 (x0 x1 n : Int) (hr_n : -2147483648 ≤ n ∧ n ≤ 2147483647) (w : World) (e0 : res64 x0 11 = 8) (e1 : res64 x1 6 = 0) : Ret Tryz.prog 12 [.int .i64 x0, .int .i64 x1, .int .i32 n] w fun v w' => v = .bool true ∧ Kept none' w w' := by
  rcases (by omega : n < 0 ∨ (0 ≤ n ∧ n < 9) ∨ n = 9 ∨ 9 < n) with hc0 | hc0 | hc0 | hc0
  · exact vcomp_go (vc_neg_sy n hr_n hc0) x0 x1 n w 8 0 e0 e1 (.chan (some 0)) rfl rfl (vcomp_8_0_neg n hr_n hc0)
  · exact vcomp_go (vc_low_sy n hr_n hc0) x0 x1 n w 8 0 e0 e1 (.chan (some 0)) rfl rfl (vcomp_8_0_low n hr_n hc0)
  · subst hc0; exact vcomp_go sy00 x0 x1 _ w 8 0 e0 e1 (.int .i32 9) rfl rfl vcomp_8_0_nine
  · exact vcomp_go (vc_high_sy n hr_n hc0) x0 x1 n w 8 0 e0 e1 (.chan (some 0)) rfl rfl (vcomp_8_0_high n hr_n hc0)
theorem vcomp_k_8_1 (x0 x1 n : Int) (hr_n : -2147483648 ≤ n ∧ n ≤ 2147483647) (w : World) (e0 : res64 x0 11 = 8) (e1 : res64 x1 6 = 1) : Ret Tryz.prog 12 [.int .i64 x0, .int .i64 x1, .int .i32 n] w fun v w' => v = .bool true ∧ Kept none' w w' := by
  by_cases hc0 : n = 0
  · subst hc0; exact vcomp_go sy00 x0 x1 _ w 8 1 e0 e1 (.int .i32 0) rfl rfl vcomp_8_1_zero
  · exact vcomp_go (vc_nz_sy n hr_n hc0) x0 x1 n w 8 1 e0 e1 (.chan (some 0)) rfl rfl (vcomp_8_1_nz n hr_n hc0)
theorem vcomp_k_8_2 (x0 x1 n : Int) (hr_n : -2147483648 ≤ n ∧ n ≤ 2147483647) (w : World) (e0 : res64 x0 11 = 8) (e1 : res64 x1 6 = 2) : Ret Tryz.prog 12 [.int .i64 x0, .int .i64 x1, .int .i32 n] w fun v w' => v = .bool true ∧ Kept none' w w' := by
  by_cases hc0 : n = 0
  · subst hc0; exact vcomp_go sy00 x0 x1 _ w 8 2 e0 e1 (.int .i32 0) rfl rfl vcomp_8_2_zero
  · exact vcomp_go (vc_nz_sy n hr_n hc0) x0 x1 n w 8 2 e0 e1 (.chan (some 0)) rfl rfl (vcomp_8_2_nz n hr_n hc0)
theorem vcomp_k_8_3 (x0 x1 n : Int) (hr_n : -2147483648 ≤ n ∧ n ≤ 2147483647) (w : World) (e0 : res64 x0 11 = 8) (e1 : res64 x1 6 = 3) : Ret Tryz.prog 12 [.int .i64 x0, .int .i64 x1, .int .i32 n] w fun v w' => v = .bool true ∧ Kept none' w w' := by
  rcases (by omega : n < 0 ∨ (0 ≤ n ∧ n < 9) ∨ n = 9 ∨ 9 < n) with hc0 | hc0 | hc0 | hc0
  · exact vcomp_go (vc_neg_sy n hr_n hc0) x0 x1 n w 8 3 e0 e1 (.chan (some 0)) rfl rfl (vcomp_8_3_neg n hr_n hc0)
  · exact vcomp_go (vc_low_sy n hr_n hc0) x0 x1 n w 8 3 e0 e1 (.chan (some 0)) rfl rfl (vcomp_8_3_low n hr_n hc0)
  · subst hc0; exact vcomp_go sy00 x0 x1 _ w 8 3 e0 e1 (.int .i32 9) rfl rfl vcomp_8_3_nine
  · exact vcomp_go (vc_high_sy n hr_n hc0) x0 x1 n w 8 3 e0 e1 (.chan (some 0)) rfl rfl (vcomp_8_3_high n hr_n hc0)
theorem vcomp_k_8_4 (x0 x1 n : Int) (hr_n : -2147483648 ≤ n ∧ n ≤ 2147483647) (w : World) (e0 : res64 x0 11 = 8) (e1 : res64 x1 6 = 4) : Ret Tryz.prog 12 [.int .i64 x0, .int .i64 x1, .int .i32 n] w fun v w' => v = .bool true ∧ Kept none' w w' := by
  by_cases hc0 : n = 0
  · subst hc0; exact vcomp_go sy00 x0 x1 _ w 8 4 e0 e1 (.int .i32 0) rfl rfl vcomp_8_4_zero
  · exact vcomp_go (vc_nz_sy n hr_n hc0) x0 x1 n w 8 4 e0 e1 (.chan (some 0)) rfl rfl (vcomp_8_4_nz n hr_n hc0)
theorem vcomp_k_8_5 (x0 x1 n : Int) (hr_n : -2147483648 ≤ n ∧ n ≤ 2147483647) (w : World) (e0 : res64 x0 11 = 8) (e1 : res64 x1 6 = 5) : Ret Tryz.prog 12 [.int .i64 x0, .int .i64 x1, .int .i32 n] w fun v w' => v = .bool true ∧ Kept none' w w' := by
  by_cases hc0 : n = 0
  · subst hc0; exact vcomp_go sy00 x0 x1 _ w 8 5 e0 e1 (.int .i32 0) rfl rfl vcomp_8_5_zero
  · exact vcomp_go (vc_nz_sy n hr_n hc0) x0 x1 n w 8 5 e0 e1 (.chan (some 0)) rfl rfl (vcomp_8_5_nz n hr_n hc0)
theorem vcomp_k_9_0 (x0 x1 n : Int) (hr_n : -2147483648 ≤ n ∧ n ≤ 2147483647) (w : World) (e0 : res64 x0 11 = 9) (e1 : res64 x1 6 = 0) : Ret Tryz.prog 12 [.int .i64 x0, .int .i64 x1, .int .i32 n] w fun v w' => v = .bool true ∧ Kept none' w w' := by
  rcases (by omega : n < 0 ∨ (0 ≤ n ∧ n < 9) ∨ n = 9 ∨ 9 < n) with hc0 | hc0 | hc0 | hc0
  · exact vcomp_go (vc_neg_sy n hr_n hc0) x0 x1 n w 9 0 e0 e1 (.chan (some 0)) rfl rfl (vcomp_9_0_neg n hr_n hc0)
  · exact vcomp_go (vc_low_sy n hr_n hc0) x0 x1 n w 9 0 e0 e1 (.chan (some 0)) rfl rfl (vcomp_9_0_low n hr_n hc0)
  · subst hc0; exact vcomp_go sy00 x0 x1 _ w 9 0 e0 e1 (.int .i32 9) rfl rfl vcomp_9_0_nine
  · exact vcomp_go (vc_high_sy n hr_n hc0) x0 x1 n w 9 0 e0 e1 (.chan (some 0)) rfl rfl (vcomp_9_0_high n hr_n hc0)
theorem vcomp_k_9_1 (x0 x1 n : Int) (hr_n : -2147483648 ≤ n ∧ n ≤ 2147483647) (w : World) (e0 : res64 x0 11 = 9) (e1 : res64 x1 6 = 1) : Ret Tryz.prog 12 [.int .i64 x0, .int .i64 x1, .int .i32 n] w fun v w' => v = .bool true ∧ Kept none' w w' := by
  by_cases hc0 : n = 0
  · subst hc0; exact vcomp_go sy00 x0 x1 _ w 9 1 e0 e1 (.int .i32 0) rfl rfl vcomp_9_1_zero
  · exact vcomp_go (vc_nz_sy n hr_n hc0) x0 x1 n w 9 1 e0 e1 (.chan (some 0)) rfl rfl (vcomp_9_1_nz n hr_n hc0)
theorem vcomp_k_9_2 (x0 x1 n : Int) (hr_n : -2147483648 ≤ n ∧ n ≤ 2147483647) (w : World) (e0 : res64 x0 11 = 9) (e1 : res64 x1 6 = 2) : Ret Tryz.prog 12 [.int .i64 x0, .int .i64 x1, .int .i32 n] w fun v w' => v = .bool true ∧ Kept none' w w' := by
  by_cases hc0 : n = 0
  · subst hc0; exact vcomp_go sy00 x0 x1 _ w 9 2 e0 e1 (.int .i32 0) rfl rfl vcomp_9_2_zero
  · exact vcomp_go (vc_nz_sy n hr_n hc0) x0 x1 n w 9 2 e0 e1 (.chan (some 0)) rfl rfl (vcomp_9_2_nz n hr_n hc0)
theorem vcomp_k_9_3 (x0 x1 n : Int) (hr_n : -2147483648 ≤ n ∧ n ≤ 2147483647) (w : World) (e0 : res64 x0 11 = 9) (e1 : res64 x1 6 = 3) : Ret Tryz.prog 12 [.int .i64 x0, .int .i64 x1, .int .i32 n] w fun v w' => v = .bool true ∧ Kept none' w w' := by
  rcases (by omega : n < 0 ∨ (0 ≤ n ∧ n < 9) ∨ n = 9 ∨ 9 < n) with hc0 | hc0 | hc0 | hc0
  · exact vcomp_go (vc_neg_sy n hr_n hc0) x0 x1 n w 9 3 e0 e1 (.chan (some 0)) rfl rfl (vcomp_9_3_neg n hr_n hc0)
  · exact vcomp_go (vc_low_sy n hr_n hc0) x0 x1 n w 9 3 e0 e1 (.chan (some 0)) rfl rfl (vcomp_9_3_low n hr_n hc0)
  · subst hc0; exact vcomp_go sy00 x0 x1 _ w 9 3 e0 e1 (.int .i32 9) rfl rfl vcomp_9_3_nine
  · exact vcomp_go (vc_high_sy n hr_n hc0) x0 x1 n w 9 3 e0 e1 (.chan (some 0)) rfl rfl (vcomp_9_3_high n hr_n hc0)
theorem vcomp_k_9_4 (x0 x1 n : Int) (hr_n : -2147483648 ≤ n ∧ n ≤ 2147483647) (w : World) (e0 : res64 x0 11 = 9) (e1 : res64 x1 6 = 4) : Ret Tryz.prog 12 [.int .i64 x0, .int .i64 x1, .int .i32 n] w fun v w' => v = .bool true ∧ Kept none' w w' := by
  by_cases hc0 : n = 0
  · subst hc0; exact vcomp_go sy00 x0 x1 _ w 9 4 e0 e1 (.int .i32 0) rfl rfl vcomp_9_4_zero
  · exact vcomp_go (vc_nz_sy n hr_n hc0) x0 x1 n w 9 4 e0 e1 (.chan (some 0)) rfl rfl (vcomp_9_4_nz n hr_n hc0)
theorem vcomp_k_9_5 (x0 x1 n : Int) (hr_n : -2147483648 ≤ n ∧ n ≤ 2147483647) (w : World) (e0 : res64 x0 11 = 9) (e1 : res64 x1 6 = 5) : Ret Tryz.prog 12 [.int .i64 x0, .int .i64 x1, .int .i32 n] w fun v w' => v = .bool true ∧ Kept none' w w' := by
  by_cases hc0 : n = 0
  · subst hc0; exact vcomp_go sy00 x0 x1 _ w 9 5 e0 e1 (.int .i32 0) rfl rfl vcomp_9_5_zero
  · exact vcomp_go (vc_nz_sy n hr_n hc0) x0 x1 n w 9 5 e0 e1 (.chan (some 0)) rfl rfl (vcomp_9_5_nz n hr_n hc0)
theorem vcomp_k_10_0 (x0 x1 n : Int) (hr_n : -2147483648 ≤ n ∧ n ≤ 2147483647) (w : World) (e0 : res64 x0 11 = 10) (e1 : res64 x1 6 = 0) : Ret Tryz.prog 12 [.int .i64 x0, .int .i64 x1, .int .i32 n] w fun v w' => v = .bool true ∧ Kept none' w w' := by
  rcases (by omega : n < 0 ∨ (0 ≤ n ∧ n < 9) ∨ n = 9 ∨ 9 < n) with hc0 | hc0 | hc0 | hc0
  · exact vcomp_go (vc_neg_sy n hr_n hc0) x0 x1 n w 10 0 e0 e1 (.chan (some 0)) rfl rfl (vcomp_10_0_neg n hr_n hc0)
  · exact vcomp_go (vc_low_sy n hr_n hc0) x0 x1 n w 10 0 e0 e1 (.chan (some 0)) rfl rfl (vcomp_10_0_low n hr_n hc0)
  · subst hc0; exact vcomp_go sy00 x0 x1 _ w 10 0 e0 e1 (.int .i32 9) rfl rfl vcomp_10_0_nine
  · exact vcomp_go (vc_high_sy n hr_n hc0) x0 x1 n w 10 0 e0 e1 (.chan (some 0)) rfl rfl (vcomp_10_0_high n hr_n hc0)
theorem vcomp_k_10_1 (x0 x1 n : Int) (hr_n : -2147483648 ≤ n ∧ n ≤ 2147483647) (w : World) (e0 : res64 x0 11 = 10) (e1 : res64 x1 6 = 1) : Ret Tryz.prog 12 [.int .i64 x0, .int .i64 x1, .int .i32 n] w fun v w' => v = .bool true ∧ Kept none' w w' := by
  by_cases hc0 : n = 0
  · subst hc0; exact vcomp_go sy00 x0 x1 _ w 10 1 e0 e1 (.int .i32 0) rfl rfl vcomp_10_1_zero
  · exact vcomp_go (vc_nz_sy n hr_n hc0) x0 x1 n w 10 1 e0 e1 (.chan (some 0)) rfl rfl (vcomp_10_1_nz n hr_n hc0)
theorem vcomp_k_10_2 (x0 x1 n : Int) (hr_n : -2147483648 ≤ n ∧ n ≤ 2147483647) (w : World) (e0 : res64 x0 11 = 10) (e1 : res64 x1 6 = 2) : Ret Tryz.prog 12 [.int .i64 x0, .int .i64 x1, .int .i32 n] w fun v w' => v = .bool true ∧ Kept none' w w' := by
  by_cases hc0 : n = 0
  · subst hc0; exact vcomp_go sy00 x0 x1 _ w 10 2 e0 e1 (.int .i32 0) rfl rfl vcomp_10_2_zero
  · exact vcomp_go (vc_nz_sy n hr_n hc0) x0 x1 n w 10 2 e0 e1 (.chan (some 0)) rfl rfl (vcomp_10_2_nz n hr_n hc0)
theorem vcomp_k_10_3 (x0 x1 n : Int) (hr_n : -2147483648 ≤ n ∧ n ≤ 2147483647) (w : World) (e0 : res64 x0 11 = 10) (e1 : res64 x1 6 = 3) : Ret Tryz.prog 12 [.int .i64 x0, .int .i64 x1, .int .i32 n] w fun v w' => v = .bool true ∧ Kept none' w w' := by
  rcases (by omega : n < 0 ∨ (0 ≤ n ∧ n < 9) ∨ n = 9 ∨ 9 < n) with hc0 | hc0 | hc0 | hc0
  · exact vcomp_go (vc_neg_sy n hr_n hc0) x0 x1 n w 10 3 e0 e1 (.chan (some 0)) rfl rfl (vcomp_10_3_neg n hr_n hc0)
  · exact vcomp_go (vc_low_sy n hr_n hc0) x0 x1 n w 10 3 e0 e1 (.chan (some 0)) rfl rfl (vcomp_10_3_low n hr_n hc0)
  · subst hc0; exact vcomp_go sy00 x0 x1 _ w 10 3 e0 e1 (.int .i32 9) rfl rfl vcomp_10_3_nine
  · exact vcomp_go (vc_high_sy n hr_n hc0) x0 x1 n w 10 3 e0 e1 (.chan (some 0)) rfl rfl (vcomp_10_3_high n hr_n hc0)
theorem vcomp_k_10_4 (x0 x1 n : Int) (hr_n : -2147483648 ≤ n ∧ n ≤ 2147483647) (w : World) (e0 : res64 x0 11 = 10) (e1 : res64 x1 6 = 4) : Ret Tryz.prog 12 [.int .i64 x0, .int .i64 x1, .int .i32 n] w fun v w' => v = .bool true ∧ Kept none' w w' := by
  by_cases hc0 : n = 0
  · subst hc0; exact vcomp_go sy00 x0 x1 _ w 10 4 e0 e1 (.int .i32 0) rfl rfl vcomp_10_4_zero
  · exact vcomp_go (vc_nz_sy n hr_n hc0) x0 x1 n w 10 4 e0 e1 (.chan (some 0)) rfl rfl (vcomp_10_4_nz n hr_n hc0)
theorem vcomp_k_10_5 (x0 x1 n : Int) (hr_n : -2147483648 ≤ n ∧ n ≤ 2147483647) (w : World) (e0 : res64 x0 11 = 10) (e1 : res64 x1 6 = 5) : Ret Tryz.prog 12 [.int .i64 x0, .int .i64 x1, .int .i32 n] w fun v w' => v = .bool true ∧ Kept none' w w' := by
  by_cases hc0 : n = 0
  · subst hc0; exact vcomp_go sy00 x0 x1 _ w 10 5 e0 e1 (.int .i32 0) rfl rfl vcomp_10_5_zero
  · exact vcomp_go (vc_nz_sy n hr_n hc0) x0 x1 n w 10 5 e0 e1 (.chan (some 0)) rfl rfl (vcomp_10_5_nz n hr_n hc0)
theorem vcomp_ret (x0 x1 n : Int) (hr_n : -2147483648 ≤ n ∧ n ≤ 2147483647) (w : World) : Ret Tryz.prog 12 [.int .i64 x0, .int .i64 x1, .int .i32 n] w fun v w' => v = .bool true ∧ Kept none' w w' := by
  obtain ⟨r0, e0⟩ : ∃ r, res64 x0 11 = r := ⟨_, rfl⟩
  obtain ⟨r1, e1⟩ : ∃ r, res64 x1 6 = r := ⟨_, rfl⟩
  have h0 : r0 < 11 := e0 ▸ res64_lt x0 (by decide)
  have h1 : r1 < 6 := e1 ▸ res64_lt x1 (by decide)
  match r0, h0 with
  | 0, _ =>
    match r1, h1 with
    | 0, _ => exact vcomp_k_0_0 x0 x1 n hr_n w e0 e1
    | 1, _ => exact vcomp_k_0_1 x0 x1 n hr_n w e0 e1
    | 2, _ => exact vcomp_k_0_2 x0 x1 n hr_n w e0 e1
    | 3, _ => exact vcomp_k_0_3 x0 x1 n hr_n w e0 e1
    | 4, _ => exact vcomp_k_0_4 x0 x1 n hr_n w e0 e1
    | 5, _ => exact vcomp_k_0_5 x0 x1 n hr_n w e0 e1
    | k + 6, h => exact absurd h (by omega)
  | 1, _ =>
    match r1, h1 with
    | 0, _ => exact vcomp_k_1_0 x0 x1 n hr_n w e0 e1
    | 1, _ => exact vcomp_k_1_1 x0 x1 n hr_n w e0 e1
    | 2, _ => exact vcomp_k_1_2 x0 x1 n hr_n w e0 e1
    | 3, _ => exact vcomp_k_1_3 x0 x1 n hr_n w e0 e1
    | 4, _ => exact vcomp_k_1_4 x0 x1 n hr_n w e0 e1
    | 5, _ => exact vcomp_k_1_5 x0 x1 n hr_n w e0 e1
    | k + 6, h => exact absurd h (by omega)
  | 2, _ =>
    match r1, h1 with
    | 0, _ => exact vcomp_k_2_0 x0 x1 n hr_n w e0 e1
    | 1, _ => exact vcomp_k_2_1 x0 x1 n hr_n w e0 e1
    | 2, _ => exact vcomp_k_2_2 x0 x1 n hr_n w e0 e1
    | 3, _ => exact vcomp_k_2_3 x0 x1 n hr_n w e0 e1
    | 4, _ => exact vcomp_k_2_4 x0 x1 n hr_n w e0 e1
    | 5, _ => exact vcomp_k_2_5 x0 x1 n hr_n w e0 e1
    | k + 6, h => exact absurd h (by omega)
  | 3, _ =>
    match r1, h1 with
    | 0, _ => exact vcomp_k_3_0 x0 x1 n hr_n w e0 e1
    | 1, _ => exact vcomp_k_3_1 x0 x1 n hr_n w e0 e1
    | 2, _ => exact vcomp_k_3_2 x0 x1 n hr_n w e0 e1
    | 3, _ => exact vcomp_k_3_3 x0 x1 n hr_n w e0 e1
    | 4, _ => exact vcomp_k_3_4 x0 x1 n hr_n w e0 e1
    | 5, _ => exact vcomp_k_3_5 x0 x1 n hr_n w e0 e1
    | k + 6, h => exact absurd h (by omega)
  | 4, _ =>
    match r1, h1 with
    | 0, _ => exact vcomp_k_4_0 x0 x1 n hr_n w e0 e1
    | 1, _ => exact vcomp_k_4_1 x0 x1 n hr_n w e0 e1
    | 2, _ => exact vcomp_k_4_2 x0 x1 n hr_n w e0 e1
    | 3, _ => exact vcomp_k_4_3 x0 x1 n hr_n w e0 e1
    | 4, _ => exact vcomp_k_4_4 x0 x1 n hr_n w e0 e1
    | 5, _ => exact vcomp_k_4_5 x0 x1 n hr_n w e0 e1
    | k + 6, h => exact absurd h (by omega)
  | 5, _ =>
    match r1, h1 with
    | 0, _ => exact vcomp_k_5_0 x0 x1 n hr_n w e0 e1
    | 1, _ => exact vcomp_k_5_1 x0 x1 n hr_n w e0 e1
    | 2, _ => exact vcomp_k_5_2 x0 x1 n hr_n w e0 e1
    | 3, _ => exact vcomp_k_5_3 x0 x1 n hr_n w e0 e1
    | 4, _ => exact vcomp_k_5_4 x0 x1 n hr_n w e0 e1
    | 5, _ => exact vcomp_k_5_5 x0 x1 n hr_n w e0 e1
    | k + 6, h => exact absurd h (by omega)
  | 6, _ =>
    match r1, h1 with
    | 0, _ => exact vcomp_k_6_0 x0 x1 n hr_n w e0 e1
    | 1, _ => exact vcomp_k_6_1 x0 x1 n hr_n w e0 e1
    | 2, _ => exact vcomp_k_6_2 x0 x1 n hr_n w e0 e1
    | 3, _ => exact vcomp_k_6_3 x0 x1 n hr_n w e0 e1
    | 4, _ => exact vcomp_k_6_4 x0 x1 n hr_n w e0 e1
    | 5, _ => exact vcomp_k_6_5 x0 x1 n hr_n w e0 e1
    | k + 6, h => exact absurd h (by omega)
  | 7, _ =>
    match r1, h1 with
    | 0, _ => exact vcomp_k_7_0 x0 x1 n hr_n w e0 e1
    | 1, _ => exact vcomp_k_7_1 x0 x1 n hr_n w e0 e1
    | 2, _ => exact vcomp_k_7_2 x0 x1 n hr_n w e0 e1
    | 3, _ => exact vcomp_k_7_3 x0 x1 n hr_n w e0 e1
    | 4, _ => exact vcomp_k_7_4 x0 x1 n hr_n w e0 e1
    | 5, _ => exact vcomp_k_7_5 x0 x1 n hr_n w e0 e1
    | k + 6, h => exact absurd h (by omega)
  | 8, _ =>
    match r1, h1 with
    | 0, _ => exact vcomp_k_8_0 x0 x1 n hr_n w e0 e1
    | 1, _ => exact vcomp_k_8_1 x0 x1 n hr_n w e0 e1
    | 2, _ => exact vcomp_k_8_2 x0 x1 n hr_n w e0 e1
    | 3, _ => exact vcomp_k_8_3 x0 x1 n hr_n w e0 e1
    | 4, _ => exact vcomp_k_8_4 x0 x1 n hr_n w e0 e1
    | 5, _ => exact vcomp_k_8_5 x0 x1 n hr_n w e0 e1
    | k + 6, h => exact absurd h (by omega)
  | 9, _ =>
    match r1, h1 with
    | 0, _ => exact vcomp_k_9_0 x0 x1 n hr_n w e0 e1
    | 1, _ => exact vcomp_k_9_1 x0 x1 n hr_n w e0 e1
    | 2, _ => exact vcomp_k_9_2 x0 x1 n hr_n w e0 e1
    | 3, _ => exact vcomp_k_9_3 x0 x1 n hr_n w e0 e1
    | 4, _ => exact vcomp_k_9_4 x0 x1 n hr_n w e0 e1
    | 5, _ => exact vcomp_k_9_5 x0 x1 n hr_n w e0 e1
    | k + 6, h => exact absurd h (by omega)
  | 10, _ =>
    match r1, h1 with
    | 0, _ => exact vcomp_k_10_0 x0 x1 n hr_n w e0 e1
    | 1, _ => exact vcomp_k_10_1 x0 x1 n hr_n w e0 e1
    | 2, _ => exact vcomp_k_10_2 x0 x1 n hr_n w e0 e1
    | 3, _ => exact vcomp_k_10_3 x0 x1 n hr_n w e0 e1
    | 4, _ => exact vcomp_k_10_4 x0 x1 n hr_n w e0 e1
    | 5, _ => exact vcomp_k_10_5 x0 x1 n hr_n w e0 e1
    | k + 6, h => exact absurd h (by omega)
  | k + 11, h => exact absurd h (by omega)
end Go.Proofs.YtfdeipckfdogfaaGreat
