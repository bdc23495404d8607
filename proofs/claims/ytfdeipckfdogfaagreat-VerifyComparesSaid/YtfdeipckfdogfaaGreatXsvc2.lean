/- VerifyCompares: runs, part 2 (mkvcomp.py). -/
import Derived.Test.YtfdeipckfdogfaaGreatXsvcc
set_option maxRecDepth 100000
set_option linter.unusedVariables false
namespace Go.Proofs.YtfdeipckfdogfaaGreat
open Go Go.Eng
theorem vcomp_3_3_nand8 (n : Int) (hr_n : -2147483648 ≤ n ∧ n ≤ 2147483647) (hc0 : n < 0) (hc1 : BitVec.ofInt 64 9 &&& BitVec.ofInt 64 n = 8) : tells (.bool true) (@xrun (vc_nand8_sy n hr_n hc0 hc1) xtabS 300 (vcomp_env (.chan (some 0))) (xf12.c.subs (vcomp_q 3 3)) xf12.rs .nil 0) = true := by kernel_rfl
theorem vcomp_3_3_nand9 (n : Int) (hr_n : -2147483648 ≤ n ∧ n ≤ 2147483647) (hc0 : n < 0) (hc1 : BitVec.ofInt 64 9 &&& BitVec.ofInt 64 n = 9) : tells (.bool true) (@xrun (vc_nand9_sy n hr_n hc0 hc1) xtabS 300 (vcomp_env (.chan (some 0))) (xf12.c.subs (vcomp_q 3 3)) xf12.rs .nil 0) = true := by kernel_rfl
theorem vcomp_3_3_pand0 (n : Int) (hr_n : -2147483648 ≤ n ∧ n ≤ 2147483647) (hc0 : 0 ≤ n) (hc1 : BitVec.ofInt 64 9 &&& BitVec.ofInt 64 n = 0) : tells (.bool true) (@xrun (vc_pand0_sy n hr_n hc0 hc1) xtabS 300 (vcomp_env (.chan (some 0))) (xf12.c.subs (vcomp_q 3 3)) xf12.rs .nil 0) = true := by kernel_rfl
theorem vcomp_3_3_pand1 (n : Int) (hr_n : -2147483648 ≤ n ∧ n ≤ 2147483647) (hc0 : 0 ≤ n) (hc1 : BitVec.ofInt 64 9 &&& BitVec.ofInt 64 n = 1) : tells (.bool true) (@xrun (vc_pand1_sy n hr_n hc0 hc1) xtabS 300 (vcomp_env (.chan (some 0))) (xf12.c.subs (vcomp_q 3 3)) xf12.rs .nil 0) = true := by kernel_rfl
theorem vcomp_3_3_pand8 (n : Int) (hr_n : -2147483648 ≤ n ∧ n ≤ 2147483647) (hc0 : 0 ≤ n) (hc1 : BitVec.ofInt 64 9 &&& BitVec.ofInt 64 n = 8) : tells (.bool true) (@xrun (vc_pand8_sy n hr_n hc0 hc1) xtabS 300 (vcomp_env (.chan (some 0))) (xf12.c.subs (vcomp_q 3 3)) xf12.rs .nil 0) = true := by kernel_rfl
theorem vcomp_3_3_pand9 (n : Int) (hr_n : -2147483648 ≤ n ∧ n ≤ 2147483647) (hc0 : 0 ≤ n) (hc1 : BitVec.ofInt 64 9 &&& BitVec.ofInt 64 n = 9) : tells (.bool true) (@xrun (vc_pand9_sy n hr_n hc0 hc1) xtabS 300 (vcomp_env (.chan (some 0))) (xf12.c.subs (vcomp_q 3 3)) xf12.rs .nil 0) = true := by kernel_rfl
theorem vcomp_3_4_zero : tells (.bool true) (@xrun sy00 xtabS 300 (vcomp_env (.int .i32 0)) (xf12.c.subs (vcomp_q 3 4)) xf12.rs .nil 0) = true := by kernel_rfl
theorem vcomp_3_4_nz (n : Int) (hr_n : -2147483648 ≤ n ∧ n ≤ 2147483647) (hc0 : n ≠ 0) : tells (.bool true) (@xrun (vc_nz_sy n hr_n hc0) xtabS 300 (vcomp_env (.chan (some 0))) (xf12.c.subs (vcomp_q 3 4)) xf12.rs .nil 0) = true := by kernel_rfl
theorem vcomp_3_5_zero : tells (.bool true) (@xrun sy00 xtabS 300 (vcomp_env (.int .i32 0)) (xf12.c.subs (vcomp_q 3 5)) xf12.rs .nil 0) = true := by kernel_rfl
theorem vcomp_3_5_nz (n : Int) (hr_n : -2147483648 ≤ n ∧ n ≤ 2147483647) (hc0 : n ≠ 0) : tells (.bool true) (@xrun (vc_nz_sy n hr_n hc0) xtabS 300 (vcomp_env (.chan (some 0))) (xf12.c.subs (vcomp_q 3 5)) xf12.rs .nil 0) = true := by kernel_rfl
theorem vcomp_4_0_neg (n : Int) (hr_n : -2147483648 ≤ n ∧ n ≤ 2147483647) (hc0 : n < 0) : tells (.bool true) (@xrun (vc_neg_sy n hr_n hc0) xtabS 300 (vcomp_env (.chan (some 0))) (xf12.c.subs (vcomp_q 4 0)) xf12.rs .nil 0) = true := by kernel_rfl
theorem vcomp_4_0_low (n : Int) (hr_n : -2147483648 ≤ n ∧ n ≤ 2147483647) (hc0 : 0 ≤ n ∧ n < 9) : tells (.bool true) (@xrun (vc_low_sy n hr_n hc0) xtabS 300 (vcomp_env (.chan (some 0))) (xf12.c.subs (vcomp_q 4 0)) xf12.rs .nil 0) = true := by kernel_rfl
theorem vcomp_4_0_nine : tells (.bool true) (@xrun sy00 xtabS 300 (vcomp_env (.int .i32 9)) (xf12.c.subs (vcomp_q 4 0)) xf12.rs .nil 0) = true := by kernel_rfl
theorem vcomp_4_0_high (n : Int) (hr_n : -2147483648 ≤ n ∧ n ≤ 2147483647) (hc0 : 9 < n) : tells (.bool true) (@xrun (vc_high_sy n hr_n hc0) xtabS 300 (vcomp_env (.chan (some 0))) (xf12.c.subs (vcomp_q 4 0)) xf12.rs .nil 0) = true := by kernel_rfl
theorem vcomp_4_1_zero : tells (.bool true) (@xrun sy00 xtabS 300 (vcomp_env (.int .i32 0)) (xf12.c.subs (vcomp_q 4 1)) xf12.rs .nil 0) = true := by kernel_rfl
theorem vcomp_4_1_nz (n : Int) (hr_n : -2147483648 ≤ n ∧ n ≤ 2147483647) (hc0 : n ≠ 0) : tells (.bool true) (@xrun (vc_nz_sy n hr_n hc0) xtabS 300 (vcomp_env (.chan (some 0))) (xf12.c.subs (vcomp_q 4 1)) xf12.rs .nil 0) = true := by kernel_rfl
theorem vcomp_4_2_zero : tells (.bool true) (@xrun sy00 xtabS 300 (vcomp_env (.int .i32 0)) (xf12.c.subs (vcomp_q 4 2)) xf12.rs .nil 0) = true := by kernel_rfl
theorem vcomp_4_2_nz (n : Int) (hr_n : -2147483648 ≤ n ∧ n ≤ 2147483647) (hc0 : n ≠ 0) : tells (.bool true) (@xrun (vc_nz_sy n hr_n hc0) xtabS 300 (vcomp_env (.chan (some 0))) (xf12.c.subs (vcomp_q 4 2)) xf12.rs .nil 0) = true := by kernel_rfl
theorem vcomp_4_3_neg (n : Int) (hr_n : -2147483648 ≤ n ∧ n ≤ 2147483647) (hc0 : n < 0) : tells (.bool true) (@xrun (vc_neg_sy n hr_n hc0) xtabS 300 (vcomp_env (.chan (some 0))) (xf12.c.subs (vcomp_q 4 3)) xf12.rs .nil 0) = true := by kernel_rfl
theorem vcomp_4_3_low (n : Int) (hr_n : -2147483648 ≤ n ∧ n ≤ 2147483647) (hc0 : 0 ≤ n ∧ n < 9) : tells (.bool true) (@xrun (vc_low_sy n hr_n hc0) xtabS 300 (vcomp_env (.chan (some 0))) (xf12.c.subs (vcomp_q 4 3)) xf12.rs .nil 0) = true := by kernel_rfl
theorem vcomp_4_3_nine : tells (.bool true) (@xrun sy00 xtabS 300 (vcomp_env (.int .i32 9)) (xf12.c.subs (vcomp_q 4 3)) xf12.rs .nil 0) = true := by kernel_rfl
theorem vcomp_4_3_high (n : Int) (hr_n : -2147483648 ≤ n ∧ n ≤ 2147483647) (hc0 : 9 < n) : tells (.bool true) (@xrun (vc_high_sy n hr_n hc0) xtabS 300 (vcomp_env (.chan (some 0))) (xf12.c.subs (vcomp_q 4 3)) xf12.rs .nil 0) = true := by kernel_rfl
theorem vcomp_4_4_zero : tells (.bool true) (@xrun sy00 xtabS 300 (vcomp_env (.int .i32 0)) (xf12.c.subs (vcomp_q 4 4)) xf12.rs .nil 0) = true := by kernel_rfl
theorem vcomp_4_4_nz (n : Int) (hr_n : -2147483648 ≤ n ∧ n ≤ 2147483647) (hc0 : n ≠ 0) : tells (.bool true) (@xrun (vc_nz_sy n hr_n hc0) xtabS 300 (vcomp_env (.chan (some 0))) (xf12.c.subs (vcomp_q 4 4)) xf12.rs .nil 0) = true := by kernel_rfl
theorem vcomp_4_5_zero : tells (.bool true) (@xrun sy00 xtabS 300 (vcomp_env (.int .i32 0)) (xf12.c.subs (vcomp_q 4 5)) xf12.rs .nil 0) = true := by kernel_rfl
theorem vcomp_4_5_nz (n : Int) (hr_n : -2147483648 ≤ n ∧ n ≤ 2147483647) (hc0 : n ≠ 0) : tells (.bool true) (@xrun (vc_nz_sy n hr_n hc0) xtabS 300 (vcomp_env (.chan (some 0))) (xf12.c.subs (vcomp_q 4 5)) xf12.rs .nil 0) = true := by kernel_rfl
theorem vcomp_5_0_neg (n : Int) (hr_n : -2147483648 ≤ n ∧ n ≤ 2147483647) (hc0 : n < 0) : tells (.bool true) (@xrun (vc_neg_sy n hr_n hc0) xtabS 300 (vcomp_env (.chan (some 0))) (xf12.c.subs (vcomp_q 5 0)) xf12.rs .nil 0) = true := by kernel_rfl
theorem vcomp_5_0_low (n : Int) (hr_n : -2147483648 ≤ n ∧ n ≤ 2147483647) (hc0 : 0 ≤ n ∧ n < 9) : tells (.bool true) (@xrun (vc_low_sy n hr_n hc0) xtabS 300 (vcomp_env (.chan (some 0))) (xf12.c.subs (vcomp_q 5 0)) xf12.rs .nil 0) = true := by kernel_rfl
theorem vcomp_5_0_nine : tells (.bool true) (@xrun sy00 xtabS 300 (vcomp_env (.int .i32 9)) (xf12.c.subs (vcomp_q 5 0)) xf12.rs .nil 0) = true := by kernel_rfl
theorem vcomp_5_0_high (n : Int) (hr_n : -2147483648 ≤ n ∧ n ≤ 2147483647) (hc0 : 9 < n) : tells (.bool true) (@xrun (vc_high_sy n hr_n hc0) xtabS 300 (vcomp_env (.chan (some 0))) (xf12.c.subs (vcomp_q 5 0)) xf12.rs .nil 0) = true := by kernel_rfl
theorem vcomp_5_1_zero : tells (.bool true) (@xrun sy00 xtabS 300 (vcomp_env (.int .i32 0)) (xf12.c.subs (vcomp_q 5 1)) xf12.rs .nil 0) = true := by kernel_rfl
end Go.Proofs.YtfdeipckfdogfaaGreat
