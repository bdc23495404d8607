/- VerifyCompares: runs, part 0 (mkvcomp.py). -/
import Derived.Test.YtfdeipckfdogfaaGreatXsvcc
set_option maxRecDepth 100000
set_option linter.unusedVariables false
namespace Go.Proofs.YtfdeipckfdogfaaGreat
open Go Go.Eng
theorem vcomp_0_0_neg (n : Int) (hr_n : -2147483648 ≤ n ∧ n ≤ 2147483647) (hc0 : n < 0) : tells (.bool true) (@xrun (vc_neg_sy n hr_n hc0) xtabS 300 (vcomp_env (.chan (some 0))) (xf12.c.subs (vcomp_q 0 0)) xf12.rs .nil 0) = true := by kernel_rfl
theorem vcomp_0_0_low (n : Int) (hr_n : -2147483648 ≤ n ∧ n ≤ 2147483647) (hc0 : 0 ≤ n ∧ n < 9) : tells (.bool true) (@xrun (vc_low_sy n hr_n hc0) xtabS 300 (vcomp_env (.chan (some 0))) (xf12.c.subs (vcomp_q 0 0)) xf12.rs .nil 0) = true := by kernel_rfl
theorem vcomp_0_0_nine : tells (.bool true) (@xrun sy00 xtabS 300 (vcomp_env (.int .i32 9)) (xf12.c.subs (vcomp_q 0 0)) xf12.rs .nil 0) = true := by kernel_rfl
theorem vcomp_0_0_high (n : Int) (hr_n : -2147483648 ≤ n ∧ n ≤ 2147483647) (hc0 : 9 < n) : tells (.bool true) (@xrun (vc_high_sy n hr_n hc0) xtabS 300 (vcomp_env (.chan (some 0))) (xf12.c.subs (vcomp_q 0 0)) xf12.rs .nil 0) = true := by kernel_rfl
theorem vcomp_0_1_zero : tells (.bool true) (@xrun sy00 xtabS 300 (vcomp_env (.int .i32 0)) (xf12.c.subs (vcomp_q 0 1)) xf12.rs .nil 0) = true := by kernel_rfl
theorem vcomp_0_1_nz (n : Int) (hr_n : -2147483648 ≤ n ∧ n ≤ 2147483647) (hc0 : n ≠ 0) : tells (.bool true) (@xrun (vc_nz_sy n hr_n hc0) xtabS 300 (vcomp_env (.chan (some 0))) (xf12.c.subs (vcomp_q 0 1)) xf12.rs .nil 0) = true := by kernel_rfl
theorem vcomp_0_2_zero : tells (.bool true) (@xrun sy00 xtabS 300 (vcomp_env (.int .i32 0)) (xf12.c.subs (vcomp_q 0 2)) xf12.rs .nil 0) = true := by kernel_rfl
theorem vcomp_0_2_nz (n : Int) (hr_n : -2147483648 ≤ n ∧ n ≤ 2147483647) (hc0 : n ≠ 0) : tells (.bool true) (@xrun (vc_nz_sy n hr_n hc0) xtabS 300 (vcomp_env (.chan (some 0))) (xf12.c.subs (vcomp_q 0 2)) xf12.rs .nil 0) = true := by kernel_rfl
theorem vcomp_0_3_neg (n : Int) (hr_n : -2147483648 ≤ n ∧ n ≤ 2147483647) (hc0 : n < 0) : tells (.bool true) (@xrun (vc_neg_sy n hr_n hc0) xtabS 300 (vcomp_env (.chan (some 0))) (xf12.c.subs (vcomp_q 0 3)) xf12.rs .nil 0) = true := by kernel_rfl
theorem vcomp_0_3_low (n : Int) (hr_n : -2147483648 ≤ n ∧ n ≤ 2147483647) (hc0 : 0 ≤ n ∧ n < 9) : tells (.bool true) (@xrun (vc_low_sy n hr_n hc0) xtabS 300 (vcomp_env (.chan (some 0))) (xf12.c.subs (vcomp_q 0 3)) xf12.rs .nil 0) = true := by kernel_rfl
theorem vcomp_0_3_nine : tells (.bool true) (@xrun sy00 xtabS 300 (vcomp_env (.int .i32 9)) (xf12.c.subs (vcomp_q 0 3)) xf12.rs .nil 0) = true := by kernel_rfl
theorem vcomp_0_3_high (n : Int) (hr_n : -2147483648 ≤ n ∧ n ≤ 2147483647) (hc0 : 9 < n) : tells (.bool true) (@xrun (vc_high_sy n hr_n hc0) xtabS 300 (vcomp_env (.chan (some 0))) (xf12.c.subs (vcomp_q 0 3)) xf12.rs .nil 0) = true := by kernel_rfl
theorem vcomp_0_4_zero : tells (.bool true) (@xrun sy00 xtabS 300 (vcomp_env (.int .i32 0)) (xf12.c.subs (vcomp_q 0 4)) xf12.rs .nil 0) = true := by kernel_rfl
theorem vcomp_0_4_nz (n : Int) (hr_n : -2147483648 ≤ n ∧ n ≤ 2147483647) (hc0 : n ≠ 0) : tells (.bool true) (@xrun (vc_nz_sy n hr_n hc0) xtabS 300 (vcomp_env (.chan (some 0))) (xf12.c.subs (vcomp_q 0 4)) xf12.rs .nil 0) = true := by kernel_rfl
theorem vcomp_0_5_zero : tells (.bool true) (@xrun sy00 xtabS 300 (vcomp_env (.int .i32 0)) (xf12.c.subs (vcomp_q 0 5)) xf12.rs .nil 0) = true := by kernel_rfl
theorem vcomp_0_5_nz (n : Int) (hr_n : -2147483648 ≤ n ∧ n ≤ 2147483647) (hc0 : n ≠ 0) : tells (.bool true) (@xrun (vc_nz_sy n hr_n hc0) xtabS 300 (vcomp_env (.chan (some 0))) (xf12.c.subs (vcomp_q 0 5)) xf12.rs .nil 0) = true := by kernel_rfl
theorem vcomp_1_0_neg (n : Int) (hr_n : -2147483648 ≤ n ∧ n ≤ 2147483647) (hc0 : n < 0) : tells (.bool true) (@xrun (vc_neg_sy n hr_n hc0) xtabS 300 (vcomp_env (.chan (some 0))) (xf12.c.subs (vcomp_q 1 0)) xf12.rs .nil 0) = true := by kernel_rfl
theorem vcomp_1_0_low (n : Int) (hr_n : -2147483648 ≤ n ∧ n ≤ 2147483647) (hc0 : 0 ≤ n ∧ n < 9) : tells (.bool true) (@xrun (vc_low_sy n hr_n hc0) xtabS 300 (vcomp_env (.chan (some 0))) (xf12.c.subs (vcomp_q 1 0)) xf12.rs .nil 0) = true := by kernel_rfl
theorem vcomp_1_0_nine : tells (.bool true) (@xrun sy00 xtabS 300 (vcomp_env (.int .i32 9)) (xf12.c.subs (vcomp_q 1 0)) xf12.rs .nil 0) = true := by kernel_rfl
theorem vcomp_1_0_high (n : Int) (hr_n : -2147483648 ≤ n ∧ n ≤ 2147483647) (hc0 : 9 < n) : tells (.bool true) (@xrun (vc_high_sy n hr_n hc0) xtabS 300 (vcomp_env (.chan (some 0))) (xf12.c.subs (vcomp_q 1 0)) xf12.rs .nil 0) = true := by kernel_rfl
theorem vcomp_1_1_zero : tells (.bool true) (@xrun sy00 xtabS 300 (vcomp_env (.int .i32 0)) (xf12.c.subs (vcomp_q 1 1)) xf12.rs .nil 0) = true := by kernel_rfl
theorem vcomp_1_1_nz (n : Int) (hr_n : -2147483648 ≤ n ∧ n ≤ 2147483647) (hc0 : n ≠ 0) : tells (.bool true) (@xrun (vc_nz_sy n hr_n hc0) xtabS 300 (vcomp_env (.chan (some 0))) (xf12.c.subs (vcomp_q 1 1)) xf12.rs .nil 0) = true := by kernel_rfl
theorem vcomp_1_2_zero : tells (.bool true) (@xrun sy00 xtabS 300 (vcomp_env (.int .i32 0)) (xf12.c.subs (vcomp_q 1 2)) xf12.rs .nil 0) = true := by kernel_rfl
theorem vcomp_1_2_nz (n : Int) (hr_n : -2147483648 ≤ n ∧ n ≤ 2147483647) (hc0 : n ≠ 0) : tells (.bool true) (@xrun (vc_nz_sy n hr_n hc0) xtabS 300 (vcomp_env (.chan (some 0))) (xf12.c.subs (vcomp_q 1 2)) xf12.rs .nil 0) = true := by kernel_rfl
theorem vcomp_1_3_neg (n : Int) (hr_n : -2147483648 ≤ n ∧ n ≤ 2147483647) (hc0 : n < 0) : tells (.bool true) (@xrun (vc_neg_sy n hr_n hc0) xtabS 300 (vcomp_env (.chan (some 0))) (xf12.c.subs (vcomp_q 1 3)) xf12.rs .nil 0) = true := by kernel_rfl
theorem vcomp_1_3_low (n : Int) (hr_n : -2147483648 ≤ n ∧ n ≤ 2147483647) (hc0 : 0 ≤ n ∧ n < 9) : tells (.bool true) (@xrun (vc_low_sy n hr_n hc0) xtabS 300 (vcomp_env (.chan (some 0))) (xf12.c.subs (vcomp_q 1 3)) xf12.rs .nil 0) = true := by kernel_rfl
theorem vcomp_1_3_nine : tells (.bool true) (@xrun sy00 xtabS 300 (vcomp_env (.int .i32 9)) (xf12.c.subs (vcomp_q 1 3)) xf12.rs .nil 0) = true := by kernel_rfl
theorem vcomp_1_3_high (n : Int) (hr_n : -2147483648 ≤ n ∧ n ≤ 2147483647) (hc0 : 9 < n) : tells (.bool true) (@xrun (vc_high_sy n hr_n hc0) xtabS 300 (vcomp_env (.chan (some 0))) (xf12.c.subs (vcomp_q 1 3)) xf12.rs .nil 0) = true := by kernel_rfl
theorem vcomp_1_4_zero : tells (.bool true) (@xrun sy00 xtabS 300 (vcomp_env (.int .i32 0)) (xf12.c.subs (vcomp_q 1 4)) xf12.rs .nil 0) = true := by kernel_rfl
theorem vcomp_1_4_nz (n : Int) (hr_n : -2147483648 ≤ n ∧ n ≤ 2147483647) (hc0 : n ≠ 0) : tells (.bool true) (@xrun (vc_nz_sy n hr_n hc0) xtabS 300 (vcomp_env (.chan (some 0))) (xf12.c.subs (vcomp_q 1 4)) xf12.rs .nil 0) = true := by kernel_rfl
theorem vcomp_1_5_zero : tells (.bool true) (@xrun sy00 xtabS 300 (vcomp_env (.int .i32 0)) (xf12.c.subs (vcomp_q 1 5)) xf12.rs .nil 0) = true := by kernel_rfl
end Go.Proofs.YtfdeipckfdogfaaGreat
