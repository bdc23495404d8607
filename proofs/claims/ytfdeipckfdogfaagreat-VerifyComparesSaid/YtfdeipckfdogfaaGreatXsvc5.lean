/- VerifyCompares: runs, part 5 (mkvcomp.py). -/
import Derived.Test.YtfdeipckfdogfaaGreatXsvcc
set_option maxRecDepth 100000
set_option linter.unusedVariables false
namespace Go.Proofs.YtfdeipckfdogfaaGreat
open Go Go.Eng
theorem vcomp_9_0_high (n : Int) (hr_n : -2147483648 ≤ n ∧ n ≤ 2147483647) (hc0 : 9 < n) : tells (.bool true) (@xrun (vc_high_sy n hr_n hc0) xtabS 300 (vcomp_env (.chan (some 0))) (xf12.c.subs (vcomp_q 9 0)) xf12.rs .nil 0) = true := by kernel_rfl
theorem vcomp_9_1_zero : tells (.bool true) (@xrun sy00 xtabS 300 (vcomp_env (.int .i32 0)) (xf12.c.subs (vcomp_q 9 1)) xf12.rs .nil 0) = true := by kernel_rfl
theorem vcomp_9_1_nz (n : Int) (hr_n : -2147483648 ≤ n ∧ n ≤ 2147483647) (hc0 : n ≠ 0) : tells (.bool true) (@xrun (vc_nz_sy n hr_n hc0) xtabS 300 (vcomp_env (.chan (some 0))) (xf12.c.subs (vcomp_q 9 1)) xf12.rs .nil 0) = true := by kernel_rfl
theorem vcomp_9_2_zero : tells (.bool true) (@xrun sy00 xtabS 300 (vcomp_env (.int .i32 0)) (xf12.c.subs (vcomp_q 9 2)) xf12.rs .nil 0) = true := by kernel_rfl
theorem vcomp_9_2_nz (n : Int) (hr_n : -2147483648 ≤ n ∧ n ≤ 2147483647) (hc0 : n ≠ 0) : tells (.bool true) (@xrun (vc_nz_sy n hr_n hc0) xtabS 300 (vcomp_env (.chan (some 0))) (xf12.c.subs (vcomp_q 9 2)) xf12.rs .nil 0) = true := by kernel_rfl
theorem vcomp_9_3_neg (n : Int) (hr_n : -2147483648 ≤ n ∧ n ≤ 2147483647) (hc0 : n < 0) : tells (.bool true) (@xrun (vc_neg_sy n hr_n hc0) xtabS 300 (vcomp_env (.chan (some 0))) (xf12.c.subs (vcomp_q 9 3)) xf12.rs .nil 0) = true := by kernel_rfl
theorem vcomp_9_3_low (n : Int) (hr_n : -2147483648 ≤ n ∧ n ≤ 2147483647) (hc0 : 0 ≤ n ∧ n < 9) : tells (.bool true) (@xrun (vc_low_sy n hr_n hc0) xtabS 300 (vcomp_env (.chan (some 0))) (xf12.c.subs (vcomp_q 9 3)) xf12.rs .nil 0) = true := by kernel_rfl
theorem vcomp_9_3_nine : tells (.bool true) (@xrun sy00 xtabS 300 (vcomp_env (.int .i32 9)) (xf12.c.subs (vcomp_q 9 3)) xf12.rs .nil 0) = true := by kernel_rfl
theorem vcomp_9_3_high (n : Int) (hr_n : -2147483648 ≤ n ∧ n ≤ 2147483647) (hc0 : 9 < n) : tells (.bool true) (@xrun (vc_high_sy n hr_n hc0) xtabS 300 (vcomp_env (.chan (some 0))) (xf12.c.subs (vcomp_q 9 3)) xf12.rs .nil 0) = true := by kernel_rfl
theorem vcomp_9_4_zero : tells (.bool true) (@xrun sy00 xtabS 300 (vcomp_env (.int .i32 0)) (xf12.c.subs (vcomp_q 9 4)) xf12.rs .nil 0) = true := by kernel_rfl
theorem vcomp_9_4_nz (n : Int) (hr_n : -2147483648 ≤ n ∧ n ≤ 2147483647) (hc0 : n ≠ 0) : tells (.bool true) (@xrun (vc_nz_sy n hr_n hc0) xtabS 300 (vcomp_env (.chan (some 0))) (xf12.c.subs (vcomp_q 9 4)) xf12.rs .nil 0) = true := by kernel_rfl
theorem vcomp_9_5_zero : tells (.bool true) (@xrun sy00 xtabS 300 (vcomp_env (.int .i32 0)) (xf12.c.subs (vcomp_q 9 5)) xf12.rs .nil 0) = true := by kernel_rfl
theorem vcomp_9_5_nz (n : Int) (hr_n : -2147483648 ≤ n ∧ n ≤ 2147483647) (hc0 : n ≠ 0) : tells (.bool true) (@xrun (vc_nz_sy n hr_n hc0) xtabS 300 (vcomp_env (.chan (some 0))) (xf12.c.subs (vcomp_q 9 5)) xf12.rs .nil 0) = true := by kernel_rfl
theorem vcomp_10_0_neg (n : Int) (hr_n : -2147483648 ≤ n ∧ n ≤ 2147483647) (hc0 : n < 0) : tells (.bool true) (@xrun (vc_neg_sy n hr_n hc0) xtabS 300 (vcomp_env (.chan (some 0))) (xf12.c.subs (vcomp_q 10 0)) xf12.rs .nil 0) = true := by kernel_rfl
theorem vcomp_10_0_low (n : Int) (hr_n : -2147483648 ≤ n ∧ n ≤ 2147483647) (hc0 : 0 ≤ n ∧ n < 9) : tells (.bool true) (@xrun (vc_low_sy n hr_n hc0) xtabS 300 (vcomp_env (.chan (some 0))) (xf12.c.subs (vcomp_q 10 0)) xf12.rs .nil 0) = true := by kernel_rfl
theorem vcomp_10_0_nine : tells (.bool true) (@xrun sy00 xtabS 300 (vcomp_env (.int .i32 9)) (xf12.c.subs (vcomp_q 10 0)) xf12.rs .nil 0) = true := by kernel_rfl
theorem vcomp_10_0_high (n : Int) (hr_n : -2147483648 ≤ n ∧ n ≤ 2147483647) (hc0 : 9 < n) : tells (.bool true) (@xrun (vc_high_sy n hr_n hc0) xtabS 300 (vcomp_env (.chan (some 0))) (xf12.c.subs (vcomp_q 10 0)) xf12.rs .nil 0) = true := by kernel_rfl
theorem vcomp_10_1_zero : tells (.bool true) (@xrun sy00 xtabS 300 (vcomp_env (.int .i32 0)) (xf12.c.subs (vcomp_q 10 1)) xf12.rs .nil 0) = true := by kernel_rfl
theorem vcomp_10_1_nz (n : Int) (hr_n : -2147483648 ≤ n ∧ n ≤ 2147483647) (hc0 : n ≠ 0) : tells (.bool true) (@xrun (vc_nz_sy n hr_n hc0) xtabS 300 (vcomp_env (.chan (some 0))) (xf12.c.subs (vcomp_q 10 1)) xf12.rs .nil 0) = true := by kernel_rfl
theorem vcomp_10_2_zero : tells (.bool true) (@xrun sy00 xtabS 300 (vcomp_env (.int .i32 0)) (xf12.c.subs (vcomp_q 10 2)) xf12.rs .nil 0) = true := by kernel_rfl
theorem vcomp_10_2_nz (n : Int) (hr_n : -2147483648 ≤ n ∧ n ≤ 2147483647) (hc0 : n ≠ 0) : tells (.bool true) (@xrun (vc_nz_sy n hr_n hc0) xtabS 300 (vcomp_env (.chan (some 0))) (xf12.c.subs (vcomp_q 10 2)) xf12.rs .nil 0) = true := by kernel_rfl
theorem vcomp_10_3_neg (n : Int) (hr_n : -2147483648 ≤ n ∧ n ≤ 2147483647) (hc0 : n < 0) : tells (.bool true) (@xrun (vc_neg_sy n hr_n hc0) xtabS 300 (vcomp_env (.chan (some 0))) (xf12.c.subs (vcomp_q 10 3)) xf12.rs .nil 0) = true := by kernel_rfl
theorem vcomp_10_3_low (n : Int) (hr_n : -2147483648 ≤ n ∧ n ≤ 2147483647) (hc0 : 0 ≤ n ∧ n < 9) : tells (.bool true) (@xrun (vc_low_sy n hr_n hc0) xtabS 300 (vcomp_env (.chan (some 0))) (xf12.c.subs (vcomp_q 10 3)) xf12.rs .nil 0) = true := by kernel_rfl
theorem vcomp_10_3_nine : tells (.bool true) (@xrun sy00 xtabS 300 (vcomp_env (.int .i32 9)) (xf12.c.subs (vcomp_q 10 3)) xf12.rs .nil 0) = true := by kernel_rfl
theorem vcomp_10_3_high (n : Int) (hr_n : -2147483648 ≤ n ∧ n ≤ 2147483647) (hc0 : 9 < n) : tells (.bool true) (@xrun (vc_high_sy n hr_n hc0) xtabS 300 (vcomp_env (.chan (some 0))) (xf12.c.subs (vcomp_q 10 3)) xf12.rs .nil 0) = true := by kernel_rfl
theorem vcomp_10_4_zero : tells (.bool true) (@xrun sy00 xtabS 300 (vcomp_env (.int .i32 0)) (xf12.c.subs (vcomp_q 10 4)) xf12.rs .nil 0) = true := by kernel_rfl
theorem vcomp_10_4_nz (n : Int) (hr_n : -2147483648 ≤ n ∧ n ≤ 2147483647) (hc0 : n ≠ 0) : tells (.bool true) (@xrun (vc_nz_sy n hr_n hc0) xtabS 300 (vcomp_env (.chan (some 0))) (xf12.c.subs (vcomp_q 10 4)) xf12.rs .nil 0) = true := by kernel_rfl
theorem vcomp_10_5_zero : tells (.bool true) (@xrun sy00 xtabS 300 (vcomp_env (.int .i32 0)) (xf12.c.subs (vcomp_q 10 5)) xf12.rs .nil 0) = true := by kernel_rfl
theorem vcomp_10_5_nz (n : Int) (hr_n : -2147483648 ≤ n ∧ n ≤ 2147483647) (hc0 : n ≠ 0) : tells (.bool true) (@xrun (vc_nz_sy n hr_n hc0) xtabS 300 (vcomp_env (.chan (some 0))) (xf12.c.subs (vcomp_q 10 5)) xf12.rs .nil 0) = true := by kernel_rfl
end Go.Proofs.YtfdeipckfdogfaaGreat
