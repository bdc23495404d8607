/- VerifyCompares: runs, part 3 (mkvcomp.py). -/
import Derived.Test.YtfdeipckfdogfaaGreatXsvcc
set_option maxRecDepth 100000
set_option linter.unusedVariables false
namespace Go.Proofs.YtfdeipckfdogfaaGreat
open Go Go.Eng
theorem vcomp_5_1_nz (n : Int) (hr_n : -2147483648 ≤ n ∧ n ≤ 2147483647) (hc0 : n ≠ 0) : tells (.bool true) (@xrun (vc_nz_sy n hr_n hc0) xtabS 300 (vcomp_env (.chan (some 0))) (xf12.c.subs (vcomp_q 5 1)) xf12.rs .nil 0) = true := by kernel_rfl
theorem vcomp_5_2_zero : tells (.bool true) (@xrun sy00 xtabS 300 (vcomp_env (.int .i32 0)) (xf12.c.subs (vcomp_q 5 2)) xf12.rs .nil 0) = true := by kernel_rfl
theorem vcomp_5_2_nz (n : Int) (hr_n : -2147483648 ≤ n ∧ n ≤ 2147483647) (hc0 : n ≠ 0) : tells (.bool true) (@xrun (vc_nz_sy n hr_n hc0) xtabS 300 (vcomp_env (.chan (some 0))) (xf12.c.subs (vcomp_q 5 2)) xf12.rs .nil 0) = true := by kernel_rfl
theorem vcomp_5_3_neg (n : Int) (hr_n : -2147483648 ≤ n ∧ n ≤ 2147483647) (hc0 : n < 0) : tells (.bool true) (@xrun (vc_neg_sy n hr_n hc0) xtabS 300 (vcomp_env (.chan (some 0))) (xf12.c.subs (vcomp_q 5 3)) xf12.rs .nil 0) = true := by kernel_rfl
theorem vcomp_5_3_low (n : Int) (hr_n : -2147483648 ≤ n ∧ n ≤ 2147483647) (hc0 : 0 ≤ n ∧ n < 9) : tells (.bool true) (@xrun (vc_low_sy n hr_n hc0) xtabS 300 (vcomp_env (.chan (some 0))) (xf12.c.subs (vcomp_q 5 3)) xf12.rs .nil 0) = true := by kernel_rfl
theorem vcomp_5_3_nine : tells (.bool true) (@xrun sy00 xtabS 300 (vcomp_env (.int .i32 9)) (xf12.c.subs (vcomp_q 5 3)) xf12.rs .nil 0) = true := by kernel_rfl
theorem vcomp_5_3_high (n : Int) (hr_n : -2147483648 ≤ n ∧ n ≤ 2147483647) (hc0 : 9 < n) : tells (.bool true) (@xrun (vc_high_sy n hr_n hc0) xtabS 300 (vcomp_env (.chan (some 0))) (xf12.c.subs (vcomp_q 5 3)) xf12.rs .nil 0) = true := by kernel_rfl
theorem vcomp_5_4_zero : tells (.bool true) (@xrun sy00 xtabS 300 (vcomp_env (.int .i32 0)) (xf12.c.subs (vcomp_q 5 4)) xf12.rs .nil 0) = true := by kernel_rfl
theorem vcomp_5_4_nz (n : Int) (hr_n : -2147483648 ≤ n ∧ n ≤ 2147483647) (hc0 : n ≠ 0) : tells (.bool true) (@xrun (vc_nz_sy n hr_n hc0) xtabS 300 (vcomp_env (.chan (some 0))) (xf12.c.subs (vcomp_q 5 4)) xf12.rs .nil 0) = true := by kernel_rfl
theorem vcomp_5_5_zero : tells (.bool true) (@xrun sy00 xtabS 300 (vcomp_env (.int .i32 0)) (xf12.c.subs (vcomp_q 5 5)) xf12.rs .nil 0) = true := by kernel_rfl
theorem vcomp_5_5_nz (n : Int) (hr_n : -2147483648 ≤ n ∧ n ≤ 2147483647) (hc0 : n ≠ 0) : tells (.bool true) (@xrun (vc_nz_sy n hr_n hc0) xtabS 300 (vcomp_env (.chan (some 0))) (xf12.c.subs (vcomp_q 5 5)) xf12.rs .nil 0) = true := by kernel_rfl
theorem vcomp_6_0_neg (n : Int) (hr_n : -2147483648 ≤ n ∧ n ≤ 2147483647) (hc0 : n < 0) : tells (.bool true) (@xrun (vc_neg_sy n hr_n hc0) xtabS 300 (vcomp_env (.chan (some 0))) (xf12.c.subs (vcomp_q 6 0)) xf12.rs .nil 0) = true := by kernel_rfl
theorem vcomp_6_0_low (n : Int) (hr_n : -2147483648 ≤ n ∧ n ≤ 2147483647) (hc0 : 0 ≤ n ∧ n < 9) : tells (.bool true) (@xrun (vc_low_sy n hr_n hc0) xtabS 300 (vcomp_env (.chan (some 0))) (xf12.c.subs (vcomp_q 6 0)) xf12.rs .nil 0) = true := by kernel_rfl
theorem vcomp_6_0_nine : tells (.bool true) (@xrun sy00 xtabS 300 (vcomp_env (.int .i32 9)) (xf12.c.subs (vcomp_q 6 0)) xf12.rs .nil 0) = true := by kernel_rfl
theorem vcomp_6_0_high (n : Int) (hr_n : -2147483648 ≤ n ∧ n ≤ 2147483647) (hc0 : 9 < n) : tells (.bool true) (@xrun (vc_high_sy n hr_n hc0) xtabS 300 (vcomp_env (.chan (some 0))) (xf12.c.subs (vcomp_q 6 0)) xf12.rs .nil 0) = true := by kernel_rfl
theorem vcomp_6_1_zero : tells (.bool true) (@xrun sy00 xtabS 300 (vcomp_env (.int .i32 0)) (xf12.c.subs (vcomp_q 6 1)) xf12.rs .nil 0) = true := by kernel_rfl
theorem vcomp_6_1_nz (n : Int) (hr_n : -2147483648 ≤ n ∧ n ≤ 2147483647) (hc0 : n ≠ 0) : tells (.bool true) (@xrun (vc_nz_sy n hr_n hc0) xtabS 300 (vcomp_env (.chan (some 0))) (xf12.c.subs (vcomp_q 6 1)) xf12.rs .nil 0) = true := by kernel_rfl
theorem vcomp_6_2_zero : tells (.bool true) (@xrun sy00 xtabS 300 (vcomp_env (.int .i32 0)) (xf12.c.subs (vcomp_q 6 2)) xf12.rs .nil 0) = true := by kernel_rfl
theorem vcomp_6_2_nz (n : Int) (hr_n : -2147483648 ≤ n ∧ n ≤ 2147483647) (hc0 : n ≠ 0) : tells (.bool true) (@xrun (vc_nz_sy n hr_n hc0) xtabS 300 (vcomp_env (.chan (some 0))) (xf12.c.subs (vcomp_q 6 2)) xf12.rs .nil 0) = true := by kernel_rfl
theorem vcomp_6_3_neg (n : Int) (hr_n : -2147483648 ≤ n ∧ n ≤ 2147483647) (hc0 : n < 0) : tells (.bool true) (@xrun (vc_neg_sy n hr_n hc0) xtabS 300 (vcomp_env (.chan (some 0))) (xf12.c.subs (vcomp_q 6 3)) xf12.rs .nil 0) = true := by kernel_rfl
theorem vcomp_6_3_low (n : Int) (hr_n : -2147483648 ≤ n ∧ n ≤ 2147483647) (hc0 : 0 ≤ n ∧ n < 9) : tells (.bool true) (@xrun (vc_low_sy n hr_n hc0) xtabS 300 (vcomp_env (.chan (some 0))) (xf12.c.subs (vcomp_q 6 3)) xf12.rs .nil 0) = true := by kernel_rfl
theorem vcomp_6_3_nine : tells (.bool true) (@xrun sy00 xtabS 300 (vcomp_env (.int .i32 9)) (xf12.c.subs (vcomp_q 6 3)) xf12.rs .nil 0) = true := by kernel_rfl
theorem vcomp_6_3_high (n : Int) (hr_n : -2147483648 ≤ n ∧ n ≤ 2147483647) (hc0 : 9 < n) : tells (.bool true) (@xrun (vc_high_sy n hr_n hc0) xtabS 300 (vcomp_env (.chan (some 0))) (xf12.c.subs (vcomp_q 6 3)) xf12.rs .nil 0) = true := by kernel_rfl
theorem vcomp_6_4_zero : tells (.bool true) (@xrun sy00 xtabS 300 (vcomp_env (.int .i32 0)) (xf12.c.subs (vcomp_q 6 4)) xf12.rs .nil 0) = true := by kernel_rfl
theorem vcomp_6_4_nz (n : Int) (hr_n : -2147483648 ≤ n ∧ n ≤ 2147483647) (hc0 : n ≠ 0) : tells (.bool true) (@xrun (vc_nz_sy n hr_n hc0) xtabS 300 (vcomp_env (.chan (some 0))) (xf12.c.subs (vcomp_q 6 4)) xf12.rs .nil 0) = true := by kernel_rfl
theorem vcomp_6_5_zero : tells (.bool true) (@xrun sy00 xtabS 300 (vcomp_env (.int .i32 0)) (xf12.c.subs (vcomp_q 6 5)) xf12.rs .nil 0) = true := by kernel_rfl
theorem vcomp_6_5_nz (n : Int) (hr_n : -2147483648 ≤ n ∧ n ≤ 2147483647) (hc0 : n ≠ 0) : tells (.bool true) (@xrun (vc_nz_sy n hr_n hc0) xtabS 300 (vcomp_env (.chan (some 0))) (xf12.c.subs (vcomp_q 6 5)) xf12.rs .nil 0) = true := by kernel_rfl
theorem vcomp_7_0_neg (n : Int) (hr_n : -2147483648 ≤ n ∧ n ≤ 2147483647) (hc0 : n < 0) : tells (.bool true) (@xrun (vc_neg_sy n hr_n hc0) xtabS 300 (vcomp_env (.chan (some 0))) (xf12.c.subs (vcomp_q 7 0)) xf12.rs .nil 0) = true := by kernel_rfl
theorem vcomp_7_0_low (n : Int) (hr_n : -2147483648 ≤ n ∧ n ≤ 2147483647) (hc0 : 0 ≤ n ∧ n < 9) : tells (.bool true) (@xrun (vc_low_sy n hr_n hc0) xtabS 300 (vcomp_env (.chan (some 0))) (xf12.c.subs (vcomp_q 7 0)) xf12.rs .nil 0) = true := by kernel_rfl
theorem vcomp_7_0_nine : tells (.bool true) (@xrun sy00 xtabS 300 (vcomp_env (.int .i32 9)) (xf12.c.subs (vcomp_q 7 0)) xf12.rs .nil 0) = true := by kernel_rfl
theorem vcomp_7_0_high (n : Int) (hr_n : -2147483648 ≤ n ∧ n ≤ 2147483647) (hc0 : 9 < n) : tells (.bool true) (@xrun (vc_high_sy n hr_n hc0) xtabS 300 (vcomp_env (.chan (some 0))) (xf12.c.subs (vcomp_q 7 0)) xf12.rs .nil 0) = true := by kernel_rfl
end Go.Proofs.YtfdeipckfdogfaaGreat
