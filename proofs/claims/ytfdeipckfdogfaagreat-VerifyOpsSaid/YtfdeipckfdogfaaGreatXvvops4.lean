/- tipstaff/tipstafflaw18.VerifyOps: runs, part 4 (mkx.py). -/
import Derived.Test.YtfdeipckfdogfaaGreatXvvopsQ
set_option maxRecDepth 100000
set_option linter.unusedVariables false
namespace Go.Proofs.YtfdeipckfdogfaaGreat
open Go.Eng
theorem vops_6_0_true : tells (.bool true) (xrun xtabS 300 43 (xf11.c.subs (vops_q 6 0 true)) xf11.rs .nil 0) = true := by kernel_rfl
theorem vops_6_0_false : tells (.bool true) (xrun xtabS 300 43 (xf11.c.subs (vops_q 6 0 false)) xf11.rs .nil 0) = true := by kernel_rfl
theorem vops_6_1_true : tells (.bool true) (xrun xtabS 300 43 (xf11.c.subs (vops_q 6 1 true)) xf11.rs .nil 0) = true := by kernel_rfl
theorem vops_6_1_false : tells (.bool true) (xrun xtabS 300 43 (xf11.c.subs (vops_q 6 1 false)) xf11.rs .nil 0) = true := by kernel_rfl
theorem vops_6_2_true : tells (.bool true) (xrun xtabS 300 43 (xf11.c.subs (vops_q 6 2 true)) xf11.rs .nil 0) = true := by kernel_rfl
theorem vops_6_2_false : tells (.bool true) (xrun xtabS 300 43 (xf11.c.subs (vops_q 6 2 false)) xf11.rs .nil 0) = true := by kernel_rfl
theorem vops_6_3_true : tells (.bool true) (xrun xtabS 300 43 (xf11.c.subs (vops_q 6 3 true)) xf11.rs .nil 0) = true := by kernel_rfl
theorem vops_6_3_false : tells (.bool true) (xrun xtabS 300 43 (xf11.c.subs (vops_q 6 3 false)) xf11.rs .nil 0) = true := by kernel_rfl
theorem vops_7_0_true : tells (.bool true) (xrun xtabS 300 43 (xf11.c.subs (vops_q 7 0 true)) xf11.rs .nil 0) = true := by kernel_rfl
theorem vops_7_0_false : tells (.bool true) (xrun xtabS 300 43 (xf11.c.subs (vops_q 7 0 false)) xf11.rs .nil 0) = true := by kernel_rfl
theorem vops_7_1_true : tells (.bool true) (xrun xtabS 300 43 (xf11.c.subs (vops_q 7 1 true)) xf11.rs .nil 0) = true := by kernel_rfl
theorem vops_7_1_false : tells (.bool true) (xrun xtabS 300 43 (xf11.c.subs (vops_q 7 1 false)) xf11.rs .nil 0) = true := by kernel_rfl
end Go.Proofs.YtfdeipckfdogfaaGreat
