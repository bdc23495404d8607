/- tipstaff/tipstafflaw18.VerifyOps: runs, part 6 (mkx.py). -/
import Derived.Test.YtfdeipckfdogfaaGreatXvvopsQ
set_option maxRecDepth 100000
set_option linter.unusedVariables false
namespace Go.Proofs.YtfdeipckfdogfaaGreat
open Go.Eng
theorem vops_9_0_true : tells (.bool true) (xrun xtabS 300 43 (xf11.c.subs (vops_q 9 0 true)) xf11.rs .nil 0) = true := by kernel_rfl
theorem vops_9_0_false : tells (.bool true) (xrun xtabS 300 43 (xf11.c.subs (vops_q 9 0 false)) xf11.rs .nil 0) = true := by kernel_rfl
theorem vops_9_1_true : tells (.bool true) (xrun xtabS 300 43 (xf11.c.subs (vops_q 9 1 true)) xf11.rs .nil 0) = true := by kernel_rfl
theorem vops_9_1_false : tells (.bool true) (xrun xtabS 300 43 (xf11.c.subs (vops_q 9 1 false)) xf11.rs .nil 0) = true := by kernel_rfl
theorem vops_9_2_true : tells (.bool true) (xrun xtabS 300 43 (xf11.c.subs (vops_q 9 2 true)) xf11.rs .nil 0) = true := by kernel_rfl
theorem vops_9_2_false : tells (.bool true) (xrun xtabS 300 43 (xf11.c.subs (vops_q 9 2 false)) xf11.rs .nil 0) = true := by kernel_rfl
theorem vops_9_3_true : tells (.bool true) (xrun xtabS 300 43 (xf11.c.subs (vops_q 9 3 true)) xf11.rs .nil 0) = true := by kernel_rfl
theorem vops_9_3_false : tells (.bool true) (xrun xtabS 300 43 (xf11.c.subs (vops_q 9 3 false)) xf11.rs .nil 0) = true := by kernel_rfl
theorem vops_10_0_true : tells (.bool true) (xrun xtabS 300 43 (xf11.c.subs (vops_q 10 0 true)) xf11.rs .nil 0) = true := by kernel_rfl
theorem vops_10_0_false : tells (.bool true) (xrun xtabS 300 43 (xf11.c.subs (vops_q 10 0 false)) xf11.rs .nil 0) = true := by kernel_rfl
theorem vops_10_1_true : tells (.bool true) (xrun xtabS 300 43 (xf11.c.subs (vops_q 10 1 true)) xf11.rs .nil 0) = true := by kernel_rfl
theorem vops_10_1_false : tells (.bool true) (xrun xtabS 300 43 (xf11.c.subs (vops_q 10 1 false)) xf11.rs .nil 0) = true := by kernel_rfl
end Go.Proofs.YtfdeipckfdogfaaGreat
