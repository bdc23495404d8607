/- tipstaff/tipstafflaw18.VerifyOps: runs, part 0 (mkx.py). -/
import Derived.Test.YtfdeipckfdogfaaGreatXvvopsQ
set_option maxRecDepth 100000
set_option linter.unusedVariables false
namespace Go.Proofs.YtfdeipckfdogfaaGreat
open Go.Eng
theorem vops_0_0_true : tells (.bool true) (xrun xtabS 300 43 (xf11.c.subs (vops_q 0 0 true)) xf11.rs .nil 0) = true := by kernel_rfl
theorem vops_0_0_false : tells (.bool true) (xrun xtabS 300 43 (xf11.c.subs (vops_q 0 0 false)) xf11.rs .nil 0) = true := by kernel_rfl
theorem vops_0_1_true : tells (.bool true) (xrun xtabS 300 43 (xf11.c.subs (vops_q 0 1 true)) xf11.rs .nil 0) = true := by kernel_rfl
theorem vops_0_1_false : tells (.bool true) (xrun xtabS 300 43 (xf11.c.subs (vops_q 0 1 false)) xf11.rs .nil 0) = true := by kernel_rfl
theorem vops_0_2_true : tells (.bool true) (xrun xtabS 300 43 (xf11.c.subs (vops_q 0 2 true)) xf11.rs .nil 0) = true := by kernel_rfl
theorem vops_0_2_false : tells (.bool true) (xrun xtabS 300 43 (xf11.c.subs (vops_q 0 2 false)) xf11.rs .nil 0) = true := by kernel_rfl
theorem vops_0_3_true : tells (.bool true) (xrun xtabS 300 43 (xf11.c.subs (vops_q 0 3 true)) xf11.rs .nil 0) = true := by kernel_rfl
theorem vops_0_3_false : tells (.bool true) (xrun xtabS 300 43 (xf11.c.subs (vops_q 0 3 false)) xf11.rs .nil 0) = true := by kernel_rfl
theorem vops_1_0_true : tells (.bool true) (xrun xtabS 300 43 (xf11.c.subs (vops_q 1 0 true)) xf11.rs .nil 0) = true := by kernel_rfl
theorem vops_1_0_false : tells (.bool true) (xrun xtabS 300 43 (xf11.c.subs (vops_q 1 0 false)) xf11.rs .nil 0) = true := by kernel_rfl
theorem vops_1_1_true : tells (.bool true) (xrun xtabS 300 43 (xf11.c.subs (vops_q 1 1 true)) xf11.rs .nil 0) = true := by kernel_rfl
theorem vops_1_1_false : tells (.bool true) (xrun xtabS 300 43 (xf11.c.subs (vops_q 1 1 false)) xf11.rs .nil 0) = true := by kernel_rfl
end Go.Proofs.YtfdeipckfdogfaaGreat
