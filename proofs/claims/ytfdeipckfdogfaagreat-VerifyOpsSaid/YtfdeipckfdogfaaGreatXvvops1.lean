/- tipstaff/tipstafflaw18.VerifyOps: runs, part 1 (mkx.py). -/
import Derived.Test.YtfdeipckfdogfaaGreatXvvopsQ
set_option maxRecDepth 100000
set_option linter.unusedVariables false
namespace Go.Proofs.YtfdeipckfdogfaaGreat
open Go.Eng
theorem vops_1_2_true : tells (.bool true) (xrun xtabS 300 43 (xf11.c.subs (vops_q 1 2 true)) xf11.rs .nil 0) = true := by kernel_rfl
theorem vops_1_2_false : tells (.bool true) (xrun xtabS 300 43 (xf11.c.subs (vops_q 1 2 false)) xf11.rs .nil 0) = true := by kernel_rfl
theorem vops_1_3_true : tells (.bool true) (xrun xtabS 300 43 (xf11.c.subs (vops_q 1 3 true)) xf11.rs .nil 0) = true := by kernel_rfl
theorem vops_1_3_false : tells (.bool true) (xrun xtabS 300 43 (xf11.c.subs (vops_q 1 3 false)) xf11.rs .nil 0) = true := by kernel_rfl
theorem vops_2_0_true : tells (.bool true) (xrun xtabS 300 43 (xf11.c.subs (vops_q 2 0 true)) xf11.rs .nil 0) = true := by kernel_rfl
theorem vops_2_0_false : tells (.bool true) (xrun xtabS 300 43 (xf11.c.subs (vops_q 2 0 false)) xf11.rs .nil 0) = true := by kernel_rfl
theorem vops_2_1_true : tells (.bool true) (xrun xtabS 300 43 (xf11.c.subs (vops_q 2 1 true)) xf11.rs .nil 0) = true := by kernel_rfl
theorem vops_2_1_false : tells (.bool true) (xrun xtabS 300 43 (xf11.c.subs (vops_q 2 1 false)) xf11.rs .nil 0) = true := by kernel_rfl
theorem vops_2_2_true : tells (.bool true) (xrun xtabS 300 43 (xf11.c.subs (vops_q 2 2 true)) xf11.rs .nil 0) = true := by kernel_rfl
theorem vops_2_2_false : tells (.bool true) (xrun xtabS 300 43 (xf11.c.subs (vops_q 2 2 false)) xf11.rs .nil 0) = true := by kernel_rfl
theorem vops_2_3_true : tells (.bool true) (xrun xtabS 300 43 (xf11.c.subs (vops_q 2 3 true)) xf11.rs .nil 0) = true := by kernel_rfl
theorem vops_2_3_false : tells (.bool true) (xrun xtabS 300 43 (xf11.c.subs (vops_q 2 3 false)) xf11.rs .nil 0) = true := by kernel_rfl
end Go.Proofs.YtfdeipckfdogfaaGreat
