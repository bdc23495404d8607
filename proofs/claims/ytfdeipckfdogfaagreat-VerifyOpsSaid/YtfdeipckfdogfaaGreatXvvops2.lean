/- tipstaff/tipstafflaw18.VerifyOps: runs, part 2 (mkx.py). -/
import Derived.Test.YtfdeipckfdogfaaGreatXvvopsQ
set_option maxRecDepth 100000
set_option linter.unusedVariables false
namespace Go.Proofs.YtfdeipckfdogfaaGreat
open Go.Eng
theorem vops_3_0_true : tells (.bool true) (xrun xtabS 300 43 (xf11.c.subs (vops_q 3 0 true)) xf11.rs .nil 0) = true := by kernel_rfl
theorem vops_3_0_false : tells (.bool true) (xrun xtabS 300 43 (xf11.c.subs (vops_q 3 0 false)) xf11.rs .nil 0) = true := by kernel_rfl
theorem vops_3_1_true : tells (.bool true) (xrun xtabS 300 43 (xf11.c.subs (vops_q 3 1 true)) xf11.rs .nil 0) = true := by kernel_rfl
theorem vops_3_1_false : tells (.bool true) (xrun xtabS 300 43 (xf11.c.subs (vops_q 3 1 false)) xf11.rs .nil 0) = true := by kernel_rfl
theorem vops_3_2_true : tells (.bool true) (xrun xtabS 300 43 (xf11.c.subs (vops_q 3 2 true)) xf11.rs .nil 0) = true := by kernel_rfl
theorem vops_3_2_false : tells (.bool true) (xrun xtabS 300 43 (xf11.c.subs (vops_q 3 2 false)) xf11.rs .nil 0) = true := by kernel_rfl
theorem vops_3_3_true : tells (.bool true) (xrun xtabS 300 43 (xf11.c.subs (vops_q 3 3 true)) xf11.rs .nil 0) = true := by kernel_rfl
theorem vops_3_3_false : tells (.bool true) (xrun xtabS 300 43 (xf11.c.subs (vops_q 3 3 false)) xf11.rs .nil 0) = true := by kernel_rfl
theorem vops_4_0_true : tells (.bool true) (xrun xtabS 300 43 (xf11.c.subs (vops_q 4 0 true)) xf11.rs .nil 0) = true := by kernel_rfl
theorem vops_4_0_false : tells (.bool true) (xrun xtabS 300 43 (xf11.c.subs (vops_q 4 0 false)) xf11.rs .nil 0) = true := by kernel_rfl
theorem vops_4_1_true : tells (.bool true) (xrun xtabS 300 43 (xf11.c.subs (vops_q 4 1 true)) xf11.rs .nil 0) = true := by kernel_rfl
theorem vops_4_1_false : tells (.bool true) (xrun xtabS 300 43 (xf11.c.subs (vops_q 4 1 false)) xf11.rs .nil 0) = true := by kernel_rfl
end Go.Proofs.YtfdeipckfdogfaaGreat
