/- tipstaff/tipstafflaw18.VerifyOps: runs, part 3 (mkx.py). -/
import Derived.Test.YtfdeipckfdogfaaGreatXvvopsQ
set_option maxRecDepth 100000
set_option linter.unusedVariables false
namespace Go.Proofs.YtfdeipckfdogfaaGreat
open Go.Eng
theorem vops_4_2_true : tells (.bool true) (xrun xtabS 300 43 (xf11.c.subs (vops_q 4 2 true)) xf11.rs .nil 0) = true := by kernel_rfl
theorem vops_4_2_false : tells (.bool true) (xrun xtabS 300 43 (xf11.c.subs (vops_q 4 2 false)) xf11.rs .nil 0) = true := by kernel_rfl
theorem vops_4_3_true : tells (.bool true) (xrun xtabS 300 43 (xf11.c.subs (vops_q 4 3 true)) xf11.rs .nil 0) = true := by kernel_rfl
theorem vops_4_3_false : tells (.bool true) (xrun xtabS 300 43 (xf11.c.subs (vops_q 4 3 false)) xf11.rs .nil 0) = true := by kernel_rfl
theorem vops_5_0_true : tells (.bool true) (xrun xtabS 300 43 (xf11.c.subs (vops_q 5 0 true)) xf11.rs .nil 0) = true := by kernel_rfl
theorem vops_5_0_false : tells (.bool true) (xrun xtabS 300 43 (xf11.c.subs (vops_q 5 0 false)) xf11.rs .nil 0) = true := by kernel_rfl
theorem vops_5_1_true : tells (.bool true) (xrun xtabS 300 43 (xf11.c.subs (vops_q 5 1 true)) xf11.rs .nil 0) = true := by kernel_rfl
theorem vops_5_1_false : tells (.bool true) (xrun xtabS 300 43 (xf11.c.subs (vops_q 5 1 false)) xf11.rs .nil 0) = true := by kernel_rfl
theorem vops_5_2_true : tells (.bool true) (xrun xtabS 300 43 (xf11.c.subs (vops_q 5 2 true)) xf11.rs .nil 0) = true := by kernel_rfl
theorem vops_5_2_false : tells (.bool true) (xrun xtabS 300 43 (xf11.c.subs (vops_q 5 2 false)) xf11.rs .nil 0) = true := by kernel_rfl
theorem vops_5_3_true : tells (.bool true) (xrun xtabS 300 43 (xf11.c.subs (vops_q 5 3 true)) xf11.rs .nil 0) = true := by kernel_rfl
theorem vops_5_3_false : tells (.bool true) (xrun xtabS 300 43 (xf11.c.subs (vops_q 5 3 false)) xf11.rs .nil 0) = true := by kernel_rfl
end Go.Proofs.YtfdeipckfdogfaaGreat
