/- tipstaff/tipstafflaw18.VerifyOps: runs, part 5 (mkx.py). -/
import Derived.Test.YtfdeipckfdogfaaGreatXvvopsQ
set_option maxRecDepth 100000
set_option linter.unusedVariables false
namespace Go.Proofs.YtfdeipckfdogfaaGreat
open Go.Eng
theorem vops_7_2_true : tells (.bool true) (xrun xtabS 300 43 (xf11.c.subs (vops_q 7 2 true)) xf11.rs .nil 0) = true := by kernel_rfl
theorem vops_7_2_false : tells (.bool true) (xrun xtabS 300 43 (xf11.c.subs (vops_q 7 2 false)) xf11.rs .nil 0) = true := by kernel_rfl
theorem vops_7_3_true : tells (.bool true) (xrun xtabS 300 43 (xf11.c.subs (vops_q 7 3 true)) xf11.rs .nil 0) = true := by kernel_rfl
theorem vops_7_3_false : tells (.bool true) (xrun xtabS 300 43 (xf11.c.subs (vops_q 7 3 false)) xf11.rs .nil 0) = true := by kernel_rfl
theorem vops_8_0_true : tells (.bool true) (xrun xtabS 300 43 (xf11.c.subs (vops_q 8 0 true)) xf11.rs .nil 0) = true := by kernel_rfl
theorem vops_8_0_false : tells (.bool true) (xrun xtabS 300 43 (xf11.c.subs (vops_q 8 0 false)) xf11.rs .nil 0) = true := by kernel_rfl
theorem vops_8_1_true : tells (.bool true) (xrun xtabS 300 43 (xf11.c.subs (vops_q 8 1 true)) xf11.rs .nil 0) = true := by kernel_rfl
theorem vops_8_1_false : tells (.bool true) (xrun xtabS 300 43 (xf11.c.subs (vops_q 8 1 false)) xf11.rs .nil 0) = true := by kernel_rfl
theorem vops_8_2_true : tells (.bool true) (xrun xtabS 300 43 (xf11.c.subs (vops_q 8 2 true)) xf11.rs .nil 0) = true := by kernel_rfl
theorem vops_8_2_false : tells (.bool true) (xrun xtabS 300 43 (xf11.c.subs (vops_q 8 2 false)) xf11.rs .nil 0) = true := by kernel_rfl
theorem vops_8_3_true : tells (.bool true) (xrun xtabS 300 43 (xf11.c.subs (vops_q 8 3 true)) xf11.rs .nil 0) = true := by kernel_rfl
theorem vops_8_3_false : tells (.bool true) (xrun xtabS 300 43 (xf11.c.subs (vops_q 8 3 false)) xf11.rs .nil 0) = true := by kernel_rfl
end Go.Proofs.YtfdeipckfdogfaaGreat
