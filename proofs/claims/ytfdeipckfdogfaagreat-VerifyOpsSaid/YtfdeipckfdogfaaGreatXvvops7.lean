/- tipstaff/tipstafflaw18.VerifyOps: runs, part 7 (mkx.py). -/
import Derived.Test.YtfdeipckfdogfaaGreatXvvopsQ
set_option maxRecDepth 100000
set_option linter.unusedVariables false
namespace Go.Proofs.YtfdeipckfdogfaaGreat
open Go.Eng
theorem vops_10_2_true : tells (.bool true) (xrun xtabS 300 43 (xf11.c.subs (vops_q 10 2 true)) xf11.rs .nil 0) = true := by kernel_rfl
theorem vops_10_2_false : tells (.bool true) (xrun xtabS 300 43 (xf11.c.subs (vops_q 10 2 false)) xf11.rs .nil 0) = true := by kernel_rfl
theorem vops_10_3_true : tells (.bool true) (xrun xtabS 300 43 (xf11.c.subs (vops_q 10 3 true)) xf11.rs .nil 0) = true := by kernel_rfl
theorem vops_10_3_false : tells (.bool true) (xrun xtabS 300 43 (xf11.c.subs (vops_q 10 3 false)) xf11.rs .nil 0) = true := by kernel_rfl
theorem vops_11_0_true : tells (.bool true) (xrun xtabS 300 43 (xf11.c.subs (vops_q 11 0 true)) xf11.rs .nil 0) = true := by kernel_rfl
theorem vops_11_0_false : tells (.bool true) (xrun xtabS 300 43 (xf11.c.subs (vops_q 11 0 false)) xf11.rs .nil 0) = true := by kernel_rfl
theorem vops_11_1_true : tells (.bool true) (xrun xtabS 300 43 (xf11.c.subs (vops_q 11 1 true)) xf11.rs .nil 0) = true := by kernel_rfl
theorem vops_11_1_false : tells (.bool true) (xrun xtabS 300 43 (xf11.c.subs (vops_q 11 1 false)) xf11.rs .nil 0) = true := by kernel_rfl
theorem vops_11_2_true : tells (.bool true) (xrun xtabS 300 43 (xf11.c.subs (vops_q 11 2 true)) xf11.rs .nil 0) = true := by kernel_rfl
theorem vops_11_2_false : tells (.bool true) (xrun xtabS 300 43 (xf11.c.subs (vops_q 11 2 false)) xf11.rs .nil 0) = true := by kernel_rfl
theorem vops_11_3_true : tells (.bool true) (xrun xtabS 300 43 (xf11.c.subs (vops_q 11 3 true)) xf11.rs .nil 0) = true := by kernel_rfl
theorem vops_11_3_false : tells (.bool true) (xrun xtabS 300 43 (xf11.c.subs (vops_q 11 3 false)) xf11.rs .nil 0) = true := by kernel_rfl
end Go.Proofs.YtfdeipckfdogfaaGreat
