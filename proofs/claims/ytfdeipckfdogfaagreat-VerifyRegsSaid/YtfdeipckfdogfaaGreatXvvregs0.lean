/- tipstaff/tipstafflaw18.VerifyRegs: runs, part 0 (mkx.py). -/
import Derived.Test.YtfdeipckfdogfaaGreatXvvregsQ
set_option maxRecDepth 100000
set_option linter.unusedVariables false
namespace Go.Proofs.YtfdeipckfdogfaaGreat
open Go.Eng
theorem vregs_0_true : tells (.bool true) (xrun xtabS 300 19 (xf7.c.subs (vregs_q 0 true)) xf7.rs .nil 0) = true := by kernel_rfl
theorem vregs_0_false : tells (.bool true) (xrun xtabS 300 19 (xf7.c.subs (vregs_q 0 false)) xf7.rs .nil 0) = true := by kernel_rfl
theorem vregs_1_true : tells (.bool true) (xrun xtabS 300 19 (xf7.c.subs (vregs_q 1 true)) xf7.rs .nil 0) = true := by kernel_rfl
theorem vregs_1_false : tells (.bool true) (xrun xtabS 300 19 (xf7.c.subs (vregs_q 1 false)) xf7.rs .nil 0) = true := by kernel_rfl
theorem vregs_2_true : tells (.bool true) (xrun xtabS 300 19 (xf7.c.subs (vregs_q 2 true)) xf7.rs .nil 0) = true := by kernel_rfl
theorem vregs_2_false : tells (.bool true) (xrun xtabS 300 19 (xf7.c.subs (vregs_q 2 false)) xf7.rs .nil 0) = true := by kernel_rfl
theorem vregs_3_true : tells (.bool true) (xrun xtabS 300 19 (xf7.c.subs (vregs_q 3 true)) xf7.rs .nil 0) = true := by kernel_rfl
theorem vregs_3_false : tells (.bool true) (xrun xtabS 300 19 (xf7.c.subs (vregs_q 3 false)) xf7.rs .nil 0) = true := by kernel_rfl
end Go.Proofs.YtfdeipckfdogfaaGreat
