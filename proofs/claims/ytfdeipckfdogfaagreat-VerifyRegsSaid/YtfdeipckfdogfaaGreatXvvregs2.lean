/- tipstaff/tipstafflaw18.VerifyRegs: runs, part 2 (mkx.py). -/
import Derived.Test.YtfdeipckfdogfaaGreatXvvregsQ
set_option maxRecDepth 100000
set_option linter.unusedVariables false
namespace Go.Proofs.YtfdeipckfdogfaaGreat
open Go.Eng
theorem vregs_8_true : tells (.bool true) (xrun xtabS 300 19 (xf7.c.subs (vregs_q 8 true)) xf7.rs .nil 0) = true := by kernel_rfl
theorem vregs_8_false : tells (.bool true) (xrun xtabS 300 19 (xf7.c.subs (vregs_q 8 false)) xf7.rs .nil 0) = true := by kernel_rfl
theorem vregs_9_true : tells (.bool true) (xrun xtabS 300 19 (xf7.c.subs (vregs_q 9 true)) xf7.rs .nil 0) = true := by kernel_rfl
theorem vregs_9_false : tells (.bool true) (xrun xtabS 300 19 (xf7.c.subs (vregs_q 9 false)) xf7.rs .nil 0) = true := by kernel_rfl
theorem vregs_10_true : tells (.bool true) (xrun xtabS 300 19 (xf7.c.subs (vregs_q 10 true)) xf7.rs .nil 0) = true := by kernel_rfl
theorem vregs_10_false : tells (.bool true) (xrun xtabS 300 19 (xf7.c.subs (vregs_q 10 false)) xf7.rs .nil 0) = true := by kernel_rfl
end Go.Proofs.YtfdeipckfdogfaaGreat
