/- tipstaff/tipstafflaw18.VerifyRegs: runs, part 1 (mkx.py). -/
import Derived.Test.YtfdeipckfdogfaaGreatXvvregsQ
set_option maxRecDepth 100000
set_option linter.unusedVariables false
namespace Go.Proofs.YtfdeipckfdogfaaGreat
open Go.Eng
theorem vregs_4_true : tells (.bool true) (xrun xtabS 300 19 (xf7.c.subs (vregs_q 4 true)) xf7.rs .nil 0) = true := by kernel_rfl
theorem vregs_4_false : tells (.bool true) (xrun xtabS 300 19 (xf7.c.subs (vregs_q 4 false)) xf7.rs .nil 0) = true := by kernel_rfl
theorem vregs_5_true : tells (.bool true) (xrun xtabS 300 19 (xf7.c.subs (vregs_q 5 true)) xf7.rs .nil 0) = true := by kernel_rfl
theorem vregs_5_false : tells (.bool true) (xrun xtabS 300 19 (xf7.c.subs (vregs_q 5 false)) xf7.rs .nil 0) = true := by kernel_rfl
theorem vregs_6_true : tells (.bool true) (xrun xtabS 300 19 (xf7.c.subs (vregs_q 6 true)) xf7.rs .nil 0) = true := by kernel_rfl
theorem vregs_6_false : tells (.bool true) (xrun xtabS 300 19 (xf7.c.subs (vregs_q 6 false)) xf7.rs .nil 0) = true := by kernel_rfl
theorem vregs_7_true : tells (.bool true) (xrun xtabS 300 19 (xf7.c.subs (vregs_q 7 true)) xf7.rs .nil 0) = true := by kernel_rfl
theorem vregs_7_false : tells (.bool true) (xrun xtabS 300 19 (xf7.c.subs (vregs_q 7 false)) xf7.rs .nil 0) = true := by kernel_rfl
end Go.Proofs.YtfdeipckfdogfaaGreat
