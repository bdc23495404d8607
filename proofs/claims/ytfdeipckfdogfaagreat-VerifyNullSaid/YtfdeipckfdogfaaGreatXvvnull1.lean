/- tipstaff/tipstafflaw18.VerifyNull: runs, part 1 (mkx.py). -/
import Derived.Test.YtfdeipckfdogfaaGreatXvvnullQ
set_option maxRecDepth 100000
set_option linter.unusedVariables false
namespace Go.Proofs.YtfdeipckfdogfaaGreat
open Go.Eng
theorem vnull_1_true_true : tells (.bool true) (xrun xtabS 300 29 (xf6.c.subs (vnull_q 1 true true)) xf6.rs .nil 0) = true := by kernel_rfl
theorem vnull_1_true_false : tells (.bool true) (xrun xtabS 300 29 (xf6.c.subs (vnull_q 1 true false)) xf6.rs .nil 0) = true := by kernel_rfl
theorem vnull_1_false_true : tells (.bool true) (xrun xtabS 300 29 (xf6.c.subs (vnull_q 1 false true)) xf6.rs .nil 0) = true := by kernel_rfl
theorem vnull_1_false_false : tells (.bool true) (xrun xtabS 300 29 (xf6.c.subs (vnull_q 1 false false)) xf6.rs .nil 0) = true := by kernel_rfl
end Go.Proofs.YtfdeipckfdogfaaGreat
