/- tipstaff/tipstafflaw18.VerifyNull: runs, part 2 (mkx.py). -/
import Derived.Test.YtfdeipckfdogfaaGreatXvvnullQ
set_option maxRecDepth 100000
set_option linter.unusedVariables false
namespace Go.Proofs.YtfdeipckfdogfaaGreat
open Go.Eng
theorem vnull_2_true_true : tells (.bool true) (xrun xtabS 300 29 (xf6.c.subs (vnull_q 2 true true)) xf6.rs .nil 0) = true := by kernel_rfl
theorem vnull_2_true_false : tells (.bool true) (xrun xtabS 300 29 (xf6.c.subs (vnull_q 2 true false)) xf6.rs .nil 0) = true := by kernel_rfl
theorem vnull_2_false_true : tells (.bool true) (xrun xtabS 300 29 (xf6.c.subs (vnull_q 2 false true)) xf6.rs .nil 0) = true := by kernel_rfl
theorem vnull_2_false_false : tells (.bool true) (xrun xtabS 300 29 (xf6.c.subs (vnull_q 2 false false)) xf6.rs .nil 0) = true := by kernel_rfl
end Go.Proofs.YtfdeipckfdogfaaGreat
