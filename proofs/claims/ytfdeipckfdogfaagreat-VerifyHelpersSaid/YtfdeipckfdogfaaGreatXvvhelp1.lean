/- tipstaff/tipstafflaw18.VerifyHelpers: runs, part 1 (mkx.py). -/
import Derived.Test.YtfdeipckfdogfaaGreatXvvhelpQ
set_option maxRecDepth 100000
set_option linter.unusedVariables false
namespace Go.Proofs.YtfdeipckfdogfaaGreat
open Go.Eng
theorem vhelp_1_0_true : tells (.bool true) (xrun xtabS 300 32 (xf8.c.subs (vhelp_q 1 0 true)) xf8.rs .nil 0) = true := by kernel_rfl
theorem vhelp_1_0_false : tells (.bool true) (xrun xtabS 300 32 (xf8.c.subs (vhelp_q 1 0 false)) xf8.rs .nil 0) = true := by kernel_rfl
theorem vhelp_1_1_true : tells (.bool true) (xrun xtabS 300 32 (xf8.c.subs (vhelp_q 1 1 true)) xf8.rs .nil 0) = true := by kernel_rfl
theorem vhelp_1_1_false : tells (.bool true) (xrun xtabS 300 32 (xf8.c.subs (vhelp_q 1 1 false)) xf8.rs .nil 0) = true := by kernel_rfl
theorem vhelp_1_2_true : tells (.bool true) (xrun xtabS 300 32 (xf8.c.subs (vhelp_q 1 2 true)) xf8.rs .nil 0) = true := by kernel_rfl
theorem vhelp_1_2_false : tells (.bool true) (xrun xtabS 300 32 (xf8.c.subs (vhelp_q 1 2 false)) xf8.rs .nil 0) = true := by kernel_rfl
theorem vhelp_1_3_true : tells (.bool true) (xrun xtabS 300 32 (xf8.c.subs (vhelp_q 1 3 true)) xf8.rs .nil 0) = true := by kernel_rfl
theorem vhelp_1_3_false : tells (.bool true) (xrun xtabS 300 32 (xf8.c.subs (vhelp_q 1 3 false)) xf8.rs .nil 0) = true := by kernel_rfl
theorem vhelp_1_4_true : tells (.bool true) (xrun xtabS 300 32 (xf8.c.subs (vhelp_q 1 4 true)) xf8.rs .nil 0) = true := by kernel_rfl
theorem vhelp_1_4_false : tells (.bool true) (xrun xtabS 300 32 (xf8.c.subs (vhelp_q 1 4 false)) xf8.rs .nil 0) = true := by kernel_rfl
theorem vhelp_1_5_true : tells (.bool true) (xrun xtabS 300 32 (xf8.c.subs (vhelp_q 1 5 true)) xf8.rs .nil 0) = true := by kernel_rfl
theorem vhelp_1_5_false : tells (.bool true) (xrun xtabS 300 32 (xf8.c.subs (vhelp_q 1 5 false)) xf8.rs .nil 0) = true := by kernel_rfl
end Go.Proofs.YtfdeipckfdogfaaGreat
