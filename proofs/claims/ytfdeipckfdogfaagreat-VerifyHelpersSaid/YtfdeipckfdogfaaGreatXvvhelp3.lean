/- tipstaff/tipstafflaw18.VerifyHelpers: runs, part 3 (mkx.py). -/
import Derived.Test.YtfdeipckfdogfaaGreatXvvhelpQ
set_option maxRecDepth 100000
set_option linter.unusedVariables false
namespace Go.Proofs.YtfdeipckfdogfaaGreat
open Go.Eng
theorem vhelp_3_0_true : tells (.bool true) (xrun xtabS 300 32 (xf8.c.subs (vhelp_q 3 0 true)) xf8.rs .nil 0) = true := by kernel_rfl
theorem vhelp_3_0_false : tells (.bool true) (xrun xtabS 300 32 (xf8.c.subs (vhelp_q 3 0 false)) xf8.rs .nil 0) = true := by kernel_rfl
theorem vhelp_3_1_true : tells (.bool true) (xrun xtabS 300 32 (xf8.c.subs (vhelp_q 3 1 true)) xf8.rs .nil 0) = true := by kernel_rfl
theorem vhelp_3_1_false : tells (.bool true) (xrun xtabS 300 32 (xf8.c.subs (vhelp_q 3 1 false)) xf8.rs .nil 0) = true := by kernel_rfl
theorem vhelp_3_2_true : tells (.bool true) (xrun xtabS 300 32 (xf8.c.subs (vhelp_q 3 2 true)) xf8.rs .nil 0) = true := by kernel_rfl
theorem vhelp_3_2_false : tells (.bool true) (xrun xtabS 300 32 (xf8.c.subs (vhelp_q 3 2 false)) xf8.rs .nil 0) = true := by kernel_rfl
theorem vhelp_3_3_true : tells (.bool true) (xrun xtabS 300 32 (xf8.c.subs (vhelp_q 3 3 true)) xf8.rs .nil 0) = true := by kernel_rfl
theorem vhelp_3_3_false : tells (.bool true) (xrun xtabS 300 32 (xf8.c.subs (vhelp_q 3 3 false)) xf8.rs .nil 0) = true := by kernel_rfl
theorem vhelp_3_4_true : tells (.bool true) (xrun xtabS 300 32 (xf8.c.subs (vhelp_q 3 4 true)) xf8.rs .nil 0) = true := by kernel_rfl
theorem vhelp_3_4_false : tells (.bool true) (xrun xtabS 300 32 (xf8.c.subs (vhelp_q 3 4 false)) xf8.rs .nil 0) = true := by kernel_rfl
theorem vhelp_3_5_true : tells (.bool true) (xrun xtabS 300 32 (xf8.c.subs (vhelp_q 3 5 true)) xf8.rs .nil 0) = true := by kernel_rfl
theorem vhelp_3_5_false : tells (.bool true) (xrun xtabS 300 32 (xf8.c.subs (vhelp_q 3 5 false)) xf8.rs .nil 0) = true := by kernel_rfl
end Go.Proofs.YtfdeipckfdogfaaGreat
