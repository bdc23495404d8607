/- tipstaff/tipstafflaw18.VerifyHelpers: runs, part 4 (mkx.py). -/
import Derived.Test.YtfdeipckfdogfaaGreatXvvhelpQ
set_option maxRecDepth 100000
set_option linter.unusedVariables false
namespace Go.Proofs.YtfdeipckfdogfaaGreat
open Go.Eng
theorem vhelp_4_0_true : tells (.bool true) (xrun xtabS 300 32 (xf8.c.subs (vhelp_q 4 0 true)) xf8.rs .nil 0) = true := by kernel_rfl
theorem vhelp_4_0_false : tells (.bool true) (xrun xtabS 300 32 (xf8.c.subs (vhelp_q 4 0 false)) xf8.rs .nil 0) = true := by kernel_rfl
theorem vhelp_4_1_true : tells (.bool true) (xrun xtabS 300 32 (xf8.c.subs (vhelp_q 4 1 true)) xf8.rs .nil 0) = true := by kernel_rfl
theorem vhelp_4_1_false : tells (.bool true) (xrun xtabS 300 32 (xf8.c.subs (vhelp_q 4 1 false)) xf8.rs .nil 0) = true := by kernel_rfl
theorem vhelp_4_2_true : tells (.bool true) (xrun xtabS 300 32 (xf8.c.subs (vhelp_q 4 2 true)) xf8.rs .nil 0) = true := by kernel_rfl
theorem vhelp_4_2_false : tells (.bool true) (xrun xtabS 300 32 (xf8.c.subs (vhelp_q 4 2 false)) xf8.rs .nil 0) = true := by kernel_rfl
theorem vhelp_4_3_true : tells (.bool true) (xrun xtabS 300 32 (xf8.c.subs (vhelp_q 4 3 true)) xf8.rs .nil 0) = true := by kernel_rfl
theorem vhelp_4_3_false : tells (.bool true) (xrun xtabS 300 32 (xf8.c.subs (vhelp_q 4 3 false)) xf8.rs .nil 0) = true := by kernel_rfl
theorem vhelp_4_4_true : tells (.bool true) (xrun xtabS 300 32 (xf8.c.subs (vhelp_q 4 4 true)) xf8.rs .nil 0) = true := by kernel_rfl
theorem vhelp_4_4_false : tells (.bool true) (xrun xtabS 300 32 (xf8.c.subs (vhelp_q 4 4 false)) xf8.rs .nil 0) = true := by kernel_rfl
theorem vhelp_4_5_true : tells (.bool true) (xrun xtabS 300 32 (xf8.c.subs (vhelp_q 4 5 true)) xf8.rs .nil 0) = true := by kernel_rfl
theorem vhelp_4_5_false : tells (.bool true) (xrun xtabS 300 32 (xf8.c.subs (vhelp_q 4 5 false)) xf8.rs .nil 0) = true := by kernel_rfl
end Go.Proofs.YtfdeipckfdogfaaGreat
