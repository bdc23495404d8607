/- Runs with symbols, part 0 (mkrun.py). -/
import Derived.Test.YtmpgfgemnhbkhaaGreatDoorXgfuc
set_option maxRecDepth 100000
set_option linter.unusedVariables false
namespace Go.Proofs.YtmpgfgemnhbkhaaGreatDoor
open Go Go.Eng
theorem gfu_run_c_0 (p : Nat → Int) (h : gfu_c_0.H p) : tells (.bool true) (@xcall (gfu_c_0.sy p h) xtabS 300 xf8 [.chan (some 0)] hG 3 1) = true := by kernel_rfl
theorem gfu_run_c_1 (p : Nat → Int) (h : gfu_c_1.H p) : tells (.bool true) (@xcall (gfu_c_1.sy p h) xtabS 300 xf8 [.chan (some 0)] hG 3 1) = true := by kernel_rfl
end Go.Proofs.YtmpgfgemnhbkhaaGreatDoor
