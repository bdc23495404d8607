/- Runs with symbols, part 2 (mkrun.py). -/
import Derived.Test.YtmpgfgemnhbkhaaGreatDoorXgfrc
set_option maxRecDepth 100000
set_option linter.unusedVariables false
namespace Go.Proofs.YtmpgfgemnhbkhaaGreatDoor
open Go Go.Eng
theorem gfr_run_c_2_false (p : Nat → Int) (h : gfr_c_2.H p) : tells (.bool true) (@xcall (gfr_c_2.sy p h) xtabS 300 xf9 [.bool false, .chan (some 0)] hG 3 1) = true := by kernel_rfl
theorem gfr_run_c_2_true (p : Nat → Int) (h : gfr_c_2.H p) : tells (.bool true) (@xcall (gfr_c_2.sy p h) xtabS 300 xf9 [.bool true, .chan (some 0)] hG 3 1) = true := by kernel_rfl
end Go.Proofs.YtmpgfgemnhbkhaaGreatDoor
