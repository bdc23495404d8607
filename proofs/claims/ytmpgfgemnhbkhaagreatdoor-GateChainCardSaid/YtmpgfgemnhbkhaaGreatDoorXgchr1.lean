/- Runs with symbols, part 1 (mkrun.py). -/
import Derived.Test.YtmpgfgemnhbkhaaGreatDoorXgchc
set_option maxRecDepth 100000
set_option linter.unusedVariables false
namespace Go.Proofs.YtmpgfgemnhbkhaaGreatDoor
open Go Go.Eng
theorem gch_run_c_1_true (p : Nat → Int) (h : gch_c_1.H p) : tells (.bool true) (@xcall (gch_c_1.sy p h) xtabS 300 xf6 [.chan (some 0), .bool true] hG 3 1) = true := by kernel_rfl
theorem gch_run_c_2_false (p : Nat → Int) (h : gch_c_2.H p) : tells (.bool true) (@xcall (gch_c_2.sy p h) xtabS 300 xf6 [.chan (some 0), .bool false] hG 3 1) = true := by kernel_rfl
theorem gch_run_c_2_true (p : Nat → Int) (h : gch_c_2.H p) : tells (.bool true) (@xcall (gch_c_2.sy p h) xtabS 300 xf6 [.chan (some 0), .bool true] hG 3 1) = true := by kernel_rfl
end Go.Proofs.YtmpgfgemnhbkhaaGreatDoor
