/- Runs with symbols, part 3 (mkrun.py). -/
import Derived.Test.YtmpgfgemnhbkhaaGreatDoorXgric
set_option maxRecDepth 100000
set_option linter.unusedVariables false
namespace Go.Proofs.YtmpgfgemnhbkhaaGreatDoor
open Go Go.Eng
theorem gri_run_c_1_2_false (p : Nat → Int) (h : gri_c_1_2.H p) : tells (.bool true) (@xcall (gri_c_1_2.sy p h) xtabS 300 xf10 [.chan (some 0), .chan (some 1), .bool false] hG 3 1) = true := by kernel_rfl
theorem gri_run_c_1_2_true (p : Nat → Int) (h : gri_c_1_2.H p) : tells (.bool true) (@xcall (gri_c_1_2.sy p h) xtabS 300 xf10 [.chan (some 0), .chan (some 1), .bool true] hG 3 1) = true := by kernel_rfl
theorem gri_run_c_1_3_false (p : Nat → Int) (h : gri_c_1_3.H p) : tells (.bool true) (@xcall (gri_c_1_3.sy p h) xtabS 300 xf10 [.chan (some 0), .chan (some 1), .bool false] hG 3 1) = true := by kernel_rfl
theorem gri_run_c_1_3_true (p : Nat → Int) (h : gri_c_1_3.H p) : tells (.bool true) (@xcall (gri_c_1_3.sy p h) xtabS 300 xf10 [.chan (some 0), .chan (some 1), .bool true] hG 3 1) = true := by kernel_rfl
end Go.Proofs.YtmpgfgemnhbkhaaGreatDoor
