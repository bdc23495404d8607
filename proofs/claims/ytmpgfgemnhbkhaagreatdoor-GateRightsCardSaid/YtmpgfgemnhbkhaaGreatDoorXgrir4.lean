/- Runs with symbols, part 4 (mkrun.py). -/
import Derived.Test.YtmpgfgemnhbkhaaGreatDoorXgric
set_option maxRecDepth 100000
set_option linter.unusedVariables false
namespace Go.Proofs.YtmpgfgemnhbkhaaGreatDoor
open Go Go.Eng
theorem gri_run_c_2_0_false (p : Nat → Int) (h : gri_c_2_0.H p) : tells (.bool true) (@xcall (gri_c_2_0.sy p h) xtabS 300 xf10 [.chan (some 0), .chan (some 1), .bool false] hG 3 1) = true := by kernel_rfl
theorem gri_run_c_2_0_true (p : Nat → Int) (h : gri_c_2_0.H p) : tells (.bool true) (@xcall (gri_c_2_0.sy p h) xtabS 300 xf10 [.chan (some 0), .chan (some 1), .bool true] hG 3 1) = true := by kernel_rfl
theorem gri_run_c_2_1_false (p : Nat → Int) (h : gri_c_2_1.H p) : tells (.bool true) (@xcall (gri_c_2_1.sy p h) xtabS 300 xf10 [.chan (some 0), .chan (some 1), .bool false] hG 3 1) = true := by kernel_rfl
theorem gri_run_c_2_1_true (p : Nat → Int) (h : gri_c_2_1.H p) : tells (.bool true) (@xcall (gri_c_2_1.sy p h) xtabS 300 xf10 [.chan (some 0), .chan (some 1), .bool true] hG 3 1) = true := by kernel_rfl
end Go.Proofs.YtmpgfgemnhbkhaaGreatDoor
