/- Runs with symbols, part 0 (mkheld.py). -/
import Derived.Test.YtmpgfgemnhbkhaaGreatDoorXghec
set_option maxRecDepth 100000
set_option linter.unusedVariables false
namespace Go.Proofs.YtmpgfgemnhbkhaaGreatDoor
open Go Go.Eng
theorem ghe_run_e (D : List RowD) (hf : Fits ghe_e.θ [ghe_e.R] D) : tells (.bool true) (@xcall (ghe_e.syR D hf) xtabS 300 xf7 [.chan (some 1000)] hG 3 1) = true := by kernel_rfl
theorem ghe_run_o_0 (p : Nat → Int) (h : ghe_o_0.H p) (D : List RowD) (hf : Fits (ghe_o_0.θ p) [ghe_o_0.R] D) : tells (.bool true) (@xcall (ghe_o_0.syR p h D hf) xtabS 300 xf7 [.chan (some 1000)] hG 3 1) = true := by kernel_rfl
theorem ghe_run_o_1 (p : Nat → Int) (h : ghe_o_1.H p) (D : List RowD) (hf : Fits (ghe_o_1.θ p) [ghe_o_1.R] D) : tells (.bool true) (@xcall (ghe_o_1.syR p h D hf) xtabS 300 xf7 [.chan (some 1000)] hG 3 1) = true := by kernel_rfl
theorem ghe_run_o_2 (p : Nat → Int) (h : ghe_o_2.H p) (D : List RowD) (hf : Fits (ghe_o_2.θ p) [ghe_o_2.R] D) : tells (.bool true) (@xcall (ghe_o_2.syR p h D hf) xtabS 300 xf7 [.chan (some 1000)] hG 3 1) = true := by kernel_rfl
end Go.Proofs.YtmpgfgemnhbkhaaGreatDoor
