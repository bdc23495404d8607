/- Runs with symbols, part 3 (mkheld.py). -/
import Derived.Test.YtmpgfgemnhbkhaaGreatDoorXghec
set_option maxRecDepth 100000
set_option linter.unusedVariables false
namespace Go.Proofs.YtmpgfgemnhbkhaaGreatDoor
open Go Go.Eng
theorem ghe_run_m_1_0 (p : Nat → Int) (h : ghe_m_1_0.H p) (D : List RowD) (hf : Fits (ghe_m_1_0.θ p) [ghe_m_1_0.R] D) : tells (.bool true) (@xcall (ghe_m_1_0.syR p h D hf) xtabS 300 xf7 [.chan (some 1000)] hG 3 1) = true := by kernel_rfl
theorem ghe_run_m_1_1 (p : Nat → Int) (h : ghe_m_1_1.H p) (D : List RowD) (hf : Fits (ghe_m_1_1.θ p) [ghe_m_1_1.R] D) : tells (.bool true) (@xcall (ghe_m_1_1.syR p h D hf) xtabS 300 xf7 [.chan (some 1000)] hG 3 1) = true := by kernel_rfl
theorem ghe_run_m_2_0 (p : Nat → Int) (h : ghe_m_2_0.H p) (D : List RowD) (hf : Fits (ghe_m_2_0.θ p) [ghe_m_2_0.R] D) : tells (.bool true) (@xcall (ghe_m_2_0.syR p h D hf) xtabS 300 xf7 [.chan (some 1000)] hG 3 1) = true := by kernel_rfl
theorem ghe_run_m_2_1 (p : Nat → Int) (h : ghe_m_2_1.H p) (D : List RowD) (hf : Fits (ghe_m_2_1.θ p) [ghe_m_2_1.R] D) : tells (.bool true) (@xcall (ghe_m_2_1.syR p h D hf) xtabS 300 xf7 [.chan (some 1000)] hG 3 1) = true := by kernel_rfl
end Go.Proofs.YtmpgfgemnhbkhaaGreatDoor
