/- LoaderHeld: runs with a symbol. -/
import Derived.Test.YtmpgfgemnhbkhaaGreatDoorXlhc
set_option maxRecDepth 100000
set_option linter.unusedVariables false
namespace Go.Proofs.YtmpgfgemnhbkhaaGreatDoor
open Go Go.Eng
theorem lh_run0 (p : Nat → Int) (h : lh_h0.H p) : tells (.bool true) (@xcall (lh_h0.sy p h) xtabS 300 xf5 [.chan (some 0)] hG 3 1) = true := by kernel_rfl
theorem lh_run1 (p : Nat → Int) (h : lh_h1.H p) : tells (.bool true) (@xcall (lh_h1.sy p h) xtabS 300 xf5 [.chan (some 0)] hG 3 1) = true := by kernel_rfl
theorem lh_run2 (p : Nat → Int) (h : lh_h2.H p) : tells (.bool true) (@xcall (lh_h2.sy p h) xtabS 300 xf5 [.chan (some 0)] hG 3 1) = true := by kernel_rfl
end Go.Proofs.YtmpgfgemnhbkhaaGreatDoor
