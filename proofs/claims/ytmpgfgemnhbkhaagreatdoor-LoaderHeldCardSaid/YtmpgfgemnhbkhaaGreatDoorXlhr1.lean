/- LoaderHeld: runs with a symbol. -/
import Derived.Test.YtmpgfgemnhbkhaaGreatDoorXlhc
set_option maxRecDepth 100000
set_option linter.unusedVariables false
namespace Go.Proofs.YtmpgfgemnhbkhaaGreatDoor
open Go Go.Eng
theorem lh_run3 (p : Nat → Int) (h : lh_h3.H p) : tells (.bool true) (@xcall (lh_h3.sy p h) xtabS 300 xf5 [.chan (some 0)] hG 3 1) = true := by kernel_rfl
theorem lh_run4 (p : Nat → Int) (h : lh_h4.H p) : tells (.bool true) (@xcall (lh_h4.sy p h) xtabS 300 xf5 [.chan (some 0)] hG 3 1) = true := by kernel_rfl
end Go.Proofs.YtmpgfgemnhbkhaaGreatDoor
