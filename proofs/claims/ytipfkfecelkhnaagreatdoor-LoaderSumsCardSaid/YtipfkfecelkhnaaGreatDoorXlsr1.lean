/- LoaderSums: a run with symbols (mklsu.py). -/
import Derived.Test.YtipfkfecelkhnaaGreatDoorXlsc
set_option maxRecDepth 100000
set_option linter.unusedVariables false
namespace Go.Proofs.YtipfkfecelkhnaaGreatDoor
open Go Go.Eng
theorem lsu_run_1 (p : Nat → Int) (x0 x1 L : Int) (hL : 4 ≤ L) (D : List RowD) (hf : Fits (thTab lsT1 p (lsu.θe x0 x1 L)) [(lsu.R 1)] D) : tells (.bool true) (@xcall (lsu.sy lsT1 p x0 x1 L hL (lsu.R 1) D hf) xtabS 400 xf4 [.chan (some 0), .chan (some 1), .chan (some 1000)] hG 3 1) = true := by kernel_rfl
end Go.Proofs.YtipfkfecelkhnaaGreatDoor
