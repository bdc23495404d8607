/- TipstaffQueues: runs, part 2 (mktqu.py). -/
import Derived.Test.YtmpgfgemnhbkhaaGreatDoorTquc
import Derived.Test.YtmpgfgemnhbkhaaGreatDoorEngXN
import Derived.Test.YtmpgfgemnhbkhaaGreatDoorXtttab
set_option maxRecDepth 100000
set_option linter.unusedVariables false
namespace Go.Proofs.YtmpgfgemnhbkhaaGreatDoor
open Go Go.Eng
theorem tqu_run_7_false (x : Nat → Int) (hx : ∀ i, tqu.R (x i)) (L : Int) (hL : 8 ≤ L) (D : List RowD) (hf : Fits (thP tqu.θb (tqu.θe L) x 320) [(tqu.Rw 7)] D) : tells (.bool true) (@xcall (tqu.sy x hx L hL (tqu.Rw 7) D hf) xtabS 400 xf3 [.chan (some 1000), .bool false] hG 2 1) = true := by kernel_rfl
theorem tqu_run_6_false (x : Nat → Int) (hx : ∀ i, tqu.R (x i)) (L : Int) (hL : 8 ≤ L) (D : List RowD) (hf : Fits (thP tqu.θb (tqu.θe L) x 320) [(tqu.Rw 6)] D) : tells (.bool true) (@xcall (tqu.sy x hx L hL (tqu.Rw 6) D hf) xtabS 400 xf3 [.chan (some 1000), .bool false] hG 2 1) = true := by kernel_rfl
theorem tqu_run_3_false (x : Nat → Int) (hx : ∀ i, tqu.R (x i)) (L : Int) (hL : 8 ≤ L) (D : List RowD) (hf : Fits (thP tqu.θb (tqu.θe L) x 320) [(tqu.Rw 3)] D) : tells (.bool true) (@xcall (tqu.sy x hx L hL (tqu.Rw 3) D hf) xtabS 400 xf3 [.chan (some 1000), .bool false] hG 2 1) = true := by kernel_rfl
theorem tqu_run_2_false (x : Nat → Int) (hx : ∀ i, tqu.R (x i)) (L : Int) (hL : 8 ≤ L) (D : List RowD) (hf : Fits (thP tqu.θb (tqu.θe L) x 320) [(tqu.Rw 2)] D) : tells (.bool true) (@xcall (tqu.sy x hx L hL (tqu.Rw 2) D hf) xtabS 400 xf3 [.chan (some 1000), .bool false] hG 2 1) = true := by kernel_rfl
end Go.Proofs.YtmpgfgemnhbkhaaGreatDoor
