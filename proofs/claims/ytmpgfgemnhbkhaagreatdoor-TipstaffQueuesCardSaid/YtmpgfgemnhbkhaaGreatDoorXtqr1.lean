/- TipstaffQueues: runs, part 1 (mktqu.py). -/
import Derived.Test.YtmpgfgemnhbkhaaGreatDoorTquc
import Derived.Test.YtmpgfgemnhbkhaaGreatDoorEngXN
import Derived.Test.YtmpgfgemnhbkhaaGreatDoorXtttab
set_option maxRecDepth 100000
set_option linter.unusedVariables false
namespace Go.Proofs.YtmpgfgemnhbkhaaGreatDoor
open Go Go.Eng
theorem tqu_run_B_true (x : Nat → Int) (hx : ∀ i, tqu.R (x i)) (L : Int) (hL : 8 ≤ L) (D : List RowD) (hf : Fits (thP tqu.θb (tqu.θe L) x 320) [tqu.RB] D) : tells (.bool true) (@xcall (tqu.sy x hx L hL tqu.RB D hf) xtabS 400 xf3 [.chan (some 1000), .bool true] hG 2 1) = true := by kernel_rfl
theorem tqu_run_5_true (x : Nat → Int) (hx : ∀ i, tqu.R (x i)) (L : Int) (hL : 8 ≤ L) (D : List RowD) (hf : Fits (thP tqu.θb (tqu.θe L) x 320) [(tqu.Rw 5)] D) : tells (.bool true) (@xcall (tqu.sy x hx L hL (tqu.Rw 5) D hf) xtabS 400 xf3 [.chan (some 1000), .bool true] hG 2 1) = true := by kernel_rfl
theorem tqu_run_4_true (x : Nat → Int) (hx : ∀ i, tqu.R (x i)) (L : Int) (hL : 8 ≤ L) (D : List RowD) (hf : Fits (thP tqu.θb (tqu.θe L) x 320) [(tqu.Rw 4)] D) : tells (.bool true) (@xcall (tqu.sy x hx L hL (tqu.Rw 4) D hf) xtabS 400 xf3 [.chan (some 1000), .bool true] hG 2 1) = true := by kernel_rfl
theorem tqu_run_1_true (x : Nat → Int) (hx : ∀ i, tqu.R (x i)) (L : Int) (hL : 8 ≤ L) (D : List RowD) (hf : Fits (thP tqu.θb (tqu.θe L) x 320) [(tqu.Rw 1)] D) : tells (.bool true) (@xcall (tqu.sy x hx L hL (tqu.Rw 1) D hf) xtabS 400 xf3 [.chan (some 1000), .bool true] hG 2 1) = true := by kernel_rfl
theorem tqu_run_0_true (x : Nat → Int) (hx : ∀ i, tqu.R (x i)) (L : Int) (hL : 8 ≤ L) (D : List RowD) (hf : Fits (thP tqu.θb (tqu.θe L) x 320) [(tqu.Rw 0)] D) : tells (.bool true) (@xcall (tqu.sy x hx L hL (tqu.Rw 0) D hf) xtabS 400 xf3 [.chan (some 1000), .bool true] hG 2 1) = true := by kernel_rfl
end Go.Proofs.YtmpgfgemnhbkhaaGreatDoor
