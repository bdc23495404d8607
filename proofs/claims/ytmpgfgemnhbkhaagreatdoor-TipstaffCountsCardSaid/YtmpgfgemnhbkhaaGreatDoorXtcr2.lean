/- TipstaffCounts: runs, part 2 (mktcs.py). -/
import Derived.Test.YtmpgfgemnhbkhaaGreatDoorXtcc
set_option maxRecDepth 100000
set_option linter.unusedVariables false
namespace Go.Proofs.YtmpgfgemnhbkhaaGreatDoor
open Go Go.Eng
theorem tc_e1_11 (p : Nat → Int) (h : tco.H 1 11 p) : endsV [.var 2] (.bool true) (tcR (tco.sy 1 11 p h) tcX4 (tcS 1 (.int .i64 (.ofNat 1)))) = true := by kernel_rfl
theorem tc_e4_11 (p : Nat → Int) (h : tco.H 4 11 p) : endsV [.var 2] (.bool true) (tcR (tco.sy 4 11 p h) tcX4 (tcS 4 (.int .i64 (.ofNat 4)))) = true := by kernel_rfl
theorem tc_e7_11 (p : Nat → Int) (h : tco.H 7 11 p) : endsV [.var 2] (.bool true) (tcR (tco.sy 7 11 p h) tcX4 (tcS 7 (.int .i64 (.ofNat 7)))) = true := by kernel_rfl
theorem tc_e11_11 (p : Nat → Int) (h : tco.H 11 11 p) : endsV [.var 2] (.bool true) (tcR (tco.sy 11 11 p h) tcX4 (tcS 11 (.int .i64 (.ofNat 11)))) = true := by kernel_rfl
theorem tc_e15_11 (p : Nat → Int) (h : tco.H 15 11 p) : endsV [.var 2] (.bool true) (tcR (tco.sy 15 11 p h) tcX4 (tcS 15 (.int .i64 (.ofNat 15)))) = true := by kernel_rfl
theorem tc_e19_11 (p : Nat → Int) (h : tco.H 19 11 p) : endsV [.var 2] (.bool true) (tcR (tco.sy 19 11 p h) tcX4 (tcS 19 (.int .i64 (.ofNat 19)))) = true := by kernel_rfl
theorem tc_e4_10 (p : Nat → Int) (h : tco.H 4 10 p) : endsV [.var 2] (.bool true) (tcR (tco.sy 4 10 p h) tcX4 (tcS 4 (.int .i64 (.ofNat 4)))) = true := by kernel_rfl
theorem tc_e8_10 (p : Nat → Int) (h : tco.H 8 10 p) : endsV [.var 2] (.bool true) (tcR (tco.sy 8 10 p h) tcX4 (tcS 8 (.int .i64 (.ofNat 8)))) = true := by kernel_rfl
theorem tc_e12_10 (p : Nat → Int) (h : tco.H 12 10 p) : endsV [.var 2] (.bool true) (tcR (tco.sy 12 10 p h) tcX4 (tcS 12 (.int .i64 (.ofNat 12)))) = true := by kernel_rfl
theorem tc_e16_10 (p : Nat → Int) (h : tco.H 16 10 p) : endsV [.var 2] (.bool true) (tcR (tco.sy 16 10 p h) tcX4 (tcS 16 (.int .i64 (.ofNat 16)))) = true := by kernel_rfl
theorem tc_e0_9 (p : Nat → Int) (h : tco.H 0 9 p) : endsV [.var 2] (.bool true) (tcR (tco.sy 0 9 p h) tcX4 (tcS 0 (.int .i64 (.ofNat 0)))) = true := by kernel_rfl
theorem tc_e2_9 (p : Nat → Int) (h : tco.H 2 9 p) : endsV [.var 2] (.bool true) (tcR (tco.sy 2 9 p h) tcX4 (tcS 2 (.int .i64 (.ofNat 2)))) = true := by kernel_rfl
theorem tc_e6_9 (p : Nat → Int) (h : tco.H 6 9 p) : endsV [.var 2] (.bool true) (tcR (tco.sy 6 9 p h) tcX4 (tcS 6 (.int .i64 (.ofNat 6)))) = true := by kernel_rfl
theorem tc_e10_9 (p : Nat → Int) (h : tco.H 10 9 p) : endsV [.var 2] (.bool true) (tcR (tco.sy 10 9 p h) tcX4 (tcS 10 (.int .i64 (.ofNat 10)))) = true := by kernel_rfl
theorem tc_e14_9 (p : Nat → Int) (h : tco.H 14 9 p) : endsV [.var 2] (.bool true) (tcR (tco.sy 14 9 p h) tcX4 (tcS 14 (.int .i64 (.ofNat 14)))) = true := by kernel_rfl
theorem tc_e18_9 (p : Nat → Int) (h : tco.H 18 9 p) : endsV [.var 2] (.bool true) (tcR (tco.sy 18 9 p h) tcX4 (tcS 18 (.int .i64 (.ofNat 18)))) = true := by kernel_rfl
theorem tc_e2_8 (p : Nat → Int) (h : tco.H 2 8 p) : endsV [.var 2] (.bool true) (tcR (tco.sy 2 8 p h) tcX4 (tcS 2 (.int .i64 (.ofNat 2)))) = true := by kernel_rfl
theorem tc_e6_8 (p : Nat → Int) (h : tco.H 6 8 p) : endsV [.var 2] (.bool true) (tcR (tco.sy 6 8 p h) tcX4 (tcS 6 (.int .i64 (.ofNat 6)))) = true := by kernel_rfl
theorem tc_e10_8 (p : Nat → Int) (h : tco.H 10 8 p) : endsV [.var 2] (.bool true) (tcR (tco.sy 10 8 p h) tcX4 (tcS 10 (.int .i64 (.ofNat 10)))) = true := by kernel_rfl
theorem tc_e14_8 (p : Nat → Int) (h : tco.H 14 8 p) : endsV [.var 2] (.bool true) (tcR (tco.sy 14 8 p h) tcX4 (tcS 14 (.int .i64 (.ofNat 14)))) = true := by kernel_rfl
theorem tc_e18_8 (p : Nat → Int) (h : tco.H 18 8 p) : endsV [.var 2] (.bool true) (tcR (tco.sy 18 8 p h) tcX4 (tcS 18 (.int .i64 (.ofNat 18)))) = true := by kernel_rfl
theorem tc_r3 (a b : Int) (p : Nat → Int) (h : tco.H a b p) : endsN 2 .normal (tcS 4 (.chan (some 4))) (tcR (tco.sy a b p h) tcX3 (tcS 3 (.chan (some 4)))) = true := by kernel_rfl
theorem tc_r7 (a b : Int) (p : Nat → Int) (h : tco.H a b p) : endsN 2 .normal (tcS 8 (.chan (some 4))) (tcR (tco.sy a b p h) tcX3 (tcS 7 (.chan (some 4)))) = true := by kernel_rfl
theorem tc_r11 (a b : Int) (p : Nat → Int) (h : tco.H a b p) : endsN 2 .normal (tcS 12 (.chan (some 4))) (tcR (tco.sy a b p h) tcX3 (tcS 11 (.chan (some 4)))) = true := by kernel_rfl
theorem tc_r15 (a b : Int) (p : Nat → Int) (h : tco.H a b p) : endsN 2 .normal (tcS 16 (.chan (some 4))) (tcR (tco.sy a b p h) tcX3 (tcS 15 (.chan (some 4)))) = true := by kernel_rfl
theorem tc_e0_7 (p : Nat → Int) (h : tco.H 0 7 p) : endsV [.var 2] (.bool true) (tcR (tco.sy 0 7 p h) tcX4 (tcS 0 (.int .i64 (.ofNat 0)))) = true := by kernel_rfl
theorem tc_e4_7 (p : Nat → Int) (h : tco.H 4 7 p) : endsV [.var 2] (.bool true) (tcR (tco.sy 4 7 p h) tcX4 (tcS 4 (.int .i64 (.ofNat 4)))) = true := by kernel_rfl
theorem tc_e8_7 (p : Nat → Int) (h : tco.H 8 7 p) : endsV [.var 2] (.bool true) (tcR (tco.sy 8 7 p h) tcX4 (tcS 8 (.int .i64 (.ofNat 8)))) = true := by kernel_rfl
theorem tc_e12_7 (p : Nat → Int) (h : tco.H 12 7 p) : endsV [.var 2] (.bool true) (tcR (tco.sy 12 7 p h) tcX4 (tcS 12 (.int .i64 (.ofNat 12)))) = true := by kernel_rfl
theorem tc_e16_7 (p : Nat → Int) (h : tco.H 16 7 p) : endsV [.var 2] (.bool true) (tcR (tco.sy 16 7 p h) tcX4 (tcS 16 (.int .i64 (.ofNat 16)))) = true := by kernel_rfl
theorem tc_e0_6 (p : Nat → Int) (h : tco.H 0 6 p) : endsV [.var 2] (.bool true) (tcR (tco.sy 0 6 p h) tcX4 (tcS 0 (.int .i64 (.ofNat 0)))) = true := by kernel_rfl
theorem tc_e3_6 (p : Nat → Int) (h : tco.H 3 6 p) : endsV [.var 2] (.bool true) (tcR (tco.sy 3 6 p h) tcX4 (tcS 3 (.int .i64 (.ofNat 3)))) = true := by kernel_rfl
theorem tc_e7_6 (p : Nat → Int) (h : tco.H 7 6 p) : endsV [.var 2] (.bool true) (tcR (tco.sy 7 6 p h) tcX4 (tcS 7 (.int .i64 (.ofNat 7)))) = true := by kernel_rfl
theorem tc_e11_6 (p : Nat → Int) (h : tco.H 11 6 p) : endsV [.var 2] (.bool true) (tcR (tco.sy 11 6 p h) tcX4 (tcS 11 (.int .i64 (.ofNat 11)))) = true := by kernel_rfl
theorem tc_e15_6 (p : Nat → Int) (h : tco.H 15 6 p) : endsV [.var 2] (.bool true) (tcR (tco.sy 15 6 p h) tcX4 (tcS 15 (.int .i64 (.ofNat 15)))) = true := by kernel_rfl
theorem tc_e19_6 (p : Nat → Int) (h : tco.H 19 6 p) : endsV [.var 2] (.bool true) (tcR (tco.sy 19 6 p h) tcX4 (tcS 19 (.int .i64 (.ofNat 19)))) = true := by kernel_rfl
theorem tc_e5_5 (p : Nat → Int) (h : tco.H 5 5 p) : endsV [.var 2] (.bool true) (tcR (tco.sy 5 5 p h) tcX4 (tcS 5 (.int .i64 (.ofNat 5)))) = true := by kernel_rfl
theorem tc_e9_5 (p : Nat → Int) (h : tco.H 9 5 p) : endsV [.var 2] (.bool true) (tcR (tco.sy 9 5 p h) tcX4 (tcS 9 (.int .i64 (.ofNat 9)))) = true := by kernel_rfl
theorem tc_e13_5 (p : Nat → Int) (h : tco.H 13 5 p) : endsV [.var 2] (.bool true) (tcR (tco.sy 13 5 p h) tcX4 (tcS 13 (.int .i64 (.ofNat 13)))) = true := by kernel_rfl
theorem tc_e17_5 (p : Nat → Int) (h : tco.H 17 5 p) : endsV [.var 2] (.bool true) (tcR (tco.sy 17 5 p h) tcX4 (tcS 17 (.int .i64 (.ofNat 17)))) = true := by kernel_rfl
theorem tc_e1_4 (p : Nat → Int) (h : tco.H 1 4 p) : endsV [.var 2] (.bool true) (tcR (tco.sy 1 4 p h) tcX4 (tcS 1 (.int .i64 (.ofNat 1)))) = true := by kernel_rfl
theorem tc_e4_4 (p : Nat → Int) (h : tco.H 4 4 p) : endsV [.var 2] (.bool true) (tcR (tco.sy 4 4 p h) tcX4 (tcS 4 (.int .i64 (.ofNat 4)))) = true := by kernel_rfl
theorem tc_e8_4 (p : Nat → Int) (h : tco.H 8 4 p) : endsV [.var 2] (.bool true) (tcR (tco.sy 8 4 p h) tcX4 (tcS 8 (.int .i64 (.ofNat 8)))) = true := by kernel_rfl
theorem tc_e12_4 (p : Nat → Int) (h : tco.H 12 4 p) : endsV [.var 2] (.bool true) (tcR (tco.sy 12 4 p h) tcX4 (tcS 12 (.int .i64 (.ofNat 12)))) = true := by kernel_rfl
theorem tc_e16_4 (p : Nat → Int) (h : tco.H 16 4 p) : endsV [.var 2] (.bool true) (tcR (tco.sy 16 4 p h) tcX4 (tcS 16 (.int .i64 (.ofNat 16)))) = true := by kernel_rfl
theorem tc_e0_3 (p : Nat → Int) (h : tco.H 0 3 p) : endsV [.var 2] (.bool true) (tcR (tco.sy 0 3 p h) tcX4 (tcS 0 (.int .i64 (.ofNat 0)))) = true := by kernel_rfl
theorem tc_e3_3 (p : Nat → Int) (h : tco.H 3 3 p) : endsV [.var 2] (.bool true) (tcR (tco.sy 3 3 p h) tcX4 (tcS 3 (.int .i64 (.ofNat 3)))) = true := by kernel_rfl
theorem tc_e7_3 (p : Nat → Int) (h : tco.H 7 3 p) : endsV [.var 2] (.bool true) (tcR (tco.sy 7 3 p h) tcX4 (tcS 7 (.int .i64 (.ofNat 7)))) = true := by kernel_rfl
theorem tc_e11_3 (p : Nat → Int) (h : tco.H 11 3 p) : endsV [.var 2] (.bool true) (tcR (tco.sy 11 3 p h) tcX4 (tcS 11 (.int .i64 (.ofNat 11)))) = true := by kernel_rfl
theorem tc_e15_3 (p : Nat → Int) (h : tco.H 15 3 p) : endsV [.var 2] (.bool true) (tcR (tco.sy 15 3 p h) tcX4 (tcS 15 (.int .i64 (.ofNat 15)))) = true := by kernel_rfl
theorem tc_e19_3 (p : Nat → Int) (h : tco.H 19 3 p) : endsV [.var 2] (.bool true) (tcR (tco.sy 19 3 p h) tcX4 (tcS 19 (.int .i64 (.ofNat 19)))) = true := by kernel_rfl
theorem tc_e4_2 (p : Nat → Int) (h : tco.H 4 2 p) : endsV [.var 2] (.bool true) (tcR (tco.sy 4 2 p h) tcX4 (tcS 4 (.int .i64 (.ofNat 4)))) = true := by kernel_rfl
theorem tc_e8_2 (p : Nat → Int) (h : tco.H 8 2 p) : endsV [.var 2] (.bool true) (tcR (tco.sy 8 2 p h) tcX4 (tcS 8 (.int .i64 (.ofNat 8)))) = true := by kernel_rfl
theorem tc_e12_2 (p : Nat → Int) (h : tco.H 12 2 p) : endsV [.var 2] (.bool true) (tcR (tco.sy 12 2 p h) tcX4 (tcS 12 (.int .i64 (.ofNat 12)))) = true := by kernel_rfl
theorem tc_e16_2 (p : Nat → Int) (h : tco.H 16 2 p) : endsV [.var 2] (.bool true) (tcR (tco.sy 16 2 p h) tcX4 (tcS 16 (.int .i64 (.ofNat 16)))) = true := by kernel_rfl
theorem tc_e0_1 (p : Nat → Int) (h : tco.H 0 1 p) : endsV [.var 2] (.bool true) (tcR (tco.sy 0 1 p h) tcX4 (tcS 0 (.int .i64 (.ofNat 0)))) = true := by kernel_rfl
theorem tc_e3_1 (p : Nat → Int) (h : tco.H 3 1 p) : endsV [.var 2] (.bool true) (tcR (tco.sy 3 1 p h) tcX4 (tcS 3 (.int .i64 (.ofNat 3)))) = true := by kernel_rfl
theorem tc_e7_1 (p : Nat → Int) (h : tco.H 7 1 p) : endsV [.var 2] (.bool true) (tcR (tco.sy 7 1 p h) tcX4 (tcS 7 (.int .i64 (.ofNat 7)))) = true := by kernel_rfl
theorem tc_e11_1 (p : Nat → Int) (h : tco.H 11 1 p) : endsV [.var 2] (.bool true) (tcR (tco.sy 11 1 p h) tcX4 (tcS 11 (.int .i64 (.ofNat 11)))) = true := by kernel_rfl
theorem tc_e15_1 (p : Nat → Int) (h : tco.H 15 1 p) : endsV [.var 2] (.bool true) (tcR (tco.sy 15 1 p h) tcX4 (tcS 15 (.int .i64 (.ofNat 15)))) = true := by kernel_rfl
theorem tc_e19_1 (p : Nat → Int) (h : tco.H 19 1 p) : endsV [.var 2] (.bool true) (tcR (tco.sy 19 1 p h) tcX4 (tcS 19 (.int .i64 (.ofNat 19)))) = true := by kernel_rfl
theorem tc_e5_0 (p : Nat → Int) (h : tco.H 5 0 p) : endsV [.var 2] (.bool true) (tcR (tco.sy 5 0 p h) tcX4 (tcS 5 (.int .i64 (.ofNat 5)))) = true := by kernel_rfl
theorem tc_e9_0 (p : Nat → Int) (h : tco.H 9 0 p) : endsV [.var 2] (.bool true) (tcR (tco.sy 9 0 p h) tcX4 (tcS 9 (.int .i64 (.ofNat 9)))) = true := by kernel_rfl
theorem tc_e13_0 (p : Nat → Int) (h : tco.H 13 0 p) : endsV [.var 2] (.bool true) (tcR (tco.sy 13 0 p h) tcX4 (tcS 13 (.int .i64 (.ofNat 13)))) = true := by kernel_rfl
theorem tc_e17_0 (p : Nat → Int) (h : tco.H 17 0 p) : endsV [.var 2] (.bool true) (tcR (tco.sy 17 0 p h) tcX4 (tcS 17 (.int .i64 (.ofNat 17)))) = true := by kernel_rfl
theorem tc_k1 (b : Int) (p : Nat → Int) (h : tco.H 1 b p) : endsN 2 .normal (tcQ (.int .i64 (.ofNat 1))) (tcR (tco.sy 1 b p h) tcX1 tcP) = true := by kernel_rfl
theorem tc_k3 (b : Int) (p : Nat → Int) (h : tco.H 3 b p) : endsN 2 .normal (tcQ (.int .i64 (.ofNat 3))) (tcR (tco.sy 3 b p h) tcX1 tcP) = true := by kernel_rfl
theorem tc_k5 (b : Int) (p : Nat → Int) (h : tco.H 5 b p) : endsN 2 .normal (tcQ (.int .i64 (.ofNat 5))) (tcR (tco.sy 5 b p h) tcX1 tcP) = true := by kernel_rfl
theorem tc_k7 (b : Int) (p : Nat → Int) (h : tco.H 7 b p) : endsN 2 .normal (tcQ (.int .i64 (.ofNat 7))) (tcR (tco.sy 7 b p h) tcX1 tcP) = true := by kernel_rfl
theorem tc_k9 (b : Int) (p : Nat → Int) (h : tco.H 9 b p) : endsN 2 .normal (tcQ (.int .i64 (.ofNat 9))) (tcR (tco.sy 9 b p h) tcX1 tcP) = true := by kernel_rfl
theorem tc_k11 (b : Int) (p : Nat → Int) (h : tco.H 11 b p) : endsN 2 .normal (tcQ (.int .i64 (.ofNat 11))) (tcR (tco.sy 11 b p h) tcX1 tcP) = true := by kernel_rfl
theorem tc_k14 (b : Int) (p : Nat → Int) (h : tco.H 14 b p) : endsN 2 .normal (tcQ (.int .i64 (.ofNat 14))) (tcR (tco.sy 14 b p h) tcX1 tcP) = true := by kernel_rfl
theorem tc_k17 (b : Int) (p : Nat → Int) (h : tco.H 17 b p) : endsN 2 .normal (tcQ (.int .i64 (.ofNat 17))) (tcR (tco.sy 17 b p h) tcX1 tcP) = true := by kernel_rfl
end Go.Proofs.YtmpgfgemnhbkhaaGreatDoor
