/- TipstaffCounts: runs, part 1 (mktcs.py). -/
import Derived.Test.YtmpgfgemnhbkhaaGreatDoorXtcc
set_option maxRecDepth 100000
set_option linter.unusedVariables false
namespace Go.Proofs.YtmpgfgemnhbkhaaGreatDoor
open Go Go.Eng
theorem tc_e0_11 (p : Nat → Int) (h : tco.H 0 11 p) : endsV [.var 2] (.bool true) (tcR (tco.sy 0 11 p h) tcX4 (tcS 0 (.int .i64 (.ofNat 0)))) = true := by kernel_rfl
theorem tc_e3_11 (p : Nat → Int) (h : tco.H 3 11 p) : endsV [.var 2] (.bool true) (tcR (tco.sy 3 11 p h) tcX4 (tcS 3 (.int .i64 (.ofNat 3)))) = true := by kernel_rfl
theorem tc_e6_11 (p : Nat → Int) (h : tco.H 6 11 p) : endsV [.var 2] (.bool true) (tcR (tco.sy 6 11 p h) tcX4 (tcS 6 (.int .i64 (.ofNat 6)))) = true := by kernel_rfl
theorem tc_e10_11 (p : Nat → Int) (h : tco.H 10 11 p) : endsV [.var 2] (.bool true) (tcR (tco.sy 10 11 p h) tcX4 (tcS 10 (.int .i64 (.ofNat 10)))) = true := by kernel_rfl
theorem tc_e14_11 (p : Nat → Int) (h : tco.H 14 11 p) : endsV [.var 2] (.bool true) (tcR (tco.sy 14 11 p h) tcX4 (tcS 14 (.int .i64 (.ofNat 14)))) = true := by kernel_rfl
theorem tc_e18_11 (p : Nat → Int) (h : tco.H 18 11 p) : endsV [.var 2] (.bool true) (tcR (tco.sy 18 11 p h) tcX4 (tcS 18 (.int .i64 (.ofNat 18)))) = true := by kernel_rfl
theorem tc_e3_10 (p : Nat → Int) (h : tco.H 3 10 p) : endsV [.var 2] (.bool true) (tcR (tco.sy 3 10 p h) tcX4 (tcS 3 (.int .i64 (.ofNat 3)))) = true := by kernel_rfl
theorem tc_e7_10 (p : Nat → Int) (h : tco.H 7 10 p) : endsV [.var 2] (.bool true) (tcR (tco.sy 7 10 p h) tcX4 (tcS 7 (.int .i64 (.ofNat 7)))) = true := by kernel_rfl
theorem tc_e11_10 (p : Nat → Int) (h : tco.H 11 10 p) : endsV [.var 2] (.bool true) (tcR (tco.sy 11 10 p h) tcX4 (tcS 11 (.int .i64 (.ofNat 11)))) = true := by kernel_rfl
theorem tc_e15_10 (p : Nat → Int) (h : tco.H 15 10 p) : endsV [.var 2] (.bool true) (tcR (tco.sy 15 10 p h) tcX4 (tcS 15 (.int .i64 (.ofNat 15)))) = true := by kernel_rfl
theorem tc_e19_10 (p : Nat → Int) (h : tco.H 19 10 p) : endsV [.var 2] (.bool true) (tcR (tco.sy 19 10 p h) tcX4 (tcS 19 (.int .i64 (.ofNat 19)))) = true := by kernel_rfl
theorem tc_e4_9 (p : Nat → Int) (h : tco.H 4 9 p) : endsV [.var 2] (.bool true) (tcR (tco.sy 4 9 p h) tcX4 (tcS 4 (.int .i64 (.ofNat 4)))) = true := by kernel_rfl
theorem tc_e8_9 (p : Nat → Int) (h : tco.H 8 9 p) : endsV [.var 2] (.bool true) (tcR (tco.sy 8 9 p h) tcX4 (tcS 8 (.int .i64 (.ofNat 8)))) = true := by kernel_rfl
theorem tc_e12_9 (p : Nat → Int) (h : tco.H 12 9 p) : endsV [.var 2] (.bool true) (tcR (tco.sy 12 9 p h) tcX4 (tcS 12 (.int .i64 (.ofNat 12)))) = true := by kernel_rfl
theorem tc_e16_9 (p : Nat → Int) (h : tco.H 16 9 p) : endsV [.var 2] (.bool true) (tcR (tco.sy 16 9 p h) tcX4 (tcS 16 (.int .i64 (.ofNat 16)))) = true := by kernel_rfl
theorem tc_e0_8 (p : Nat → Int) (h : tco.H 0 8 p) : endsV [.var 2] (.bool true) (tcR (tco.sy 0 8 p h) tcX4 (tcS 0 (.int .i64 (.ofNat 0)))) = true := by kernel_rfl
theorem tc_e4_8 (p : Nat → Int) (h : tco.H 4 8 p) : endsV [.var 2] (.bool true) (tcR (tco.sy 4 8 p h) tcX4 (tcS 4 (.int .i64 (.ofNat 4)))) = true := by kernel_rfl
theorem tc_e8_8 (p : Nat → Int) (h : tco.H 8 8 p) : endsV [.var 2] (.bool true) (tcR (tco.sy 8 8 p h) tcX4 (tcS 8 (.int .i64 (.ofNat 8)))) = true := by kernel_rfl
theorem tc_e12_8 (p : Nat → Int) (h : tco.H 12 8 p) : endsV [.var 2] (.bool true) (tcR (tco.sy 12 8 p h) tcX4 (tcS 12 (.int .i64 (.ofNat 12)))) = true := by kernel_rfl
theorem tc_e16_8 (p : Nat → Int) (h : tco.H 16 8 p) : endsV [.var 2] (.bool true) (tcR (tco.sy 16 8 p h) tcX4 (tcS 16 (.int .i64 (.ofNat 16)))) = true := by kernel_rfl
theorem tc_r0 (a b : Int) (p : Nat → Int) (h : tco.H a b p) : endsN 2 .normal (tcS 1 (.chan (some 4))) (tcR (tco.sy a b p h) tcX3 (tcS 0 (.chan (some 4)))) = true := by kernel_rfl
theorem tc_r2 (a b : Int) (p : Nat → Int) (h : tco.H a b p) : endsN 2 .normal (tcS 3 (.chan (some 4))) (tcR (tco.sy a b p h) tcX3 (tcS 2 (.chan (some 4)))) = true := by kernel_rfl
theorem tc_r6 (a b : Int) (p : Nat → Int) (h : tco.H a b p) : endsN 2 .normal (tcS 7 (.chan (some 4))) (tcR (tco.sy a b p h) tcX3 (tcS 6 (.chan (some 4)))) = true := by kernel_rfl
theorem tc_r10 (a b : Int) (p : Nat → Int) (h : tco.H a b p) : endsN 2 .normal (tcS 11 (.chan (some 4))) (tcR (tco.sy a b p h) tcX3 (tcS 10 (.chan (some 4)))) = true := by kernel_rfl
theorem tc_r14 (a b : Int) (p : Nat → Int) (h : tco.H a b p) : endsN 2 .normal (tcS 15 (.chan (some 4))) (tcR (tco.sy a b p h) tcX3 (tcS 14 (.chan (some 4)))) = true := by kernel_rfl
theorem tc_r18 (a b : Int) (p : Nat → Int) (h : tco.H a b p) : endsN 2 .normal (tcS 19 (.chan (some 4))) (tcR (tco.sy a b p h) tcX3 (tcS 18 (.chan (some 4)))) = true := by kernel_rfl
theorem tc_e3_7 (p : Nat → Int) (h : tco.H 3 7 p) : endsV [.var 2] (.bool true) (tcR (tco.sy 3 7 p h) tcX4 (tcS 3 (.int .i64 (.ofNat 3)))) = true := by kernel_rfl
theorem tc_e7_7 (p : Nat → Int) (h : tco.H 7 7 p) : endsV [.var 2] (.bool true) (tcR (tco.sy 7 7 p h) tcX4 (tcS 7 (.int .i64 (.ofNat 7)))) = true := by kernel_rfl
theorem tc_e11_7 (p : Nat → Int) (h : tco.H 11 7 p) : endsV [.var 2] (.bool true) (tcR (tco.sy 11 7 p h) tcX4 (tcS 11 (.int .i64 (.ofNat 11)))) = true := by kernel_rfl
theorem tc_e15_7 (p : Nat → Int) (h : tco.H 15 7 p) : endsV [.var 2] (.bool true) (tcR (tco.sy 15 7 p h) tcX4 (tcS 15 (.int .i64 (.ofNat 15)))) = true := by kernel_rfl
theorem tc_e19_7 (p : Nat → Int) (h : tco.H 19 7 p) : endsV [.var 2] (.bool true) (tcR (tco.sy 19 7 p h) tcX4 (tcS 19 (.int .i64 (.ofNat 19)))) = true := by kernel_rfl
theorem tc_e5_6 (p : Nat → Int) (h : tco.H 5 6 p) : endsV [.var 2] (.bool true) (tcR (tco.sy 5 6 p h) tcX4 (tcS 5 (.int .i64 (.ofNat 5)))) = true := by kernel_rfl
theorem tc_e9_6 (p : Nat → Int) (h : tco.H 9 6 p) : endsV [.var 2] (.bool true) (tcR (tco.sy 9 6 p h) tcX4 (tcS 9 (.int .i64 (.ofNat 9)))) = true := by kernel_rfl
theorem tc_e13_6 (p : Nat → Int) (h : tco.H 13 6 p) : endsV [.var 2] (.bool true) (tcR (tco.sy 13 6 p h) tcX4 (tcS 13 (.int .i64 (.ofNat 13)))) = true := by kernel_rfl
theorem tc_e17_6 (p : Nat → Int) (h : tco.H 17 6 p) : endsV [.var 2] (.bool true) (tcR (tco.sy 17 6 p h) tcX4 (tcS 17 (.int .i64 (.ofNat 17)))) = true := by kernel_rfl
theorem tc_e1_5 (p : Nat → Int) (h : tco.H 1 5 p) : endsV [.var 2] (.bool true) (tcR (tco.sy 1 5 p h) tcX4 (tcS 1 (.int .i64 (.ofNat 1)))) = true := by kernel_rfl
theorem tc_e4_5 (p : Nat → Int) (h : tco.H 4 5 p) : endsV [.var 2] (.bool true) (tcR (tco.sy 4 5 p h) tcX4 (tcS 4 (.int .i64 (.ofNat 4)))) = true := by kernel_rfl
theorem tc_e8_5 (p : Nat → Int) (h : tco.H 8 5 p) : endsV [.var 2] (.bool true) (tcR (tco.sy 8 5 p h) tcX4 (tcS 8 (.int .i64 (.ofNat 8)))) = true := by kernel_rfl
theorem tc_e12_5 (p : Nat → Int) (h : tco.H 12 5 p) : endsV [.var 2] (.bool true) (tcR (tco.sy 12 5 p h) tcX4 (tcS 12 (.int .i64 (.ofNat 12)))) = true := by kernel_rfl
theorem tc_e16_5 (p : Nat → Int) (h : tco.H 16 5 p) : endsV [.var 2] (.bool true) (tcR (tco.sy 16 5 p h) tcX4 (tcS 16 (.int .i64 (.ofNat 16)))) = true := by kernel_rfl
theorem tc_e0_4 (p : Nat → Int) (h : tco.H 0 4 p) : endsV [.var 2] (.bool true) (tcR (tco.sy 0 4 p h) tcX4 (tcS 0 (.int .i64 (.ofNat 0)))) = true := by kernel_rfl
theorem tc_e3_4 (p : Nat → Int) (h : tco.H 3 4 p) : endsV [.var 2] (.bool true) (tcR (tco.sy 3 4 p h) tcX4 (tcS 3 (.int .i64 (.ofNat 3)))) = true := by kernel_rfl
theorem tc_e7_4 (p : Nat → Int) (h : tco.H 7 4 p) : endsV [.var 2] (.bool true) (tcR (tco.sy 7 4 p h) tcX4 (tcS 7 (.int .i64 (.ofNat 7)))) = true := by kernel_rfl
theorem tc_e11_4 (p : Nat → Int) (h : tco.H 11 4 p) : endsV [.var 2] (.bool true) (tcR (tco.sy 11 4 p h) tcX4 (tcS 11 (.int .i64 (.ofNat 11)))) = true := by kernel_rfl
theorem tc_e15_4 (p : Nat → Int) (h : tco.H 15 4 p) : endsV [.var 2] (.bool true) (tcR (tco.sy 15 4 p h) tcX4 (tcS 15 (.int .i64 (.ofNat 15)))) = true := by kernel_rfl
theorem tc_e19_4 (p : Nat → Int) (h : tco.H 19 4 p) : endsV [.var 2] (.bool true) (tcR (tco.sy 19 4 p h) tcX4 (tcS 19 (.int .i64 (.ofNat 19)))) = true := by kernel_rfl
theorem tc_e5_3 (p : Nat → Int) (h : tco.H 5 3 p) : endsV [.var 2] (.bool true) (tcR (tco.sy 5 3 p h) tcX4 (tcS 5 (.int .i64 (.ofNat 5)))) = true := by kernel_rfl
theorem tc_e9_3 (p : Nat → Int) (h : tco.H 9 3 p) : endsV [.var 2] (.bool true) (tcR (tco.sy 9 3 p h) tcX4 (tcS 9 (.int .i64 (.ofNat 9)))) = true := by kernel_rfl
theorem tc_e13_3 (p : Nat → Int) (h : tco.H 13 3 p) : endsV [.var 2] (.bool true) (tcR (tco.sy 13 3 p h) tcX4 (tcS 13 (.int .i64 (.ofNat 13)))) = true := by kernel_rfl
theorem tc_e17_3 (p : Nat → Int) (h : tco.H 17 3 p) : endsV [.var 2] (.bool true) (tcR (tco.sy 17 3 p h) tcX4 (tcS 17 (.int .i64 (.ofNat 17)))) = true := by kernel_rfl
theorem tc_e1_2 (p : Nat → Int) (h : tco.H 1 2 p) : endsV [.var 2] (.bool true) (tcR (tco.sy 1 2 p h) tcX4 (tcS 1 (.int .i64 (.ofNat 1)))) = true := by kernel_rfl
theorem tc_e5_2 (p : Nat → Int) (h : tco.H 5 2 p) : endsV [.var 2] (.bool true) (tcR (tco.sy 5 2 p h) tcX4 (tcS 5 (.int .i64 (.ofNat 5)))) = true := by kernel_rfl
theorem tc_e9_2 (p : Nat → Int) (h : tco.H 9 2 p) : endsV [.var 2] (.bool true) (tcR (tco.sy 9 2 p h) tcX4 (tcS 9 (.int .i64 (.ofNat 9)))) = true := by kernel_rfl
theorem tc_e13_2 (p : Nat → Int) (h : tco.H 13 2 p) : endsV [.var 2] (.bool true) (tcR (tco.sy 13 2 p h) tcX4 (tcS 13 (.int .i64 (.ofNat 13)))) = true := by kernel_rfl
theorem tc_e17_2 (p : Nat → Int) (h : tco.H 17 2 p) : endsV [.var 2] (.bool true) (tcR (tco.sy 17 2 p h) tcX4 (tcS 17 (.int .i64 (.ofNat 17)))) = true := by kernel_rfl
theorem tc_e1_1 (p : Nat → Int) (h : tco.H 1 1 p) : endsV [.var 2] (.bool true) (tcR (tco.sy 1 1 p h) tcX4 (tcS 1 (.int .i64 (.ofNat 1)))) = true := by kernel_rfl
theorem tc_e4_1 (p : Nat → Int) (h : tco.H 4 1 p) : endsV [.var 2] (.bool true) (tcR (tco.sy 4 1 p h) tcX4 (tcS 4 (.int .i64 (.ofNat 4)))) = true := by kernel_rfl
theorem tc_e8_1 (p : Nat → Int) (h : tco.H 8 1 p) : endsV [.var 2] (.bool true) (tcR (tco.sy 8 1 p h) tcX4 (tcS 8 (.int .i64 (.ofNat 8)))) = true := by kernel_rfl
theorem tc_e12_1 (p : Nat → Int) (h : tco.H 12 1 p) : endsV [.var 2] (.bool true) (tcR (tco.sy 12 1 p h) tcX4 (tcS 12 (.int .i64 (.ofNat 12)))) = true := by kernel_rfl
theorem tc_e16_1 (p : Nat → Int) (h : tco.H 16 1 p) : endsV [.var 2] (.bool true) (tcR (tco.sy 16 1 p h) tcX4 (tcS 16 (.int .i64 (.ofNat 16)))) = true := by kernel_rfl
theorem tc_e0_0 (p : Nat → Int) (h : tco.H 0 0 p) : endsV [.var 2] (.bool true) (tcR (tco.sy 0 0 p h) tcX4 (tcS 0 (.int .i64 (.ofNat 0)))) = true := by kernel_rfl
theorem tc_e3_0 (p : Nat → Int) (h : tco.H 3 0 p) : endsV [.var 2] (.bool true) (tcR (tco.sy 3 0 p h) tcX4 (tcS 3 (.int .i64 (.ofNat 3)))) = true := by kernel_rfl
theorem tc_e7_0 (p : Nat → Int) (h : tco.H 7 0 p) : endsV [.var 2] (.bool true) (tcR (tco.sy 7 0 p h) tcX4 (tcS 7 (.int .i64 (.ofNat 7)))) = true := by kernel_rfl
theorem tc_e11_0 (p : Nat → Int) (h : tco.H 11 0 p) : endsV [.var 2] (.bool true) (tcR (tco.sy 11 0 p h) tcX4 (tcS 11 (.int .i64 (.ofNat 11)))) = true := by kernel_rfl
theorem tc_e15_0 (p : Nat → Int) (h : tco.H 15 0 p) : endsV [.var 2] (.bool true) (tcR (tco.sy 15 0 p h) tcX4 (tcS 15 (.int .i64 (.ofNat 15)))) = true := by kernel_rfl
theorem tc_e19_0 (p : Nat → Int) (h : tco.H 19 0 p) : endsV [.var 2] (.bool true) (tcR (tco.sy 19 0 p h) tcX4 (tcS 19 (.int .i64 (.ofNat 19)))) = true := by kernel_rfl
end Go.Proofs.YtmpgfgemnhbkhaaGreatDoor
