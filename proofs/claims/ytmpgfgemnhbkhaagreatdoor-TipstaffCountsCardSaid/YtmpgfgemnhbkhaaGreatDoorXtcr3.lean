/- TipstaffCounts: runs, part 3 (mktcs.py). -/
import Derived.Test.YtmpgfgemnhbkhaaGreatDoorXtcc
set_option maxRecDepth 100000
set_option linter.unusedVariables false
namespace Go.Proofs.YtmpgfgemnhbkhaaGreatDoor
open Go Go.Eng
theorem tc_e2_11 (p : Nat → Int) (h : tco.H 2 11 p) : endsV [.var 2] (.bool true) (tcR (tco.sy 2 11 p h) tcX4 (tcS 2 (.int .i64 (.ofNat 2)))) = true := by kernel_rfl
theorem tc_e5_11 (p : Nat → Int) (h : tco.H 5 11 p) : endsV [.var 2] (.bool true) (tcR (tco.sy 5 11 p h) tcX4 (tcS 5 (.int .i64 (.ofNat 5)))) = true := by kernel_rfl
theorem tc_e8_11 (p : Nat → Int) (h : tco.H 8 11 p) : endsV [.var 2] (.bool true) (tcR (tco.sy 8 11 p h) tcX4 (tcS 8 (.int .i64 (.ofNat 8)))) = true := by kernel_rfl
theorem tc_e12_11 (p : Nat → Int) (h : tco.H 12 11 p) : endsV [.var 2] (.bool true) (tcR (tco.sy 12 11 p h) tcX4 (tcS 12 (.int .i64 (.ofNat 12)))) = true := by kernel_rfl
theorem tc_e16_11 (p : Nat → Int) (h : tco.H 16 11 p) : endsV [.var 2] (.bool true) (tcR (tco.sy 16 11 p h) tcX4 (tcS 16 (.int .i64 (.ofNat 16)))) = true := by kernel_rfl
theorem tc_e0_10 (p : Nat → Int) (h : tco.H 0 10 p) : endsV [.var 2] (.bool true) (tcR (tco.sy 0 10 p h) tcX4 (tcS 0 (.int .i64 (.ofNat 0)))) = true := by kernel_rfl
theorem tc_e2_10 (p : Nat → Int) (h : tco.H 2 10 p) : endsV [.var 2] (.bool true) (tcR (tco.sy 2 10 p h) tcX4 (tcS 2 (.int .i64 (.ofNat 2)))) = true := by kernel_rfl
theorem tc_e6_10 (p : Nat → Int) (h : tco.H 6 10 p) : endsV [.var 2] (.bool true) (tcR (tco.sy 6 10 p h) tcX4 (tcS 6 (.int .i64 (.ofNat 6)))) = true := by kernel_rfl
theorem tc_e10_10 (p : Nat → Int) (h : tco.H 10 10 p) : endsV [.var 2] (.bool true) (tcR (tco.sy 10 10 p h) tcX4 (tcS 10 (.int .i64 (.ofNat 10)))) = true := by kernel_rfl
theorem tc_e14_10 (p : Nat → Int) (h : tco.H 14 10 p) : endsV [.var 2] (.bool true) (tcR (tco.sy 14 10 p h) tcX4 (tcS 14 (.int .i64 (.ofNat 14)))) = true := by kernel_rfl
theorem tc_e18_10 (p : Nat → Int) (h : tco.H 18 10 p) : endsV [.var 2] (.bool true) (tcR (tco.sy 18 10 p h) tcX4 (tcS 18 (.int .i64 (.ofNat 18)))) = true := by kernel_rfl
theorem tc_e3_9 (p : Nat → Int) (h : tco.H 3 9 p) : endsV [.var 2] (.bool true) (tcR (tco.sy 3 9 p h) tcX4 (tcS 3 (.int .i64 (.ofNat 3)))) = true := by kernel_rfl
theorem tc_e7_9 (p : Nat → Int) (h : tco.H 7 9 p) : endsV [.var 2] (.bool true) (tcR (tco.sy 7 9 p h) tcX4 (tcS 7 (.int .i64 (.ofNat 7)))) = true := by kernel_rfl
theorem tc_e11_9 (p : Nat → Int) (h : tco.H 11 9 p) : endsV [.var 2] (.bool true) (tcR (tco.sy 11 9 p h) tcX4 (tcS 11 (.int .i64 (.ofNat 11)))) = true := by kernel_rfl
theorem tc_e15_9 (p : Nat → Int) (h : tco.H 15 9 p) : endsV [.var 2] (.bool true) (tcR (tco.sy 15 9 p h) tcX4 (tcS 15 (.int .i64 (.ofNat 15)))) = true := by kernel_rfl
theorem tc_e19_9 (p : Nat → Int) (h : tco.H 19 9 p) : endsV [.var 2] (.bool true) (tcR (tco.sy 19 9 p h) tcX4 (tcS 19 (.int .i64 (.ofNat 19)))) = true := by kernel_rfl
theorem tc_e3_8 (p : Nat → Int) (h : tco.H 3 8 p) : endsV [.var 2] (.bool true) (tcR (tco.sy 3 8 p h) tcX4 (tcS 3 (.int .i64 (.ofNat 3)))) = true := by kernel_rfl
theorem tc_e7_8 (p : Nat → Int) (h : tco.H 7 8 p) : endsV [.var 2] (.bool true) (tcR (tco.sy 7 8 p h) tcX4 (tcS 7 (.int .i64 (.ofNat 7)))) = true := by kernel_rfl
theorem tc_e11_8 (p : Nat → Int) (h : tco.H 11 8 p) : endsV [.var 2] (.bool true) (tcR (tco.sy 11 8 p h) tcX4 (tcS 11 (.int .i64 (.ofNat 11)))) = true := by kernel_rfl
theorem tc_e15_8 (p : Nat → Int) (h : tco.H 15 8 p) : endsV [.var 2] (.bool true) (tcR (tco.sy 15 8 p h) tcX4 (tcS 15 (.int .i64 (.ofNat 15)))) = true := by kernel_rfl
theorem tc_e19_8 (p : Nat → Int) (h : tco.H 19 8 p) : endsV [.var 2] (.bool true) (tcR (tco.sy 19 8 p h) tcX4 (tcS 19 (.int .i64 (.ofNat 19)))) = true := by kernel_rfl
theorem tc_r4 (a b : Int) (p : Nat → Int) (h : tco.H a b p) : endsN 2 .normal (tcS 5 (.chan (some 4))) (tcR (tco.sy a b p h) tcX3 (tcS 4 (.chan (some 4)))) = true := by kernel_rfl
theorem tc_r8 (a b : Int) (p : Nat → Int) (h : tco.H a b p) : endsN 2 .normal (tcS 9 (.chan (some 4))) (tcR (tco.sy a b p h) tcX3 (tcS 8 (.chan (some 4)))) = true := by kernel_rfl
theorem tc_r12 (a b : Int) (p : Nat → Int) (h : tco.H a b p) : endsN 2 .normal (tcS 13 (.chan (some 4))) (tcR (tco.sy a b p h) tcX3 (tcS 12 (.chan (some 4)))) = true := by kernel_rfl
theorem tc_r16 (a b : Int) (p : Nat → Int) (h : tco.H a b p) : endsN 2 .normal (tcS 17 (.chan (some 4))) (tcR (tco.sy a b p h) tcX3 (tcS 16 (.chan (some 4)))) = true := by kernel_rfl
theorem tc_e1_7 (p : Nat → Int) (h : tco.H 1 7 p) : endsV [.var 2] (.bool true) (tcR (tco.sy 1 7 p h) tcX4 (tcS 1 (.int .i64 (.ofNat 1)))) = true := by kernel_rfl
theorem tc_e5_7 (p : Nat → Int) (h : tco.H 5 7 p) : endsV [.var 2] (.bool true) (tcR (tco.sy 5 7 p h) tcX4 (tcS 5 (.int .i64 (.ofNat 5)))) = true := by kernel_rfl
theorem tc_e9_7 (p : Nat → Int) (h : tco.H 9 7 p) : endsV [.var 2] (.bool true) (tcR (tco.sy 9 7 p h) tcX4 (tcS 9 (.int .i64 (.ofNat 9)))) = true := by kernel_rfl
theorem tc_e13_7 (p : Nat → Int) (h : tco.H 13 7 p) : endsV [.var 2] (.bool true) (tcR (tco.sy 13 7 p h) tcX4 (tcS 13 (.int .i64 (.ofNat 13)))) = true := by kernel_rfl
theorem tc_e17_7 (p : Nat → Int) (h : tco.H 17 7 p) : endsV [.var 2] (.bool true) (tcR (tco.sy 17 7 p h) tcX4 (tcS 17 (.int .i64 (.ofNat 17)))) = true := by kernel_rfl
theorem tc_e1_6 (p : Nat → Int) (h : tco.H 1 6 p) : endsV [.var 2] (.bool true) (tcR (tco.sy 1 6 p h) tcX4 (tcS 1 (.int .i64 (.ofNat 1)))) = true := by kernel_rfl
theorem tc_e4_6 (p : Nat → Int) (h : tco.H 4 6 p) : endsV [.var 2] (.bool true) (tcR (tco.sy 4 6 p h) tcX4 (tcS 4 (.int .i64 (.ofNat 4)))) = true := by kernel_rfl
theorem tc_e8_6 (p : Nat → Int) (h : tco.H 8 6 p) : endsV [.var 2] (.bool true) (tcR (tco.sy 8 6 p h) tcX4 (tcS 8 (.int .i64 (.ofNat 8)))) = true := by kernel_rfl
theorem tc_e12_6 (p : Nat → Int) (h : tco.H 12 6 p) : endsV [.var 2] (.bool true) (tcR (tco.sy 12 6 p h) tcX4 (tcS 12 (.int .i64 (.ofNat 12)))) = true := by kernel_rfl
theorem tc_e16_6 (p : Nat → Int) (h : tco.H 16 6 p) : endsV [.var 2] (.bool true) (tcR (tco.sy 16 6 p h) tcX4 (tcS 16 (.int .i64 (.ofNat 16)))) = true := by kernel_rfl
theorem tc_e0_5 (p : Nat → Int) (h : tco.H 0 5 p) : endsV [.var 2] (.bool true) (tcR (tco.sy 0 5 p h) tcX4 (tcS 0 (.int .i64 (.ofNat 0)))) = true := by kernel_rfl
theorem tc_e3_5 (p : Nat → Int) (h : tco.H 3 5 p) : endsV [.var 2] (.bool true) (tcR (tco.sy 3 5 p h) tcX4 (tcS 3 (.int .i64 (.ofNat 3)))) = true := by kernel_rfl
theorem tc_e7_5 (p : Nat → Int) (h : tco.H 7 5 p) : endsV [.var 2] (.bool true) (tcR (tco.sy 7 5 p h) tcX4 (tcS 7 (.int .i64 (.ofNat 7)))) = true := by kernel_rfl
theorem tc_e11_5 (p : Nat → Int) (h : tco.H 11 5 p) : endsV [.var 2] (.bool true) (tcR (tco.sy 11 5 p h) tcX4 (tcS 11 (.int .i64 (.ofNat 11)))) = true := by kernel_rfl
theorem tc_e15_5 (p : Nat → Int) (h : tco.H 15 5 p) : endsV [.var 2] (.bool true) (tcR (tco.sy 15 5 p h) tcX4 (tcS 15 (.int .i64 (.ofNat 15)))) = true := by kernel_rfl
theorem tc_e19_5 (p : Nat → Int) (h : tco.H 19 5 p) : endsV [.var 2] (.bool true) (tcR (tco.sy 19 5 p h) tcX4 (tcS 19 (.int .i64 (.ofNat 19)))) = true := by kernel_rfl
theorem tc_e5_4 (p : Nat → Int) (h : tco.H 5 4 p) : endsV [.var 2] (.bool true) (tcR (tco.sy 5 4 p h) tcX4 (tcS 5 (.int .i64 (.ofNat 5)))) = true := by kernel_rfl
theorem tc_e9_4 (p : Nat → Int) (h : tco.H 9 4 p) : endsV [.var 2] (.bool true) (tcR (tco.sy 9 4 p h) tcX4 (tcS 9 (.int .i64 (.ofNat 9)))) = true := by kernel_rfl
theorem tc_e13_4 (p : Nat → Int) (h : tco.H 13 4 p) : endsV [.var 2] (.bool true) (tcR (tco.sy 13 4 p h) tcX4 (tcS 13 (.int .i64 (.ofNat 13)))) = true := by kernel_rfl
theorem tc_e17_4 (p : Nat → Int) (h : tco.H 17 4 p) : endsV [.var 2] (.bool true) (tcR (tco.sy 17 4 p h) tcX4 (tcS 17 (.int .i64 (.ofNat 17)))) = true := by kernel_rfl
theorem tc_e1_3 (p : Nat → Int) (h : tco.H 1 3 p) : endsV [.var 2] (.bool true) (tcR (tco.sy 1 3 p h) tcX4 (tcS 1 (.int .i64 (.ofNat 1)))) = true := by kernel_rfl
theorem tc_e4_3 (p : Nat → Int) (h : tco.H 4 3 p) : endsV [.var 2] (.bool true) (tcR (tco.sy 4 3 p h) tcX4 (tcS 4 (.int .i64 (.ofNat 4)))) = true := by kernel_rfl
theorem tc_e8_3 (p : Nat → Int) (h : tco.H 8 3 p) : endsV [.var 2] (.bool true) (tcR (tco.sy 8 3 p h) tcX4 (tcS 8 (.int .i64 (.ofNat 8)))) = true := by kernel_rfl
theorem tc_e12_3 (p : Nat → Int) (h : tco.H 12 3 p) : endsV [.var 2] (.bool true) (tcR (tco.sy 12 3 p h) tcX4 (tcS 12 (.int .i64 (.ofNat 12)))) = true := by kernel_rfl
theorem tc_e16_3 (p : Nat → Int) (h : tco.H 16 3 p) : endsV [.var 2] (.bool true) (tcR (tco.sy 16 3 p h) tcX4 (tcS 16 (.int .i64 (.ofNat 16)))) = true := by kernel_rfl
theorem tc_e0_2 (p : Nat → Int) (h : tco.H 0 2 p) : endsV [.var 2] (.bool true) (tcR (tco.sy 0 2 p h) tcX4 (tcS 0 (.int .i64 (.ofNat 0)))) = true := by kernel_rfl
theorem tc_e3_2 (p : Nat → Int) (h : tco.H 3 2 p) : endsV [.var 2] (.bool true) (tcR (tco.sy 3 2 p h) tcX4 (tcS 3 (.int .i64 (.ofNat 3)))) = true := by kernel_rfl
theorem tc_e7_2 (p : Nat → Int) (h : tco.H 7 2 p) : endsV [.var 2] (.bool true) (tcR (tco.sy 7 2 p h) tcX4 (tcS 7 (.int .i64 (.ofNat 7)))) = true := by kernel_rfl
theorem tc_e11_2 (p : Nat → Int) (h : tco.H 11 2 p) : endsV [.var 2] (.bool true) (tcR (tco.sy 11 2 p h) tcX4 (tcS 11 (.int .i64 (.ofNat 11)))) = true := by kernel_rfl
theorem tc_e15_2 (p : Nat → Int) (h : tco.H 15 2 p) : endsV [.var 2] (.bool true) (tcR (tco.sy 15 2 p h) tcX4 (tcS 15 (.int .i64 (.ofNat 15)))) = true := by kernel_rfl
theorem tc_e19_2 (p : Nat → Int) (h : tco.H 19 2 p) : endsV [.var 2] (.bool true) (tcR (tco.sy 19 2 p h) tcX4 (tcS 19 (.int .i64 (.ofNat 19)))) = true := by kernel_rfl
theorem tc_e5_1 (p : Nat → Int) (h : tco.H 5 1 p) : endsV [.var 2] (.bool true) (tcR (tco.sy 5 1 p h) tcX4 (tcS 5 (.int .i64 (.ofNat 5)))) = true := by kernel_rfl
theorem tc_e9_1 (p : Nat → Int) (h : tco.H 9 1 p) : endsV [.var 2] (.bool true) (tcR (tco.sy 9 1 p h) tcX4 (tcS 9 (.int .i64 (.ofNat 9)))) = true := by kernel_rfl
theorem tc_e13_1 (p : Nat → Int) (h : tco.H 13 1 p) : endsV [.var 2] (.bool true) (tcR (tco.sy 13 1 p h) tcX4 (tcS 13 (.int .i64 (.ofNat 13)))) = true := by kernel_rfl
theorem tc_e17_1 (p : Nat → Int) (h : tco.H 17 1 p) : endsV [.var 2] (.bool true) (tcR (tco.sy 17 1 p h) tcX4 (tcS 17 (.int .i64 (.ofNat 17)))) = true := by kernel_rfl
theorem tc_e1_0 (p : Nat → Int) (h : tco.H 1 0 p) : endsV [.var 2] (.bool true) (tcR (tco.sy 1 0 p h) tcX4 (tcS 1 (.int .i64 (.ofNat 1)))) = true := by kernel_rfl
theorem tc_e4_0 (p : Nat → Int) (h : tco.H 4 0 p) : endsV [.var 2] (.bool true) (tcR (tco.sy 4 0 p h) tcX4 (tcS 4 (.int .i64 (.ofNat 4)))) = true := by kernel_rfl
theorem tc_e8_0 (p : Nat → Int) (h : tco.H 8 0 p) : endsV [.var 2] (.bool true) (tcR (tco.sy 8 0 p h) tcX4 (tcS 8 (.int .i64 (.ofNat 8)))) = true := by kernel_rfl
theorem tc_e12_0 (p : Nat → Int) (h : tco.H 12 0 p) : endsV [.var 2] (.bool true) (tcR (tco.sy 12 0 p h) tcX4 (tcS 12 (.int .i64 (.ofNat 12)))) = true := by kernel_rfl
theorem tc_e16_0 (p : Nat → Int) (h : tco.H 16 0 p) : endsV [.var 2] (.bool true) (tcR (tco.sy 16 0 p h) tcX4 (tcS 16 (.int .i64 (.ofNat 16)))) = true := by kernel_rfl
theorem tc_one (a b : Int) (p : Nat → Int) (h : tco.H a b p) : endsN 2 .normal (tcS 0 (.chan (some 4))) (tcR (tco.sy a b p h) tcX2 (tcQ (.chan (some 4)))) = true := by kernel_rfl
theorem tc_k0 (b : Int) (p : Nat → Int) (h : tco.H 0 b p) : endsN 2 .normal (tcQ (.int .i64 (.ofNat 0))) (tcR (tco.sy 0 b p h) tcX1 tcP) = true := by kernel_rfl
theorem tc_k2 (b : Int) (p : Nat → Int) (h : tco.H 2 b p) : endsN 2 .normal (tcQ (.int .i64 (.ofNat 2))) (tcR (tco.sy 2 b p h) tcX1 tcP) = true := by kernel_rfl
theorem tc_k4 (b : Int) (p : Nat → Int) (h : tco.H 4 b p) : endsN 2 .normal (tcQ (.int .i64 (.ofNat 4))) (tcR (tco.sy 4 b p h) tcX1 tcP) = true := by kernel_rfl
theorem tc_k6 (b : Int) (p : Nat → Int) (h : tco.H 6 b p) : endsN 2 .normal (tcQ (.int .i64 (.ofNat 6))) (tcR (tco.sy 6 b p h) tcX1 tcP) = true := by kernel_rfl
theorem tc_k8 (b : Int) (p : Nat → Int) (h : tco.H 8 b p) : endsN 2 .normal (tcQ (.int .i64 (.ofNat 8))) (tcR (tco.sy 8 b p h) tcX1 tcP) = true := by kernel_rfl
theorem tc_k10 (b : Int) (p : Nat → Int) (h : tco.H 10 b p) : endsN 2 .normal (tcQ (.int .i64 (.ofNat 10))) (tcR (tco.sy 10 b p h) tcX1 tcP) = true := by kernel_rfl
theorem tc_k12 (b : Int) (p : Nat → Int) (h : tco.H 12 b p) : endsN 2 .normal (tcQ (.int .i64 (.ofNat 12))) (tcR (tco.sy 12 b p h) tcX1 tcP) = true := by kernel_rfl
theorem tc_k15 (b : Int) (p : Nat → Int) (h : tco.H 15 b p) : endsN 2 .normal (tcQ (.int .i64 (.ofNat 15))) (tcR (tco.sy 15 b p h) tcX1 tcP) = true := by kernel_rfl
theorem tc_k18 (b : Int) (p : Nat → Int) (h : tco.H 18 b p) : endsN 2 .normal (tcQ (.int .i64 (.ofNat 18))) (tcR (tco.sy 18 b p h) tcX1 tcP) = true := by kernel_rfl
end Go.Proofs.YtmpgfgemnhbkhaaGreatDoor
