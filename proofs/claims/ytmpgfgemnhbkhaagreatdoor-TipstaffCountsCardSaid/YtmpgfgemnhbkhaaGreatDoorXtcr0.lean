/- TipstaffCounts: runs, part 0 (mktcs.py). -/
import Derived.Test.YtmpgfgemnhbkhaaGreatDoorXtcc
set_option maxRecDepth 100000
set_option linter.unusedVariables false
namespace Go.Proofs.YtmpgfgemnhbkhaaGreatDoor
open Go Go.Eng
theorem tc_pre (a b : Int) (p : Nat → Int) (h : tco.H a b p) : endsN 2 .normal tcP (tcR (tco.sy a b p h) tcX0 ⟨xf4.V.map fun t => (nth [.chan (some 0), .chan (some 1)] t).getD undef, hG, 2, 1⟩) = true := by kernel_rfl
theorem tc_e9_11 (p : Nat → Int) (h : tco.H 9 11 p) : endsV [.var 2] (.bool true) (tcR (tco.sy 9 11 p h) tcX4 (tcS 9 (.int .i64 (.ofNat 9)))) = true := by kernel_rfl
theorem tc_e13_11 (p : Nat → Int) (h : tco.H 13 11 p) : endsV [.var 2] (.bool true) (tcR (tco.sy 13 11 p h) tcX4 (tcS 13 (.int .i64 (.ofNat 13)))) = true := by kernel_rfl
theorem tc_e17_11 (p : Nat → Int) (h : tco.H 17 11 p) : endsV [.var 2] (.bool true) (tcR (tco.sy 17 11 p h) tcX4 (tcS 17 (.int .i64 (.ofNat 17)))) = true := by kernel_rfl
theorem tc_e1_10 (p : Nat → Int) (h : tco.H 1 10 p) : endsV [.var 2] (.bool true) (tcR (tco.sy 1 10 p h) tcX4 (tcS 1 (.int .i64 (.ofNat 1)))) = true := by kernel_rfl
theorem tc_e5_10 (p : Nat → Int) (h : tco.H 5 10 p) : endsV [.var 2] (.bool true) (tcR (tco.sy 5 10 p h) tcX4 (tcS 5 (.int .i64 (.ofNat 5)))) = true := by kernel_rfl
theorem tc_e9_10 (p : Nat → Int) (h : tco.H 9 10 p) : endsV [.var 2] (.bool true) (tcR (tco.sy 9 10 p h) tcX4 (tcS 9 (.int .i64 (.ofNat 9)))) = true := by kernel_rfl
theorem tc_e13_10 (p : Nat → Int) (h : tco.H 13 10 p) : endsV [.var 2] (.bool true) (tcR (tco.sy 13 10 p h) tcX4 (tcS 13 (.int .i64 (.ofNat 13)))) = true := by kernel_rfl
theorem tc_e17_10 (p : Nat → Int) (h : tco.H 17 10 p) : endsV [.var 2] (.bool true) (tcR (tco.sy 17 10 p h) tcX4 (tcS 17 (.int .i64 (.ofNat 17)))) = true := by kernel_rfl
theorem tc_e1_9 (p : Nat → Int) (h : tco.H 1 9 p) : endsV [.var 2] (.bool true) (tcR (tco.sy 1 9 p h) tcX4 (tcS 1 (.int .i64 (.ofNat 1)))) = true := by kernel_rfl
theorem tc_e5_9 (p : Nat → Int) (h : tco.H 5 9 p) : endsV [.var 2] (.bool true) (tcR (tco.sy 5 9 p h) tcX4 (tcS 5 (.int .i64 (.ofNat 5)))) = true := by kernel_rfl
theorem tc_e9_9 (p : Nat → Int) (h : tco.H 9 9 p) : endsV [.var 2] (.bool true) (tcR (tco.sy 9 9 p h) tcX4 (tcS 9 (.int .i64 (.ofNat 9)))) = true := by kernel_rfl
theorem tc_e13_9 (p : Nat → Int) (h : tco.H 13 9 p) : endsV [.var 2] (.bool true) (tcR (tco.sy 13 9 p h) tcX4 (tcS 13 (.int .i64 (.ofNat 13)))) = true := by kernel_rfl
theorem tc_e17_9 (p : Nat → Int) (h : tco.H 17 9 p) : endsV [.var 2] (.bool true) (tcR (tco.sy 17 9 p h) tcX4 (tcS 17 (.int .i64 (.ofNat 17)))) = true := by kernel_rfl
theorem tc_e1_8 (p : Nat → Int) (h : tco.H 1 8 p) : endsV [.var 2] (.bool true) (tcR (tco.sy 1 8 p h) tcX4 (tcS 1 (.int .i64 (.ofNat 1)))) = true := by kernel_rfl
theorem tc_e5_8 (p : Nat → Int) (h : tco.H 5 8 p) : endsV [.var 2] (.bool true) (tcR (tco.sy 5 8 p h) tcX4 (tcS 5 (.int .i64 (.ofNat 5)))) = true := by kernel_rfl
theorem tc_e9_8 (p : Nat → Int) (h : tco.H 9 8 p) : endsV [.var 2] (.bool true) (tcR (tco.sy 9 8 p h) tcX4 (tcS 9 (.int .i64 (.ofNat 9)))) = true := by kernel_rfl
theorem tc_e13_8 (p : Nat → Int) (h : tco.H 13 8 p) : endsV [.var 2] (.bool true) (tcR (tco.sy 13 8 p h) tcX4 (tcS 13 (.int .i64 (.ofNat 13)))) = true := by kernel_rfl
theorem tc_e17_8 (p : Nat → Int) (h : tco.H 17 8 p) : endsV [.var 2] (.bool true) (tcR (tco.sy 17 8 p h) tcX4 (tcS 17 (.int .i64 (.ofNat 17)))) = true := by kernel_rfl
theorem tc_r1 (a b : Int) (p : Nat → Int) (h : tco.H a b p) : endsN 2 .normal (tcS 2 (.chan (some 4))) (tcR (tco.sy a b p h) tcX3 (tcS 1 (.chan (some 4)))) = true := by kernel_rfl
theorem tc_r5 (a b : Int) (p : Nat → Int) (h : tco.H a b p) : endsN 2 .normal (tcS 6 (.chan (some 4))) (tcR (tco.sy a b p h) tcX3 (tcS 5 (.chan (some 4)))) = true := by kernel_rfl
theorem tc_r9 (a b : Int) (p : Nat → Int) (h : tco.H a b p) : endsN 2 .normal (tcS 10 (.chan (some 4))) (tcR (tco.sy a b p h) tcX3 (tcS 9 (.chan (some 4)))) = true := by kernel_rfl
theorem tc_r13 (a b : Int) (p : Nat → Int) (h : tco.H a b p) : endsN 2 .normal (tcS 14 (.chan (some 4))) (tcR (tco.sy a b p h) tcX3 (tcS 13 (.chan (some 4)))) = true := by kernel_rfl
theorem tc_r17 (a b : Int) (p : Nat → Int) (h : tco.H a b p) : endsN 2 .normal (tcS 18 (.chan (some 4))) (tcR (tco.sy a b p h) tcX3 (tcS 17 (.chan (some 4)))) = true := by kernel_rfl
theorem tc_e2_7 (p : Nat → Int) (h : tco.H 2 7 p) : endsV [.var 2] (.bool true) (tcR (tco.sy 2 7 p h) tcX4 (tcS 2 (.int .i64 (.ofNat 2)))) = true := by kernel_rfl
theorem tc_e6_7 (p : Nat → Int) (h : tco.H 6 7 p) : endsV [.var 2] (.bool true) (tcR (tco.sy 6 7 p h) tcX4 (tcS 6 (.int .i64 (.ofNat 6)))) = true := by kernel_rfl
theorem tc_e10_7 (p : Nat → Int) (h : tco.H 10 7 p) : endsV [.var 2] (.bool true) (tcR (tco.sy 10 7 p h) tcX4 (tcS 10 (.int .i64 (.ofNat 10)))) = true := by kernel_rfl
theorem tc_e14_7 (p : Nat → Int) (h : tco.H 14 7 p) : endsV [.var 2] (.bool true) (tcR (tco.sy 14 7 p h) tcX4 (tcS 14 (.int .i64 (.ofNat 14)))) = true := by kernel_rfl
theorem tc_e18_7 (p : Nat → Int) (h : tco.H 18 7 p) : endsV [.var 2] (.bool true) (tcR (tco.sy 18 7 p h) tcX4 (tcS 18 (.int .i64 (.ofNat 18)))) = true := by kernel_rfl
theorem tc_e2_6 (p : Nat → Int) (h : tco.H 2 6 p) : endsV [.var 2] (.bool true) (tcR (tco.sy 2 6 p h) tcX4 (tcS 2 (.int .i64 (.ofNat 2)))) = true := by kernel_rfl
theorem tc_e6_6 (p : Nat → Int) (h : tco.H 6 6 p) : endsV [.var 2] (.bool true) (tcR (tco.sy 6 6 p h) tcX4 (tcS 6 (.int .i64 (.ofNat 6)))) = true := by kernel_rfl
theorem tc_e10_6 (p : Nat → Int) (h : tco.H 10 6 p) : endsV [.var 2] (.bool true) (tcR (tco.sy 10 6 p h) tcX4 (tcS 10 (.int .i64 (.ofNat 10)))) = true := by kernel_rfl
theorem tc_e14_6 (p : Nat → Int) (h : tco.H 14 6 p) : endsV [.var 2] (.bool true) (tcR (tco.sy 14 6 p h) tcX4 (tcS 14 (.int .i64 (.ofNat 14)))) = true := by kernel_rfl
theorem tc_e18_6 (p : Nat → Int) (h : tco.H 18 6 p) : endsV [.var 2] (.bool true) (tcR (tco.sy 18 6 p h) tcX4 (tcS 18 (.int .i64 (.ofNat 18)))) = true := by kernel_rfl
theorem tc_e2_5 (p : Nat → Int) (h : tco.H 2 5 p) : endsV [.var 2] (.bool true) (tcR (tco.sy 2 5 p h) tcX4 (tcS 2 (.int .i64 (.ofNat 2)))) = true := by kernel_rfl
theorem tc_e6_5 (p : Nat → Int) (h : tco.H 6 5 p) : endsV [.var 2] (.bool true) (tcR (tco.sy 6 5 p h) tcX4 (tcS 6 (.int .i64 (.ofNat 6)))) = true := by kernel_rfl
theorem tc_e10_5 (p : Nat → Int) (h : tco.H 10 5 p) : endsV [.var 2] (.bool true) (tcR (tco.sy 10 5 p h) tcX4 (tcS 10 (.int .i64 (.ofNat 10)))) = true := by kernel_rfl
theorem tc_e14_5 (p : Nat → Int) (h : tco.H 14 5 p) : endsV [.var 2] (.bool true) (tcR (tco.sy 14 5 p h) tcX4 (tcS 14 (.int .i64 (.ofNat 14)))) = true := by kernel_rfl
theorem tc_e18_5 (p : Nat → Int) (h : tco.H 18 5 p) : endsV [.var 2] (.bool true) (tcR (tco.sy 18 5 p h) tcX4 (tcS 18 (.int .i64 (.ofNat 18)))) = true := by kernel_rfl
theorem tc_e2_4 (p : Nat → Int) (h : tco.H 2 4 p) : endsV [.var 2] (.bool true) (tcR (tco.sy 2 4 p h) tcX4 (tcS 2 (.int .i64 (.ofNat 2)))) = true := by kernel_rfl
theorem tc_e6_4 (p : Nat → Int) (h : tco.H 6 4 p) : endsV [.var 2] (.bool true) (tcR (tco.sy 6 4 p h) tcX4 (tcS 6 (.int .i64 (.ofNat 6)))) = true := by kernel_rfl
theorem tc_e10_4 (p : Nat → Int) (h : tco.H 10 4 p) : endsV [.var 2] (.bool true) (tcR (tco.sy 10 4 p h) tcX4 (tcS 10 (.int .i64 (.ofNat 10)))) = true := by kernel_rfl
theorem tc_e14_4 (p : Nat → Int) (h : tco.H 14 4 p) : endsV [.var 2] (.bool true) (tcR (tco.sy 14 4 p h) tcX4 (tcS 14 (.int .i64 (.ofNat 14)))) = true := by kernel_rfl
theorem tc_e18_4 (p : Nat → Int) (h : tco.H 18 4 p) : endsV [.var 2] (.bool true) (tcR (tco.sy 18 4 p h) tcX4 (tcS 18 (.int .i64 (.ofNat 18)))) = true := by kernel_rfl
theorem tc_e2_3 (p : Nat → Int) (h : tco.H 2 3 p) : endsV [.var 2] (.bool true) (tcR (tco.sy 2 3 p h) tcX4 (tcS 2 (.int .i64 (.ofNat 2)))) = true := by kernel_rfl
theorem tc_e6_3 (p : Nat → Int) (h : tco.H 6 3 p) : endsV [.var 2] (.bool true) (tcR (tco.sy 6 3 p h) tcX4 (tcS 6 (.int .i64 (.ofNat 6)))) = true := by kernel_rfl
theorem tc_e10_3 (p : Nat → Int) (h : tco.H 10 3 p) : endsV [.var 2] (.bool true) (tcR (tco.sy 10 3 p h) tcX4 (tcS 10 (.int .i64 (.ofNat 10)))) = true := by kernel_rfl
theorem tc_e14_3 (p : Nat → Int) (h : tco.H 14 3 p) : endsV [.var 2] (.bool true) (tcR (tco.sy 14 3 p h) tcX4 (tcS 14 (.int .i64 (.ofNat 14)))) = true := by kernel_rfl
theorem tc_e18_3 (p : Nat → Int) (h : tco.H 18 3 p) : endsV [.var 2] (.bool true) (tcR (tco.sy 18 3 p h) tcX4 (tcS 18 (.int .i64 (.ofNat 18)))) = true := by kernel_rfl
theorem tc_e2_2 (p : Nat → Int) (h : tco.H 2 2 p) : endsV [.var 2] (.bool true) (tcR (tco.sy 2 2 p h) tcX4 (tcS 2 (.int .i64 (.ofNat 2)))) = true := by kernel_rfl
theorem tc_e6_2 (p : Nat → Int) (h : tco.H 6 2 p) : endsV [.var 2] (.bool true) (tcR (tco.sy 6 2 p h) tcX4 (tcS 6 (.int .i64 (.ofNat 6)))) = true := by kernel_rfl
theorem tc_e10_2 (p : Nat → Int) (h : tco.H 10 2 p) : endsV [.var 2] (.bool true) (tcR (tco.sy 10 2 p h) tcX4 (tcS 10 (.int .i64 (.ofNat 10)))) = true := by kernel_rfl
theorem tc_e14_2 (p : Nat → Int) (h : tco.H 14 2 p) : endsV [.var 2] (.bool true) (tcR (tco.sy 14 2 p h) tcX4 (tcS 14 (.int .i64 (.ofNat 14)))) = true := by kernel_rfl
theorem tc_e18_2 (p : Nat → Int) (h : tco.H 18 2 p) : endsV [.var 2] (.bool true) (tcR (tco.sy 18 2 p h) tcX4 (tcS 18 (.int .i64 (.ofNat 18)))) = true := by kernel_rfl
theorem tc_e2_1 (p : Nat → Int) (h : tco.H 2 1 p) : endsV [.var 2] (.bool true) (tcR (tco.sy 2 1 p h) tcX4 (tcS 2 (.int .i64 (.ofNat 2)))) = true := by kernel_rfl
theorem tc_e6_1 (p : Nat → Int) (h : tco.H 6 1 p) : endsV [.var 2] (.bool true) (tcR (tco.sy 6 1 p h) tcX4 (tcS 6 (.int .i64 (.ofNat 6)))) = true := by kernel_rfl
theorem tc_e10_1 (p : Nat → Int) (h : tco.H 10 1 p) : endsV [.var 2] (.bool true) (tcR (tco.sy 10 1 p h) tcX4 (tcS 10 (.int .i64 (.ofNat 10)))) = true := by kernel_rfl
theorem tc_e14_1 (p : Nat → Int) (h : tco.H 14 1 p) : endsV [.var 2] (.bool true) (tcR (tco.sy 14 1 p h) tcX4 (tcS 14 (.int .i64 (.ofNat 14)))) = true := by kernel_rfl
theorem tc_e18_1 (p : Nat → Int) (h : tco.H 18 1 p) : endsV [.var 2] (.bool true) (tcR (tco.sy 18 1 p h) tcX4 (tcS 18 (.int .i64 (.ofNat 18)))) = true := by kernel_rfl
theorem tc_e2_0 (p : Nat → Int) (h : tco.H 2 0 p) : endsV [.var 2] (.bool true) (tcR (tco.sy 2 0 p h) tcX4 (tcS 2 (.int .i64 (.ofNat 2)))) = true := by kernel_rfl
theorem tc_e6_0 (p : Nat → Int) (h : tco.H 6 0 p) : endsV [.var 2] (.bool true) (tcR (tco.sy 6 0 p h) tcX4 (tcS 6 (.int .i64 (.ofNat 6)))) = true := by kernel_rfl
theorem tc_e10_0 (p : Nat → Int) (h : tco.H 10 0 p) : endsV [.var 2] (.bool true) (tcR (tco.sy 10 0 p h) tcX4 (tcS 10 (.int .i64 (.ofNat 10)))) = true := by kernel_rfl
theorem tc_e14_0 (p : Nat → Int) (h : tco.H 14 0 p) : endsV [.var 2] (.bool true) (tcR (tco.sy 14 0 p h) tcX4 (tcS 14 (.int .i64 (.ofNat 14)))) = true := by kernel_rfl
theorem tc_e18_0 (p : Nat → Int) (h : tco.H 18 0 p) : endsV [.var 2] (.bool true) (tcR (tco.sy 18 0 p h) tcX4 (tcS 18 (.int .i64 (.ofNat 18)))) = true := by kernel_rfl
theorem tc_k13 (b : Int) (p : Nat → Int) (h : tco.H 13 b p) : endsN 2 .normal (tcQ (.int .i64 (.ofNat 13))) (tcR (tco.sy 13 b p h) tcX1 tcP) = true := by kernel_rfl
theorem tc_k16 (b : Int) (p : Nat → Int) (h : tco.H 16 b p) : endsN 2 .normal (tcQ (.int .i64 (.ofNat 16))) (tcR (tco.sy 16 b p h) tcX1 tcP) = true := by kernel_rfl
theorem tc_k19 (b : Int) (p : Nat → Int) (h : tco.H 19 b p) : endsN 2 .normal (tcQ (.int .i64 (.ofNat 19))) (tcR (tco.sy 19 b p h) tcX1 tcP) = true := by kernel_rfl
end Go.Proofs.YtmpgfgemnhbkhaaGreatDoor
