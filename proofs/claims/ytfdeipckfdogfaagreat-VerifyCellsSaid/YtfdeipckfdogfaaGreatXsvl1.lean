/- Runs with symbols, part 1 (mkcells.py). -/
import Derived.Test.YtfdeipckfdogfaaGreatXsvlc
set_option maxRecDepth 100000
set_option linter.unusedVariables false
namespace Go.Proofs.YtfdeipckfdogfaaGreat
open Go Go.Eng
theorem vl_hi1_runfalse (p : Nat → Int) (h : vl_hi1.H p) : tells (.bool true) (@xcall (vl_hi1.sy p h) xtabS 300 xf3 [.agg #[.chan (some 0), .chan (some 1), .chan (some 2)], .chan (some 3), .bool false] .nil 0 1) = true := by kernel_rfl
theorem vl_in1_runtrue (p : Nat → Int) (h : vl_in1.H p) : tells (.bool true) (@xcall (vl_in1.sy p h) xtabS 300 xf3 [.agg #[.chan (some 0), .chan (some 1), .chan (some 2)], .chan (some 3), .bool true] .nil 0 1) = true := by kernel_rfl
theorem vl_lo1_runtrue (p : Nat → Int) (h : vl_lo1.H p) : tells (.bool true) (@xcall (vl_lo1.sy p h) xtabS 300 xf3 [.agg #[.chan (some 0), .chan (some 1), .chan (some 2)], .chan (some 3), .bool true] .nil 0 1) = true := by kernel_rfl
theorem vl_hi1_runtrue (p : Nat → Int) (h : vl_hi1.H p) : tells (.bool true) (@xcall (vl_hi1.sy p h) xtabS 300 xf3 [.agg #[.chan (some 0), .chan (some 1), .chan (some 2)], .chan (some 3), .bool true] .nil 0 1) = true := by kernel_rfl
theorem vl_in2_runfalse (p : Nat → Int) (h : vl_in2.H p) : tells (.bool true) (@xcall (vl_in2.sy p h) xtabS 300 xf3 [.agg #[.chan (some 0), .chan (some 1), .chan (some 2)], .chan (some 3), .bool false] .nil 0 1) = true := by kernel_rfl
theorem vl_lo2_runfalse (p : Nat → Int) (h : vl_lo2.H p) : tells (.bool true) (@xcall (vl_lo2.sy p h) xtabS 300 xf3 [.agg #[.chan (some 0), .chan (some 1), .chan (some 2)], .chan (some 3), .bool false] .nil 0 1) = true := by kernel_rfl
theorem vl_hi2_runfalse (p : Nat → Int) (h : vl_hi2.H p) : tells (.bool true) (@xcall (vl_hi2.sy p h) xtabS 300 xf3 [.agg #[.chan (some 0), .chan (some 1), .chan (some 2)], .chan (some 3), .bool false] .nil 0 1) = true := by kernel_rfl
theorem vl_in2_runtrue (p : Nat → Int) (h : vl_in2.H p) : tells (.bool true) (@xcall (vl_in2.sy p h) xtabS 300 xf3 [.agg #[.chan (some 0), .chan (some 1), .chan (some 2)], .chan (some 3), .bool true] .nil 0 1) = true := by kernel_rfl
end Go.Proofs.YtfdeipckfdogfaaGreat
