/- Runs with symbols, part 2 (mkcells.py). -/
import Derived.Test.YtfdeipckfdogfaaGreatXsvlc
set_option maxRecDepth 100000
set_option linter.unusedVariables false
namespace Go.Proofs.YtfdeipckfdogfaaGreat
open Go Go.Eng
theorem vl_lo2_runtrue (p : Nat → Int) (h : vl_lo2.H p) : tells (.bool true) (@xcall (vl_lo2.sy p h) xtabS 300 xf3 [.agg #[.chan (some 0), .chan (some 1), .chan (some 2)], .chan (some 3), .bool true] .nil 0 1) = true := by kernel_rfl
theorem vl_hi2_runtrue (p : Nat → Int) (h : vl_hi2.H p) : tells (.bool true) (@xcall (vl_hi2.sy p h) xtabS 300 xf3 [.agg #[.chan (some 0), .chan (some 1), .chan (some 2)], .chan (some 3), .bool true] .nil 0 1) = true := by kernel_rfl
theorem vl_in3_runfalse (p : Nat → Int) (h : vl_in3.H p) : tells (.bool true) (@xcall (vl_in3.sy p h) xtabS 300 xf3 [.agg #[.chan (some 0), .chan (some 1), .chan (some 2)], .chan (some 3), .bool false] .nil 0 1) = true := by kernel_rfl
theorem vl_lo3_runfalse (p : Nat → Int) (h : vl_lo3.H p) : tells (.bool true) (@xcall (vl_lo3.sy p h) xtabS 300 xf3 [.agg #[.chan (some 0), .chan (some 1), .chan (some 2)], .chan (some 3), .bool false] .nil 0 1) = true := by kernel_rfl
theorem vl_hi3_runfalse (p : Nat → Int) (h : vl_hi3.H p) : tells (.bool true) (@xcall (vl_hi3.sy p h) xtabS 300 xf3 [.agg #[.chan (some 0), .chan (some 1), .chan (some 2)], .chan (some 3), .bool false] .nil 0 1) = true := by kernel_rfl
theorem vl_in3_runtrue (p : Nat → Int) (h : vl_in3.H p) : tells (.bool true) (@xcall (vl_in3.sy p h) xtabS 300 xf3 [.agg #[.chan (some 0), .chan (some 1), .chan (some 2)], .chan (some 3), .bool true] .nil 0 1) = true := by kernel_rfl
theorem vl_lo3_runtrue (p : Nat → Int) (h : vl_lo3.H p) : tells (.bool true) (@xcall (vl_lo3.sy p h) xtabS 300 xf3 [.agg #[.chan (some 0), .chan (some 1), .chan (some 2)], .chan (some 3), .bool true] .nil 0 1) = true := by kernel_rfl
theorem vl_hi3_runtrue (p : Nat → Int) (h : vl_hi3.H p) : tells (.bool true) (@xcall (vl_hi3.sy p h) xtabS 300 xf3 [.agg #[.chan (some 0), .chan (some 1), .chan (some 2)], .chan (some 3), .bool true] .nil 0 1) = true := by kernel_rfl
end Go.Proofs.YtfdeipckfdogfaaGreat
