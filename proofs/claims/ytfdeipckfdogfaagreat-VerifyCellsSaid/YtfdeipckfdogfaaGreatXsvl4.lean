/- Runs with symbols, part 4 (mkcells.py). -/
import Derived.Test.YtfdeipckfdogfaaGreatXsvlc
set_option maxRecDepth 100000
set_option linter.unusedVariables false
namespace Go.Proofs.YtfdeipckfdogfaaGreat
open Go Go.Eng
theorem vl_hi5_runfalse (p : Nat → Int) (h : vl_hi5.H p) : tells (.bool true) (@xcall (vl_hi5.sy p h) xtabS 300 xf3 [.agg #[.chan (some 0), .chan (some 1), .chan (some 2)], .chan (some 3), .bool false] .nil 0 1) = true := by kernel_rfl
theorem vl_in5_runtrue (p : Nat → Int) (h : vl_in5.H p) : tells (.bool true) (@xcall (vl_in5.sy p h) xtabS 300 xf3 [.agg #[.chan (some 0), .chan (some 1), .chan (some 2)], .chan (some 3), .bool true] .nil 0 1) = true := by kernel_rfl
theorem vl_lo5_runtrue (p : Nat → Int) (h : vl_lo5.H p) : tells (.bool true) (@xcall (vl_lo5.sy p h) xtabS 300 xf3 [.agg #[.chan (some 0), .chan (some 1), .chan (some 2)], .chan (some 3), .bool true] .nil 0 1) = true := by kernel_rfl
theorem vl_hi5_runtrue (p : Nat → Int) (h : vl_hi5.H p) : tells (.bool true) (@xcall (vl_hi5.sy p h) xtabS 300 xf3 [.agg #[.chan (some 0), .chan (some 1), .chan (some 2)], .chan (some 3), .bool true] .nil 0 1) = true := by kernel_rfl
theorem vl_in6_runfalse (p : Nat → Int) (h : vl_in6.H p) : tells (.bool true) (@xcall (vl_in6.sy p h) xtabS 300 xf3 [.agg #[.chan (some 0), .chan (some 1), .chan (some 2)], .chan (some 3), .bool false] .nil 0 1) = true := by kernel_rfl
theorem vl_lo6_runfalse (p : Nat → Int) (h : vl_lo6.H p) : tells (.bool true) (@xcall (vl_lo6.sy p h) xtabS 300 xf3 [.agg #[.chan (some 0), .chan (some 1), .chan (some 2)], .chan (some 3), .bool false] .nil 0 1) = true := by kernel_rfl
theorem vl_hi6_runfalse (p : Nat → Int) (h : vl_hi6.H p) : tells (.bool true) (@xcall (vl_hi6.sy p h) xtabS 300 xf3 [.agg #[.chan (some 0), .chan (some 1), .chan (some 2)], .chan (some 3), .bool false] .nil 0 1) = true := by kernel_rfl
theorem vl_in6_runtrue (p : Nat → Int) (h : vl_in6.H p) : tells (.bool true) (@xcall (vl_in6.sy p h) xtabS 300 xf3 [.agg #[.chan (some 0), .chan (some 1), .chan (some 2)], .chan (some 3), .bool true] .nil 0 1) = true := by kernel_rfl
end Go.Proofs.YtfdeipckfdogfaaGreat
