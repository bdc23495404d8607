/- Runs with symbols, part 5 (mkcells.py). -/
import Derived.Test.YtfdeipckfdogfaaGreatXsvlc
set_option maxRecDepth 100000
set_option linter.unusedVariables false
namespace Go.Proofs.YtfdeipckfdogfaaGreat
open Go Go.Eng
theorem vl_lo6_runtrue (p : Nat → Int) (h : vl_lo6.H p) : tells (.bool true) (@xcall (vl_lo6.sy p h) xtabS 300 xf3 [.agg #[.chan (some 0), .chan (some 1), .chan (some 2)], .chan (some 3), .bool true] .nil 0 1) = true := by kernel_rfl
theorem vl_hi6_runtrue (p : Nat → Int) (h : vl_hi6.H p) : tells (.bool true) (@xcall (vl_hi6.sy p h) xtabS 300 xf3 [.agg #[.chan (some 0), .chan (some 1), .chan (some 2)], .chan (some 3), .bool true] .nil 0 1) = true := by kernel_rfl
theorem vl_in7_runfalse (p : Nat → Int) (h : vl_in7.H p) : tells (.bool true) (@xcall (vl_in7.sy p h) xtabS 300 xf3 [.agg #[.chan (some 0), .chan (some 1), .chan (some 2)], .chan (some 3), .bool false] .nil 0 1) = true := by kernel_rfl
theorem vl_lo7_runfalse (p : Nat → Int) (h : vl_lo7.H p) : tells (.bool true) (@xcall (vl_lo7.sy p h) xtabS 300 xf3 [.agg #[.chan (some 0), .chan (some 1), .chan (some 2)], .chan (some 3), .bool false] .nil 0 1) = true := by kernel_rfl
theorem vl_hi7_runfalse (p : Nat → Int) (h : vl_hi7.H p) : tells (.bool true) (@xcall (vl_hi7.sy p h) xtabS 300 xf3 [.agg #[.chan (some 0), .chan (some 1), .chan (some 2)], .chan (some 3), .bool false] .nil 0 1) = true := by kernel_rfl
theorem vl_in7_runtrue (p : Nat → Int) (h : vl_in7.H p) : tells (.bool true) (@xcall (vl_in7.sy p h) xtabS 300 xf3 [.agg #[.chan (some 0), .chan (some 1), .chan (some 2)], .chan (some 3), .bool true] .nil 0 1) = true := by kernel_rfl
theorem vl_lo7_runtrue (p : Nat → Int) (h : vl_lo7.H p) : tells (.bool true) (@xcall (vl_lo7.sy p h) xtabS 300 xf3 [.agg #[.chan (some 0), .chan (some 1), .chan (some 2)], .chan (some 3), .bool true] .nil 0 1) = true := by kernel_rfl
theorem vl_hi7_runtrue (p : Nat → Int) (h : vl_hi7.H p) : tells (.bool true) (@xcall (vl_hi7.sy p h) xtabS 300 xf3 [.agg #[.chan (some 0), .chan (some 1), .chan (some 2)], .chan (some 3), .bool true] .nil 0 1) = true := by kernel_rfl
end Go.Proofs.YtfdeipckfdogfaaGreat
