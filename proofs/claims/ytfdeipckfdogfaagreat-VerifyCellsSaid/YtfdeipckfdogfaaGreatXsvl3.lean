/- Runs with symbols, part 3 (mkcells.py). -/
import Derived.Test.YtfdeipckfdogfaaGreatXsvlc
set_option maxRecDepth 100000
set_option linter.unusedVariables false
namespace Go.Proofs.YtfdeipckfdogfaaGreat
open Go Go.Eng
theorem vl_in4_runfalse (p : Nat → Int) (h : vl_in4.H p) : tells (.bool true) (@xcall (vl_in4.sy p h) xtabS 300 xf3 [.agg #[.chan (some 0), .chan (some 1), .chan (some 2)], .chan (some 3), .bool false] .nil 0 1) = true := by kernel_rfl
theorem vl_lo4_runfalse (p : Nat → Int) (h : vl_lo4.H p) : tells (.bool true) (@xcall (vl_lo4.sy p h) xtabS 300 xf3 [.agg #[.chan (some 0), .chan (some 1), .chan (some 2)], .chan (some 3), .bool false] .nil 0 1) = true := by kernel_rfl
theorem vl_hi4_runfalse (p : Nat → Int) (h : vl_hi4.H p) : tells (.bool true) (@xcall (vl_hi4.sy p h) xtabS 300 xf3 [.agg #[.chan (some 0), .chan (some 1), .chan (some 2)], .chan (some 3), .bool false] .nil 0 1) = true := by kernel_rfl
theorem vl_in4_runtrue (p : Nat → Int) (h : vl_in4.H p) : tells (.bool true) (@xcall (vl_in4.sy p h) xtabS 300 xf3 [.agg #[.chan (some 0), .chan (some 1), .chan (some 2)], .chan (some 3), .bool true] .nil 0 1) = true := by kernel_rfl
theorem vl_lo4_runtrue (p : Nat → Int) (h : vl_lo4.H p) : tells (.bool true) (@xcall (vl_lo4.sy p h) xtabS 300 xf3 [.agg #[.chan (some 0), .chan (some 1), .chan (some 2)], .chan (some 3), .bool true] .nil 0 1) = true := by kernel_rfl
theorem vl_hi4_runtrue (p : Nat → Int) (h : vl_hi4.H p) : tells (.bool true) (@xcall (vl_hi4.sy p h) xtabS 300 xf3 [.agg #[.chan (some 0), .chan (some 1), .chan (some 2)], .chan (some 3), .bool true] .nil 0 1) = true := by kernel_rfl
theorem vl_in5_runfalse (p : Nat → Int) (h : vl_in5.H p) : tells (.bool true) (@xcall (vl_in5.sy p h) xtabS 300 xf3 [.agg #[.chan (some 0), .chan (some 1), .chan (some 2)], .chan (some 3), .bool false] .nil 0 1) = true := by kernel_rfl
theorem vl_lo5_runfalse (p : Nat → Int) (h : vl_lo5.H p) : tells (.bool true) (@xcall (vl_lo5.sy p h) xtabS 300 xf3 [.agg #[.chan (some 0), .chan (some 1), .chan (some 2)], .chan (some 3), .bool false] .nil 0 1) = true := by kernel_rfl
end Go.Proofs.YtfdeipckfdogfaaGreat
