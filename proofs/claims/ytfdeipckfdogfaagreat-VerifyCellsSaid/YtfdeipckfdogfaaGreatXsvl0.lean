/- Runs with symbols, part 0 (mkcells.py). -/
import Derived.Test.YtfdeipckfdogfaaGreatXsvlc
set_option maxRecDepth 100000
set_option linter.unusedVariables false
namespace Go.Proofs.YtfdeipckfdogfaaGreat
open Go Go.Eng
theorem vl_in0_runfalse (p : Nat → Int) (h : vl_in0.H p) : tells (.bool true) (@xcall (vl_in0.sy p h) xtabS 300 xf3 [.agg #[.chan (some 0), .chan (some 1), .chan (some 2)], .chan (some 3), .bool false] .nil 0 1) = true := by kernel_rfl
theorem vl_lo0_runfalse (p : Nat → Int) (h : vl_lo0.H p) : tells (.bool true) (@xcall (vl_lo0.sy p h) xtabS 300 xf3 [.agg #[.chan (some 0), .chan (some 1), .chan (some 2)], .chan (some 3), .bool false] .nil 0 1) = true := by kernel_rfl
theorem vl_hi0_runfalse (p : Nat → Int) (h : vl_hi0.H p) : tells (.bool true) (@xcall (vl_hi0.sy p h) xtabS 300 xf3 [.agg #[.chan (some 0), .chan (some 1), .chan (some 2)], .chan (some 3), .bool false] .nil 0 1) = true := by kernel_rfl
theorem vl_in0_runtrue (p : Nat → Int) (h : vl_in0.H p) : tells (.bool true) (@xcall (vl_in0.sy p h) xtabS 300 xf3 [.agg #[.chan (some 0), .chan (some 1), .chan (some 2)], .chan (some 3), .bool true] .nil 0 1) = true := by kernel_rfl
theorem vl_lo0_runtrue (p : Nat → Int) (h : vl_lo0.H p) : tells (.bool true) (@xcall (vl_lo0.sy p h) xtabS 300 xf3 [.agg #[.chan (some 0), .chan (some 1), .chan (some 2)], .chan (some 3), .bool true] .nil 0 1) = true := by kernel_rfl
theorem vl_hi0_runtrue (p : Nat → Int) (h : vl_hi0.H p) : tells (.bool true) (@xcall (vl_hi0.sy p h) xtabS 300 xf3 [.agg #[.chan (some 0), .chan (some 1), .chan (some 2)], .chan (some 3), .bool true] .nil 0 1) = true := by kernel_rfl
theorem vl_in1_runfalse (p : Nat → Int) (h : vl_in1.H p) : tells (.bool true) (@xcall (vl_in1.sy p h) xtabS 300 xf3 [.agg #[.chan (some 0), .chan (some 1), .chan (some 2)], .chan (some 3), .bool false] .nil 0 1) = true := by kernel_rfl
theorem vl_lo1_runfalse (p : Nat → Int) (h : vl_lo1.H p) : tells (.bool true) (@xcall (vl_lo1.sy p h) xtabS 300 xf3 [.agg #[.chan (some 0), .chan (some 1), .chan (some 2)], .chan (some 3), .bool false] .nil 0 1) = true := by kernel_rfl
end Go.Proofs.YtfdeipckfdogfaaGreat
