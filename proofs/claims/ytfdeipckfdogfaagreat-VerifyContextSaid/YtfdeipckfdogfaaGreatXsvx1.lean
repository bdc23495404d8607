/- Runs with symbols, part 1 (mkcells.py). -/
import Derived.Test.YtfdeipckfdogfaaGreatXsvxc
set_option maxRecDepth 100000
set_option linter.unusedVariables false
namespace Go.Proofs.YtfdeipckfdogfaaGreat
open Go Go.Eng
theorem vx_in2_run (p : Nat → Int) (h : vx_in2.H p) : tells (.bool true) (@xcall (vx_in2.sy p h) xtabS 300 xf10 [.chan (some 0), .chan (some 1), .chan (some 2)] .nil 0 1) = true := by kernel_rfl
theorem vx_lo2_run (p : Nat → Int) (h : vx_lo2.H p) : tells (.bool true) (@xcall (vx_lo2.sy p h) xtabS 300 xf10 [.chan (some 0), .chan (some 1), .chan (some 2)] .nil 0 1) = true := by kernel_rfl
theorem vx_hi2_run (p : Nat → Int) (h : vx_hi2.H p) : tells (.bool true) (@xcall (vx_hi2.sy p h) xtabS 300 xf10 [.chan (some 0), .chan (some 1), .chan (some 2)] .nil 0 1) = true := by kernel_rfl
theorem vx_in3_run (p : Nat → Int) (h : vx_in3.H p) : tells (.bool true) (@xcall (vx_in3.sy p h) xtabS 300 xf10 [.chan (some 0), .chan (some 1), .chan (some 2)] .nil 0 1) = true := by kernel_rfl
theorem vx_lo3_run (p : Nat → Int) (h : vx_lo3.H p) : tells (.bool true) (@xcall (vx_lo3.sy p h) xtabS 300 xf10 [.chan (some 0), .chan (some 1), .chan (some 2)] .nil 0 1) = true := by kernel_rfl
theorem vx_hi3_run (p : Nat → Int) (h : vx_hi3.H p) : tells (.bool true) (@xcall (vx_hi3.sy p h) xtabS 300 xf10 [.chan (some 0), .chan (some 1), .chan (some 2)] .nil 0 1) = true := by kernel_rfl
end Go.Proofs.YtfdeipckfdogfaaGreat
