/- Runs with symbols, part 0 (mkcells.py). -/
import Derived.Test.YtfdeipckfdogfaaGreatXsvxc
set_option maxRecDepth 100000
set_option linter.unusedVariables false
namespace Go.Proofs.YtfdeipckfdogfaaGreat
open Go Go.Eng
theorem vx_in0_run (p : Nat → Int) (h : vx_in0.H p) : tells (.bool true) (@xcall (vx_in0.sy p h) xtabS 300 xf10 [.chan (some 0), .chan (some 1), .chan (some 2)] .nil 0 1) = true := by kernel_rfl
theorem vx_lo0_run (p : Nat → Int) (h : vx_lo0.H p) : tells (.bool true) (@xcall (vx_lo0.sy p h) xtabS 300 xf10 [.chan (some 0), .chan (some 1), .chan (some 2)] .nil 0 1) = true := by kernel_rfl
theorem vx_hi0_run (p : Nat → Int) (h : vx_hi0.H p) : tells (.bool true) (@xcall (vx_hi0.sy p h) xtabS 300 xf10 [.chan (some 0), .chan (some 1), .chan (some 2)] .nil 0 1) = true := by kernel_rfl
theorem vx_in1_run (p : Nat → Int) (h : vx_in1.H p) : tells (.bool true) (@xcall (vx_in1.sy p h) xtabS 300 xf10 [.chan (some 0), .chan (some 1), .chan (some 2)] .nil 0 1) = true := by kernel_rfl
theorem vx_lo1_run (p : Nat → Int) (h : vx_lo1.H p) : tells (.bool true) (@xcall (vx_lo1.sy p h) xtabS 300 xf10 [.chan (some 0), .chan (some 1), .chan (some 2)] .nil 0 1) = true := by kernel_rfl
theorem vx_hi1_run (p : Nat → Int) (h : vx_hi1.H p) : tells (.bool true) (@xcall (vx_hi1.sy p h) xtabS 300 xf10 [.chan (some 0), .chan (some 1), .chan (some 2)] .nil 0 1) = true := by kernel_rfl
end Go.Proofs.YtfdeipckfdogfaaGreat
