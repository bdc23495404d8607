/- tipstaff/tipstafflaw18.VerifyOps: what is put for what it reads of its arguments (mkx.py). -/
import Derived.Test.YtfdeipckfdogfaaGreatXtab
import Derived.Test.YtfdeipckfdogfaaGreatEngXT
set_option maxRecDepth 100000
set_option linter.unusedVariables false
namespace Go.Proofs.YtfdeipckfdogfaaGreat
open Go.Eng
def vops_q (r0 : Nat) (r1 : Nat) (r2 : Bool) : List (Ex × Value) := [(pMod 0 12, .int .i64 (Int.ofNat r0)), (pMod 1 4, .int .i64 (Int.ofNat r1)), (.var 2, .bool r2)]
end Go.Proofs.YtfdeipckfdogfaaGreat
