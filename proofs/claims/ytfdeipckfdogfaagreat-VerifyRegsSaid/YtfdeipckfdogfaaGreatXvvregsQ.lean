/- tipstaff/tipstafflaw18.VerifyRegs: what is put for what it reads of its arguments (mkx.py). -/
import Derived.Test.YtfdeipckfdogfaaGreatXtab
import Derived.Test.YtfdeipckfdogfaaGreatEngXT
set_option maxRecDepth 100000
set_option linter.unusedVariables false
namespace Go.Proofs.YtfdeipckfdogfaaGreat
open Go.Eng
def vregs_q (r0 : Nat) (r1 : Bool) : List (Ex × Value) := [(pMod8 0 11, .int .u8 (Int.ofNat r0)), (.var 1, .bool r1)]
end Go.Proofs.YtfdeipckfdogfaaGreat
