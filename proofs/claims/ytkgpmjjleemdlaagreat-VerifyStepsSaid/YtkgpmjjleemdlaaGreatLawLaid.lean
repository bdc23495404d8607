/- Package-level variables as they are laid, and structs, opened for a walk. -/
import Derived.Test.YtkgpmjjleemdlaaGreatLawRow
import Derived.LaidMore
import Derived.LaidSub
import Derived.MakeChecks
import Derived.Stop.Joined
import Derived.OpenShut
import Derived.SevenTiedAt
set_option linter.unusedSimpArgs false
set_option linter.unusedVariables false
namespace Go.Proofs.YtkgpmjjleemdlaaGreat
open Go.ChangeShapes Go.WideShapes Go.ChangeAt Go.RowKit

section
variable {H : Type} {enc : TypeId × Value → H} {P : Program}

end
end Go.Proofs.YtkgpmjjleemdlaaGreat
