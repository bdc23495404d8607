/- Layer 9: the law's own try. -/
import Derived.Test.YthfchnaocbkofaaBmK
import Derived.Test.YthfchnaocbkofaaCmdsBmM
set_option linter.unusedSimpArgs false
set_option linter.unusedVariables false
set_option maxRecDepth 8000
namespace Go.Proofs.Ythfchnaocbkofaa
open Go.Eng
end Go.Proofs.Ythfchnaocbkofaa
