/- Commands of functions, and that they are what the code comes to. -/
import Derived.Test.YtkgpmjjleemdlaaGreatCmdsVm
import Derived.Test.YtkgpmjjleemdlaaGreatRows
namespace Go.Proofs.YtkgpmjjleemdlaaGreat
open Go.Eng
end Go.Proofs.YtkgpmjjleemdlaaGreat
