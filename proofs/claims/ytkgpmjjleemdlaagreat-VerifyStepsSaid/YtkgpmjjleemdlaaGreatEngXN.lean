/- Engine, part XN: where nothing else is said, there are no symbols. -/
import Derived.Test.YtkgpmjjleemdlaaGreatEngXM
namespace Go.Eng
instance sy00 : Sy := sy0
end Go.Eng
