/- RightsParses: the closed facts of its row. -/
import Derived.Test.YtaaicadjoghbcaaDoorRows
import Derived.ProofKit
set_option maxHeartbeats 20000000
set_option maxRecDepth 100000
namespace Go.Proofs.YtaaicadjoghbcaaDoor
open Go.ChangeShapes Go.WideShapes Go.ChangeAt Go.RowKit
theorem rightsParses_jf : joinedFacts Tryd.pinned.checked.prog 4 Tryd.f4 Rows.rightsParsesSpec Rows.rightsParsesRow = true := by
  unfold joinedFacts; simp only [Bool.and_eq_true]; (repeat' apply And.intro); all_goals (as_aux_lemma => kernel_rfl)
end Go.Proofs.YtaaicadjoghbcaaDoor
