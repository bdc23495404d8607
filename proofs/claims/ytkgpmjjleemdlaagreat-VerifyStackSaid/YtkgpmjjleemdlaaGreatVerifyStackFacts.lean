/- VerifyStack: the closed facts of its row. -/
import Derived.Test.YtkgpmjjleemdlaaGreatRows
import Derived.ProofKit
set_option maxHeartbeats 20000000
set_option maxRecDepth 100000
namespace Go.Proofs.YtkgpmjjleemdlaaGreat
open Go.ChangeShapes Go.WideShapes Go.ChangeAt Go.RowKit
theorem verifyStack_jf : joinedFacts Tryz.pinned.checked.prog 3 Tryz.f3 Rows.verifyStackSpec Rows.verifyStackRow = true := by
  unfold joinedFacts; simp only [Bool.and_eq_true]; (repeat' apply And.intro); all_goals (as_aux_lemma => kernel_rfl)
end Go.Proofs.YtkgpmjjleemdlaaGreat
