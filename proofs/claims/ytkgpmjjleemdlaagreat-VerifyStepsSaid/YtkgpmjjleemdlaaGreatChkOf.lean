/- A closed call that a law begins with, by the interpreter's sum. -/
import Derived.Test.YtkgpmjjleemdlaaGreatBase
import Derived.Test.YtkgpmjjleemdlaaGreatEngXM
namespace Go.Proofs.YtkgpmjjleemdlaaGreat
/-- The closed call that a law begins with, by the interpreter's sum. -/
theorem checks_of {P : Program} {f : FuncId} (h : ∀ w, Go.Eng.SumOk P w f (Go.Eng.sumF (.bool true))) (w : World) : ∀ w', Go.Eng.Kept Go.Eng.none' w w' → Go.Eng.Ret P f [] w' fun r w'' => r = .bool true ∧ Go.Eng.Kept Go.Eng.none' w' w'' := by
  intro w' _
  obtain ⟨v, _, e, _, hc⟩ := h w'
  unfold Go.Eng.sumF at e
  injection e with _ _ _ e
  first | (injection e with e _) | skip
  injection e with e
  subst e
  exact hc w' (Go.Eng.Kept.refl _ _)
end Go.Proofs.YtkgpmjjleemdlaaGreat
