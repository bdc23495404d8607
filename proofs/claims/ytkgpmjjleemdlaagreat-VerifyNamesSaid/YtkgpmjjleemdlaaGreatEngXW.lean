/- Engine, part XW: calls whose arguments are symbols. -/
import Derived.Test.YtkgpmjjleemdlaaGreatEngXV
set_option linter.unusedSimpArgs false
set_option linter.unusedVariables false
set_option linter.unusedSectionVars false
namespace Go.Eng
variable [Sy]
/-- Arguments that are symbols, plain, or rows of such. -/
def symArgs : List Value → List Value → Prop
  | [], [] => True
  | u :: r, v :: r' => ((isSy u = true ∧ v = syV Sy.θ u) ∨ (∃ us vs : List Value, u = .agg ⟨us⟩ ∧ v = .agg ⟨vs⟩ ∧ us.all isSy = true ∧ vs = us.map (syV Sy.θ)) ∨ ∃ n c, u = .slice none n c ∧ v = .slice none n c) ∧ symArgs r r'
  | _, _ => False
theorem symArgs_q {ρ : Rho} : ∀ {e e' : List Value}, symArgs e e' → LQ ρ e e'
  | [], [], _ => ⟨rfl, fun i u v hu => by simp at hu⟩
  | u :: r, v :: r', ⟨h1, h2⟩ => by
    obtain ⟨g1, g2⟩ := symArgs_q (ρ := ρ) h2
    refine ⟨by simp [g1], fun i a b ha hb => ?_⟩
    cases i with
    | zero =>
      simp at ha hb; subst ha; subst hb
      rcases h1 with h1 | h1 | ⟨n, c, rfl, rfl⟩
      · exact sym_vq (.inl h1)
      · exact sym_vq (.inr h1)
      · exact .snil n c
    | succ i => exact g2 i a b (by simpa using ha) (by simpa using hb)
  | [], _ :: _, h => h.elim
  | _ :: _, [], h => h.elim
/-- A call whose arguments are symbols. -/
theorem ret_of_sym {P : Program} {G A : Nat} {tab : XT} (hA : AddOk P A) {h : HT} {w : World} (ht : TabOk P G A w tab) (hb : Begin G h w) {f : FuncId} {F : XF} {vs vs' : List Value} {n : Nat} {v : Value} (hf : tab.get f = some F) (hv : symArgs vs vs')
    (hr : tells v (xcall tab n F vs h G 1) = true) (hp : plainV v = true) (hK : Sy.K w := by exact trivial) : Ret P f vs' w fun v' w' => v' = v ∧ Kept none' w w' := by
  obtain ⟨h', m', s', hr⟩ := tells_ok hr
  obtain ⟨ρ, hs⟩ := hb.hs hK
  refine CallTo.mono (xcall_ok (wE := w) hA ht n f F vs h G 1 v h' m' s' hf hr ρ w vs' hs (symArgs_q hv)) fun v' w' h => ?_
  obtain ⟨ρ', h1, h2, h3⟩ := h
  exact ⟨vq_plain hp h1, h2.kept⟩
end Go.Eng
