/- VerifyStack returns true for every input, and its arguments are as they were; no condition. -/
import Derived.Test.YtkgpmjjleemdlaaGreatVerifyStackFacts
import Derived.Test.YtkgpmjjleemdlaaGreatLaw
import Derived.Test.YtkgpmjjleemdlaaGreatLawRow
import Derived.Test.YtkgpmjjleemdlaaGreatLawLaid
import Derived.Test.YtkgpmjjleemdlaaGreatLawArr
import Derived.Test.YtkgpmjjleemdlaaGreatVhSb
import Derived.Test.YtkgpmjjleemdlaaGreatVh7
set_option linter.unusedSimpArgs false
set_option linter.unusedVariables false
set_option maxHeartbeats 20000000
namespace Go.Proofs.YtkgpmjjleemdlaaGreat
open Go.ChangeShapes Go.WideShapes Go.ChangeAt Go.RowKit

set_option maxRecDepth 100000 in
theorem verifyStack_lifted (os : Os) (started : os.Started) (H : Type) (enc : TypeId × Value → H) :
    ReturnsInHanded {} Tryz.checked os 3 .any (Rows.verifyStackSpec.pre6 enc Tryz.prog Tryz.f3 Rows.verifyStackRow.domain false)
      (Rows.verifyStackSpec.post enc Tryz.prog Tryz.f3 false true false false) := by
  refine returnsInHanded_of_change (C := Tryz.checked) Tryz.own started (by as_aux_lemma => kernel_rfl) Tryz.func3
    (ChangeSpec.witness6 (enc := enc) (C := Tryz.checked) false ⟨#[], #[.agg #[.int .i64 0, .int .i64 0], .agg #[.int .i64 0, .int .i64 0], .bool false], []⟩ 8 (by as_aux_lemma => kernel_rfl) (by as_aux_lemma => kernel_rfl) (by as_aux_lemma => kernel_rfl) (by as_aux_lemma => kernel_rfl)) ?_
  intro W base args ds gs before hval0 hW hcnd _
  have hval : ∀ (j : Nat) t v, Tryz.f3.params[j]? = some t → args[j]? = some v → Value.okWide Tryz.prog W .any base t v := hval0
  have hW' := hW
  obtain ⟨p, q, hA0, hV, rfl, hfz, hnd⟩ := hW
  have hA : DataW.TrodAll enc Tryz.prog W 0 (fun _ => true) true Tryz.f3.params.toList args.toList ds p := hA0
  rw [Tryz.params3] at hA hval
  obtain ⟨v0, v1, v2, d0, d1, d2, p0, p1, p2, rfl, rfl, rfl,  h0, h1, h2⟩ := trodAll_three hA
  obtain ⟨rfl, rfl⟩ := trodVars_none hV
  obtain ⟨cs0, c0, rfl, hs0, hc0, hr0⟩ := open_array Tryz.underlying22 Tryz.underlying3 (by as_aux_lemma => kernel_rfl) (by as_aux_lemma => kernel_rfl) (by decide) (hval 0 22 v0 rfl rfl) h0
  obtain rfl := array_two hs0 hc0
  obtain ⟨cs1, c1, rfl, hs1, hc1, hr1⟩ := open_array Tryz.underlying22 Tryz.underlying3 (by as_aux_lemma => kernel_rfl) (by as_aux_lemma => kernel_rfl) (by decide) (hval 1 22 v1 rfl rfl) h1
  obtain rfl := array_two hs1 hc1
  obtain ⟨x2, rfl, rfl, rfl⟩ := open_bool Tryz.underlying4 (hval 2 4 v2 rfl rfl) h2
  clear hA0 hval0
  refine (vstack_ret (c0 0) (c0 1) (c1 0) (c1 1) x2 W (fun w' _ => checks_ret w')).calls.mono fun e W' he => ?_
  obtain ⟨v, rfl, rfl, hk⟩ := he
  exact ⟨_, rfl, law_post Tryz.laidOut hW' rfl (by as_aux_lemma => kernel_rfl) (hk.below fun _ _ h => h) rfl (by as_aux_lemma => kernel_rfl) Tryz.underlying4⟩

theorem verifyStack_holds : Rows.VerifyStackSaid :=
  OpenClaim.holds_of_wide 3 Tryz.f3 rfl rfl rfl rfl rfl rfl rfl ⟨rfl, rfl, rfl, rfl, rfl⟩ rfl rfl rfl rfl rfl (by as_aux_lemma => kernel_rfl) Tryz.func3 verifyStack_jf
    (of_decide_eq_true (by as_aux_lemma => kernel_rfl)) (by unfold Func.isWrapper; first | (rw [if_pos (by decide +kernel)]; kernel_rfl) | (rw [if_neg (by decide +kernel)]; exact ⟨rfl, rfl⟩))
    (fun os started H enc _ => verifyStack_lifted os started H enc)
#print axioms verifyStack_holds
end Go.Proofs.YtkgpmjjleemdlaaGreat
