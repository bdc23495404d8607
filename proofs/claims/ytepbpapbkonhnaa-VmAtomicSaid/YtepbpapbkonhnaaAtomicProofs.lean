/- VmAtomic returns true for every input, and its arguments are as they were; no condition. -/
import Derived.Test.YtepbpapbkonhnaaLawArr
import Derived.Test.YtepbpapbkonhnaaVmQ
set_option linter.unusedSimpArgs false
set_option linter.unusedVariables false
namespace Go.Proofs.Ytepbpapbkonhnaa
open Go.ChangeShapes Go.WideShapes Go.ChangeAt Go.RowKit

set_option maxRecDepth 100000 in
theorem atomic_lifted (os : Os) (started : os.Started) (H : Type) (enc : TypeId × Value → H) :
    ReturnsInHanded {} Try.checked os 7 .any (Rows.vmAtomicSpec.pre6 enc Try.prog Try.f7 Rows.vmAtomicRow.domain false)
      (Rows.vmAtomicSpec.post enc Try.prog Try.f7 false true false false) := by
  refine returnsInHanded_of_change (C := Try.checked) Try.own started (by kernel_rfl) Try.func7
    (ChangeSpec.witness6 (enc := enc) (C := Try.checked) false ⟨#[], #[.agg #[.int .i32 0, .int .i32 0], .int .i64 0], []⟩ 8 (by kernel_rfl) (by kernel_rfl) (by kernel_rfl) (by kernel_rfl)) ?_
  intro W base args ds gs before hval0 hW hcnd _
  have hval : ∀ (j : Nat) t v, Try.f7.params[j]? = some t → args[j]? = some v → Value.okWide Try.prog W .any base t v := hval0
  have hW' := hW
  obtain ⟨p, q, hA0, hV, rfl, hfz, hnd⟩ := hW
  have hA : DataW.TrodAll enc Try.prog W 0 (fun _ => true) true Try.f7.params.toList args.toList ds p := hA0
  rw [Try.params7] at hA hval
  obtain ⟨v0, v1, d0, d1, p0, p1, rfl, rfl, rfl, h0, h1⟩ := trodAll_two hA
  obtain ⟨rfl, rfl⟩ := trodVars_none hV
  obtain ⟨x1, rfl, rfl, rfl, w1⟩ := open_int Try.underlying3 (hval 1 3 v1 rfl rfl) h1
  have b1 : IntKind.i64.min ≤ x1 ∧ x1 ≤ IntKind.i64.max := by simpa [Lit.wf] using w1
  clear hA0 hval0
  obtain ⟨cs0, c0, rfl, hs0, hc0, hr0⟩ := open_array Try.underlying67 Try.underlying21 (by kernel_rfl) (by kernel_rfl) (by decide) (hval 0 67 v0 rfl rfl) h0
  obtain rfl := array_two hs0 hc0
  refine (atomic_law (c0 0) (c0 1) x1 W).calls.mono fun e W' he => ?_
  obtain ⟨v, rfl, rfl, hk⟩ := he
  exact ⟨_, rfl, law_post Try.laidOut hW' rfl (by kernel_rfl) (hk.below fun _ _ h => h) rfl (by kernel_rfl) Try.underlying4⟩

theorem vmAtomic_holds : Rows.VmAtomicSaid :=
  OpenClaim.holds_of_wide 7 Try.f7 rfl rfl rfl rfl rfl rfl rfl ⟨rfl, rfl, rfl, rfl, rfl⟩ rfl rfl rfl rfl rfl (by kernel_rfl) Try.func7 (by kernel_rfl)
    (of_decide_eq_true (by kernel_rfl)) (by unfold Func.isWrapper; first | (rw [if_pos (by decide +kernel)]; kernel_rfl) | (rw [if_neg (by decide +kernel)]; exact ⟨rfl, rfl⟩))
    (fun os started H enc _ => atomic_lifted os started H enc)
#print axioms vmAtomic_holds
end Go.Proofs.Ytepbpapbkonhnaa
