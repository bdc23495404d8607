/- VmLuck returns true for every input, and its arguments are as they were; no condition. -/
import Derived.Test.YtepbpapbkonhnaaLaw
import Derived.Test.YtepbpapbkonhnaaVmS
set_option linter.unusedSimpArgs false
set_option linter.unusedVariables false
namespace Go.Proofs.Ytepbpapbkonhnaa
open Go.ChangeShapes Go.WideShapes Go.ChangeAt Go.RowKit

set_option maxRecDepth 100000 in
theorem luck_lifted (os : Os) (started : os.Started) (H : Type) (enc : TypeId × Value → H) :
    ReturnsInHanded {} Try.checked os 6 .any (Rows.vmLuckSpec.pre6 enc Try.prog Try.f6 Rows.vmLuckRow.domain false)
      (Rows.vmLuckSpec.post enc Try.prog Try.f6 false true false false) := by
  refine returnsInHanded_of_change (C := Try.checked) Try.own started (by kernel_rfl) Try.func6
    (ChangeSpec.witness6 (enc := enc) (C := Try.checked) false ⟨#[], #[.int .u64 0, .slice none 0 0, .int .i64 0], []⟩ 8 (by kernel_rfl) (by kernel_rfl) (by kernel_rfl) (by kernel_rfl)) ?_
  intro W base args ds gs before hval0 hW hcnd _
  have hval : ∀ (j : Nat) t v, Try.f6.params[j]? = some t → args[j]? = some v → Value.okWide Try.prog W .any base t v := hval0
  have hW' := hW
  obtain ⟨p, q, hA0, hV, rfl, hfz, hnd⟩ := hW
  have hA : DataW.TrodAll enc Try.prog W 0 (fun _ => true) true Try.f6.params.toList args.toList ds p := hA0
  rw [Try.params6] at hA hval
  obtain ⟨v0, v1, v2, d0, d1, d2, p0, p1, p2, rfl, rfl, rfl, h0, h1, h2⟩ := trodAll_three hA
  obtain ⟨rfl, rfl⟩ := trodVars_none hV
  obtain ⟨x0, rfl, rfl, rfl, w0⟩ := open_int Try.underlying32 (hval 0 32 v0 rfl rfl) h0
  have b0 : IntKind.u64.min ≤ x0 ∧ x0 ≤ IntKind.u64.max := by simpa [Lit.wf] using w0
  obtain ⟨x2, rfl, rfl, rfl, w2⟩ := open_int Try.underlying3 (hval 2 3 v2 rfl rfl) h2
  have b2 : IntKind.i64.min ≤ x2 ∧ x2 ≤ IntKind.i64.max := by simpa [Lit.wf] using w2
  clear hA0 hval0
  obtain ⟨a1, len1, cap1, rfl⟩ := okWide_slice Try.underlying60 (hval 1 60 v1 rfl rfl)
  obtain ⟨a, n, c, xs1, hcs, hn1, hnc1, hmax1, hwz1, hrow1⟩ := open_row Try.underlying60 Try.underlying32 (by kernel_rfl) (fun _ => rfl) h1
  obtain ⟨rfl, rfl, rfl⟩ : a1 = a ∧ len1 = n ∧ cap1 = c := by simpa using hcs
  subst hn1
  have u64s1 : U64s W (.slice a1 xs1.length cap1) xs1 := ⟨_, _, _, rfl, rfl, hnc1, by simp only [maxLen] at hmax1; omega, fun x hx => by have h' := hwz1 x hx; have h2 : IntKind.u64.min ≤ x ∧ x ≤ IntKind.u64.max := (by simpa [Lit.wf] using h'); exact h2, hrow1⟩
  refine (luckLaw_ret x0 a1 cap1 xs1 x2 W b0 u64s1).calls.mono fun e W' he => ?_
  obtain ⟨v, rfl, rfl, hk⟩ := he
  exact ⟨_, rfl, law_post Try.laidOut hW' rfl (by kernel_rfl) (hk.below fun _ _ h => h) rfl (by kernel_rfl) Try.underlying4⟩

theorem vmLuck_holds : Rows.VmLuckSaid :=
  OpenClaim.holds_of_wide 6 Try.f6 rfl rfl rfl rfl rfl rfl rfl ⟨rfl, rfl, rfl, rfl, rfl⟩ rfl rfl rfl rfl rfl (by kernel_rfl) Try.func6 (by kernel_rfl)
    (of_decide_eq_true (by kernel_rfl)) (by unfold Func.isWrapper; first | (rw [if_pos (by decide +kernel)]; kernel_rfl) | (rw [if_neg (by decide +kernel)]; exact ⟨rfl, rfl⟩))
    (fun os started H enc _ => luck_lifted os started H enc)
#print axioms vmLuck_holds
end Go.Proofs.Ytepbpapbkonhnaa
