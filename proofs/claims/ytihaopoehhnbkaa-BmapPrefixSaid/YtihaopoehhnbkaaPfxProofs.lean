/- BmapPrefix returns true for every input, and its arguments are as they were; no condition. -/
import Derived.Test.YtihaopoehhnbkaaLaw
import Derived.Test.YtihaopoehhnbkaaPfxW
set_option linter.unusedSimpArgs false
set_option linter.unusedVariables false
namespace Go.Proofs.Ytihaopoehhnbkaa
open Go.ChangeShapes Go.WideShapes Go.ChangeAt Go.RowKit Go.Eng

theorem Try.cells_intBmapPrefix : Try.prog.cellsOf 3 = 1 := by kernel_rfl

set_option maxRecDepth 100000 in
theorem prefix_lifted (os : Os) (started : os.Started) (H : Type) (enc : TypeId × Value → H) :
    ReturnsInHanded {} Try.checked os 7 .any (Rows.bmapPrefixSpec.pre6 enc Try.prog Try.f7 Rows.bmapPrefixRow.domain false)
      (Rows.bmapPrefixSpec.post enc Try.prog Try.f7 false true false false) := by
  refine returnsInHanded_of_change (C := Try.checked) Try.own started (by kernel_rfl) Try.func7
    (ChangeSpec.witness6 (enc := enc) (C := Try.checked) false ⟨#[], #[.slice none 0 0, .int .u8 0, .int .u8 0], []⟩ 8 (by kernel_rfl) (by kernel_rfl) (by kernel_rfl) (by kernel_rfl)) ?_
  intro W base args ds gs before hval0 hW hcnd _
  have hval : ∀ (j : Nat) t v, Try.f7.params[j]? = some t → args[j]? = some v → Value.okWide Try.prog W .any base t v := hval0
  have hW' := hW
  obtain ⟨p, q, hA0, hV, rfl, hfz, hnd⟩ := hW
  have hA : DataW.TrodAll enc Try.prog W 0 (fun _ => true) true Try.f7.params.toList args.toList ds p := hA0
  rw [Try.params7] at hA hval
  obtain ⟨v0, v1, v2, d0, d1, d2, p0, p1, p2, rfl, rfl, rfl, h0, h1, h2⟩ := trodAll_three hA
  obtain ⟨rfl, rfl⟩ := trodVars_none hV
  obtain ⟨a0, len0, cap0, rfl⟩ := okWide_slice Try.underlying22 (hval 0 22 v0 rfl rfl)
  obtain ⟨a, n, c, xs0, hcs, hn0, hnc0, hmax0, _, hrow0⟩ := open_row Try.underlying22 Try.underlying3 Try.cells_intBmapPrefix (fun _ => rfl) h0
  obtain ⟨rfl, rfl, rfl⟩ : a0 = a ∧ len0 = n ∧ cap0 = c := by simpa using hcs
  have ints0 : Ints W (.slice a0 len0 cap0) xs0 := ⟨_, _, _, rfl, hn0, by simp only [maxLen] at hmax0; omega, hrow0⟩
  obtain ⟨x1, rfl, rfl, rfl, w1⟩ := open_int Try.underlying5 (hval 1 5 v1 rfl rfl) h1
  have b1 : IntKind.u8.min ≤ x1 ∧ x1 ≤ IntKind.u8.max := by simpa [Lit.wf] using w1
  obtain ⟨x2, rfl, rfl, rfl, w2⟩ := open_int Try.underlying5 (hval 2 5 v2 rfl rfl) h2
  have b2 : IntKind.u8.min ≤ x2 ∧ x2 ≤ IntKind.u8.max := by simpa [Lit.wf] using w2
  clear hA0 hval0
  refine ((by obtain ⟨c, rfl⟩ := Int.eq_ofNat_of_zero_le (show (0 : Int) ≤ x1 from b1.1); obtain ⟨d, rfl⟩ := Int.eq_ofNat_of_zero_le (show (0 : Int) ≤ x2 from b2.1); have e1 : ((c : Nat) : Int) ≤ 255 := b1.2; have e2 : ((d : Nat) : Int) ≤ 255 := b2.2; exact prefix_ret _ xs0 c d W ints0 (by omega) (by omega) : Ret Try.prog 7 [.slice a0 len0 cap0, .int .u8 x1, .int .u8 x2] W fun v w' => v = .bool true ∧ Kept none' W w')).calls.mono fun e W' he => ?_
  obtain ⟨v, rfl, rfl, hk⟩ := he
  exact ⟨_, rfl, law_post Try.laidOut hW' rfl (by kernel_rfl) (hk.below fun _ _ h => h) rfl (by kernel_rfl) Try.underlying4⟩

theorem bmapPrefix_holds : Rows.BmapPrefixSaid :=
  OpenClaim.holds_of_wide 7 Try.f7 rfl rfl rfl rfl rfl rfl rfl ⟨rfl, rfl, rfl, rfl, rfl⟩ rfl rfl rfl rfl rfl (by kernel_rfl) Try.func7 (by kernel_rfl)
    (of_decide_eq_true (by kernel_rfl)) (by unfold Func.isWrapper; first | (rw [if_pos (by decide +kernel)]; kernel_rfl) | (rw [if_neg (by decide +kernel)]; exact ⟨rfl, rfl⟩))
    (fun os started H enc _ => prefix_lifted os started H enc)
#print axioms bmapPrefix_holds
end Go.Proofs.Ytihaopoehhnbkaa
