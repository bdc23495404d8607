/- LoaderSums: its row. -/
import Derived.Test.YtipfkfecelkhnaaGreatDoorLoaderSumsFacts
import Derived.Test.YtipfkfecelkhnaaGreatDoorLaw
import Derived.Test.YtipfkfecelkhnaaGreatDoorLawLaid
import Derived.Test.YtipfkfecelkhnaaGreatDoorGlobLs
import Derived.Test.YtipfkfecelkhnaaGreatDoorXls
set_option linter.unusedSimpArgs false
set_option linter.unusedVariables false
set_option maxHeartbeats 20000000
namespace Go.Proofs.YtipfkfecelkhnaaGreatDoor
open Go.ChangeShapes Go.WideShapes Go.ChangeAt Go.RowKit

abbrev laidLoaderSums : List (String × DataW Unit) := [("tipstaff/digest.k", Rows.laid_tipstaff_digest_k), ("tipstaff/digest.begin", Rows.laid_tipstaff_digest_begin), ("tipstaff/rights.helpers", Rows.laid_tipstaff_rights_helpers)]
theorem doorLoaderSums (os : Os) (args : Array Value) : laidMetH Tryz.prog laidLoaderSums ((World.doorLaid Tryz.prog 4000 os).forCall (fun _ _ => 0) ⟨#[], args, []⟩).memory :=
  laidMetH_of_parts3 (fuel := 8) (laidMet_of_run' 8 (by as_aux_lemma => kernel_rfl) (by as_aux_lemma => kernel_rfl)) (by as_aux_lemma => kernel_rfl) (by as_aux_lemma => kernel_rfl)

set_option maxRecDepth 100000 in
theorem loaderSums_lifted (os : Os) (started : os.Started) (H : Type) (enc : TypeId × Value → H) :
    ReturnsInHanded {} Tryz.checked os 4 .any (fun w args => (Rows.loaderSumsSpec.pre enc Tryz.prog Tryz.f4 [] false w args ∧ laidMetH Tryz.prog laidLoaderSums w) ∧ sizedMet enc Tryz.prog Tryz.f4 (OpenSpec.ofChange Rows.loaderSumsSpec) false w args)
      (Rows.loaderSumsSpec.post enc Tryz.prog Tryz.f4 false true false false) := by
  refine returnsInHanded_of_change_and (C := Tryz.checked) (X := fun w _ => laidMetH Tryz.prog laidLoaderSums w) (fun _ _ _ hh h => h.of_heap hh) Tryz.own started (by as_aux_lemma => kernel_rfl) Tryz.func4
    (ChangeSpec.witness_shaped (enc := enc) (C := Tryz.checked) (os := os) (X := fun w _ => laidMetH Tryz.prog laidLoaderSums w) false (World.doorLaid Tryz.prog 4000 os) #[.int .i32 0, .int .i32 0, .slice none 0 0] 8 rfl (World.shaped_of_RefB (by as_aux_lemma => kernel_rfl) (by as_aux_lemma => kernel_rfl)) (by as_aux_lemma => kernel_rfl) (by as_aux_lemma => kernel_rfl) (by as_aux_lemma => kernel_rfl) (doorLoaderSums os _)) ?_
  intro W base args ds gs before hval0 hW _ _ hL _
  have hval : ∀ (j : Nat) t v, Tryz.f4.params[j]? = some t → args[j]? = some v → Value.okWide Tryz.prog W .any base t v := hval0
  have hW' := hW
  obtain ⟨p, q, hA0, hV, rfl, hfz, hnd⟩ := hW
  have hA : DataW.TrodAll enc Tryz.prog W 0 (fun _ => true) true Tryz.f4.params.toList args.toList ds p := hA0
  rw [Tryz.params4] at hA hval
  obtain ⟨v0, v1, v2, d0, d1, d2, p0, p1, p2, rfl, rfl, rfl,  h0, h1, h2⟩ := trodAll_three hA
  obtain ⟨rfl, rfl⟩ := trodVars_none hV
  obtain ⟨x0, rfl, rfl, rfl, w0⟩ := open_int Tryz.underlying21 (hval 0 21 v0 rfl rfl) h0
  have b0 : IntKind.i32.min ≤ x0 ∧ x0 ≤ IntKind.i32.max := by simpa [Lit.wf] using w0
  obtain ⟨x1, rfl, rfl, rfl, w1⟩ := open_int Tryz.underlying21 (hval 1 21 v1 rfl rfl) h1
  have b1 : IntKind.i32.min ≤ x1 ∧ x1 ≤ IntKind.i32.max := by simpa [Lit.wf] using w1
  obtain ⟨a2, len2, cap2, rfl⟩ := okWide_slice Tryz.underlying27 (hval 2 27 v2 rfl rfl)
  obtain ⟨a, n, c, xs2, hcs, hn2, hnc2, hmax2, hwf2, hrow2⟩ := open_row Tryz.underlying27 Tryz.underlying5 (by as_aux_lemma => kernel_rfl) (fun _ => rfl) h2
  obtain ⟨rfl, rfl, rfl⟩ : a2 = a ∧ len2 = n ∧ cap2 = c := by simpa using hcs
  have row2 : Go.Eng.RowAt1 W .u8 a2 len2 xs2 := ⟨hn2, hrow2⟩
  have rng2 : ∀ x ∈ xs2, 0 ≤ x ∧ x ≤ 255 := fun x hx => (show IntKind.u8.min ≤ x ∧ x ≤ IntKind.u8.max by simpa [Lit.wf] using hwf2 x hx)
  clear hA0 hval0
  refine (lsu_ret x0 x1 a2 len2 cap2 xs2 row2 hnc2 (glob6_of hL rfl rfl rfl)).calls.mono fun e W' he => ?_
  obtain ⟨v, rfl, rfl, hk⟩ := he
  exact ⟨_, rfl, law_post Tryz.laidOut hW' rfl (by as_aux_lemma => kernel_rfl) (hk.below fun _ _ h => h) rfl (by as_aux_lemma => kernel_rfl) Tryz.underlying4⟩

theorem loaderSums_row : Rows.LoaderSumsSaid :=
  OpenClaim.holds_of_wide 4 Tryz.f4 rfl rfl rfl rfl rfl rfl rfl ⟨rfl, rfl, rfl, rfl, rfl⟩ rfl rfl rfl rfl rfl (by as_aux_lemma => kernel_rfl) Tryz.func4 loaderSums_jf
    (of_decide_eq_true (by as_aux_lemma => kernel_rfl)) (by unfold Func.isWrapper; first | (rw [if_pos (by decide +kernel)]; kernel_rfl) | (rw [if_neg (by decide +kernel)]; exact ⟨rfl, rfl⟩))
    (fun os started H enc _ => loaderSums_lifted os started H enc)
end Go.Proofs.YtipfkfecelkhnaaGreatDoor
