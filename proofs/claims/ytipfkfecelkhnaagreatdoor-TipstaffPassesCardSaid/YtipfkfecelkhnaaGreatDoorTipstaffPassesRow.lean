/- TipstaffPasses: its row. -/
import Derived.Test.YtipfkfecelkhnaaGreatDoorTipstaffPassesFacts
import Derived.Test.YtipfkfecelkhnaaGreatDoorLaw
import Derived.Test.YtipfkfecelkhnaaGreatDoorLawLaid
import Derived.Test.YtipfkfecelkhnaaGreatDoorGlobTp
import Derived.Test.YtipfkfecelkhnaaGreatDoorXtp
set_option linter.unusedSimpArgs false
set_option linter.unusedVariables false
set_option maxHeartbeats 20000000
namespace Go.Proofs.YtipfkfecelkhnaaGreatDoor
open Go.ChangeShapes Go.WideShapes Go.ChangeAt Go.RowKit

abbrev laidTipstaffPasses : List (String × DataW Unit) := [("tipstaff/digest.k", Rows.laid_tipstaff_digest_k), ("tipstaff/digest.begin", Rows.laid_tipstaff_digest_begin), ("tipstaff/rights.helpers", Rows.laid_tipstaff_rights_helpers)]
theorem doorTipstaffPasses (os : Os) (args : Array Value) : laidMetH Tryz.prog laidTipstaffPasses ((World.doorLaid Tryz.prog 4000 os).forCall (fun _ _ => 0) ⟨#[], args, []⟩).memory :=
  laidMetH_of_parts3 (fuel := 8) (laidMet_of_run' 8 (by as_aux_lemma => kernel_rfl) (by as_aux_lemma => kernel_rfl)) (by as_aux_lemma => kernel_rfl) (by as_aux_lemma => kernel_rfl)

set_option maxRecDepth 100000 in
theorem tipstaffPasses_lifted (os : Os) (started : os.Started) (H : Type) (enc : TypeId × Value → H) :
    ReturnsInHanded {} Tryz.checked os 3 .any (fun w args => (Rows.tipstaffPassesSpec.pre enc Tryz.prog Tryz.f3 [] false w args ∧ laidMetH Tryz.prog laidTipstaffPasses w) ∧ sizedMet enc Tryz.prog Tryz.f3 (OpenSpec.ofChange Rows.tipstaffPassesSpec) false w args)
      (Rows.tipstaffPassesSpec.post enc Tryz.prog Tryz.f3 false true false false) := by
  refine returnsInHanded_of_change_and (C := Tryz.checked) (X := fun w _ => laidMetH Tryz.prog laidTipstaffPasses w) (fun _ _ _ hh h => h.of_heap hh) Tryz.own started (by as_aux_lemma => kernel_rfl) Tryz.func3
    (ChangeSpec.witness_shaped (enc := enc) (C := Tryz.checked) (os := os) (X := fun w _ => laidMetH Tryz.prog laidTipstaffPasses w) false (World.doorLaid Tryz.prog 4000 os) #[.slice none 0 0, .int .i32 0] 8 rfl (World.shaped_of_RefB (by as_aux_lemma => kernel_rfl) (by as_aux_lemma => kernel_rfl)) (by as_aux_lemma => kernel_rfl) (by as_aux_lemma => kernel_rfl) (by as_aux_lemma => kernel_rfl) (doorTipstaffPasses os _)) ?_
  intro W base args ds gs before hval0 hW _ _ hL _
  have hval : ∀ (j : Nat) t v, Tryz.f3.params[j]? = some t → args[j]? = some v → Value.okWide Tryz.prog W .any base t v := hval0
  have hW' := hW
  obtain ⟨p, q, hA0, hV, rfl, hfz, hnd⟩ := hW
  have hA : DataW.TrodAll enc Tryz.prog W 0 (fun _ => true) true Tryz.f3.params.toList args.toList ds p := hA0
  rw [Tryz.params3] at hA hval
  obtain ⟨v0, v1, d0, d1, p0, p1, rfl, rfl, rfl,  h0, h1⟩ := trodAll_two hA
  obtain ⟨rfl, rfl⟩ := trodVars_none hV
  obtain ⟨a0, len0, cap0, rfl⟩ := okWide_slice Tryz.underlying22 (hval 0 22 v0 rfl rfl)
  obtain ⟨a, n, c, xs0, hcs, hn0, hnc0, hmax0, hwf0, hrow0⟩ := open_row Tryz.underlying22 Tryz.underlying3 (by as_aux_lemma => kernel_rfl) (fun _ => rfl) h0
  obtain ⟨rfl, rfl, rfl⟩ : a0 = a ∧ len0 = n ∧ cap0 = c := by simpa using hcs
  have row0 : Go.Eng.RowAt1 W .i64 a0 len0 xs0 := ⟨hn0, hrow0⟩
  have rng0 : ∀ x ∈ xs0, -9223372036854775808 ≤ x ∧ x ≤ 9223372036854775807 := fun x hx => (show IntKind.i64.min ≤ x ∧ x ≤ IntKind.i64.max by simpa [Lit.wf] using hwf0 x hx)
  obtain ⟨x1, rfl, rfl, rfl, w1⟩ := open_int Tryz.underlying21 (hval 1 21 v1 rfl rfl) h1
  have b1 : IntKind.i32.min ≤ x1 ∧ x1 ≤ IntKind.i32.max := by simpa [Lit.wf] using w1
  clear hA0 hval0
  refine (tpa_ret a0 len0 cap0 xs0 W row0 hnc0 x1 (glob6_of hL rfl rfl rfl)).calls.mono fun e W' he => ?_
  obtain ⟨v, rfl, rfl, hk⟩ := he
  exact ⟨_, rfl, law_post Tryz.laidOut hW' rfl (by as_aux_lemma => kernel_rfl) (hk.below fun _ _ h => h) rfl (by as_aux_lemma => kernel_rfl) Tryz.underlying4⟩

theorem tipstaffPasses_row : Rows.TipstaffPassesSaid :=
  OpenClaim.holds_of_wide 3 Tryz.f3 rfl rfl rfl rfl rfl rfl rfl ⟨rfl, rfl, rfl, rfl, rfl⟩ rfl rfl rfl rfl rfl (by as_aux_lemma => kernel_rfl) Tryz.func3 tipstaffPasses_jf
    (of_decide_eq_true (by as_aux_lemma => kernel_rfl)) (by unfold Func.isWrapper; first | (rw [if_pos (by decide +kernel)]; kernel_rfl) | (rw [if_neg (by decide +kernel)]; exact ⟨rfl, rfl⟩))
    (fun os started H enc _ => tipstaffPasses_lifted os started H enc)
end Go.Proofs.YtipfkfecelkhnaaGreatDoor
