/- TipstaffCounts: its row. -/
import Derived.Test.YtmpgfgemnhbkhaaGreatDoorTipstaffCountsFacts
import Derived.Test.YtmpgfgemnhbkhaaGreatDoorLaw
import Derived.Test.YtmpgfgemnhbkhaaGreatDoorLawLaid
import Derived.Test.YtmpgfgemnhbkhaaGreatDoorGlobTt
import Derived.Test.YtmpgfgemnhbkhaaGreatDoorXtc
set_option linter.unusedSimpArgs false
set_option linter.unusedVariables false
set_option maxHeartbeats 20000000
namespace Go.Proofs.YtmpgfgemnhbkhaaGreatDoor
open Go.ChangeShapes Go.WideShapes Go.ChangeAt Go.RowKit

abbrev laidTipstaffCounts : List (String × DataW Unit) := [("tipstaff/digest.k", Rows.laid_tipstaff_digest_k), ("tipstaff/digest.begin", Rows.laid_tipstaff_digest_begin)]
theorem doorTipstaffCounts (os : Os) (args : Array Value) : laidMetH Tryz.prog laidTipstaffCounts ((World.doorLaid Tryz.prog 4000 os).forCall (fun _ _ => 0) ⟨#[], args, []⟩).memory :=
  laidMetH_of_parts3 (fuel := 8) (laidMet_of_run' 8 (by as_aux_lemma => kernel_rfl) (by as_aux_lemma => kernel_rfl)) (by as_aux_lemma => kernel_rfl) (by as_aux_lemma => kernel_rfl)

set_option maxRecDepth 100000 in
theorem tipstaffCounts_lifted (os : Os) (started : os.Started) (H : Type) (enc : TypeId × Value → H) :
    ReturnsInHanded {} Tryz.checked os 4 .any (fun w args => (Rows.tipstaffCountsSpec.pre enc Tryz.prog Tryz.f4 [] false w args ∧ laidMetH Tryz.prog laidTipstaffCounts w) ∧ sizedMet enc Tryz.prog Tryz.f4 (OpenSpec.ofChange Rows.tipstaffCountsSpec) false w args)
      (Rows.tipstaffCountsSpec.post enc Tryz.prog Tryz.f4 false true false false) := by
  refine returnsInHanded_of_change_and (C := Tryz.checked) (X := fun w _ => laidMetH Tryz.prog laidTipstaffCounts w) (fun _ _ _ hh h => h.of_heap hh) Tryz.own started (by as_aux_lemma => kernel_rfl) Tryz.func4
    (ChangeSpec.witness_shaped (enc := enc) (C := Tryz.checked) (os := os) (X := fun w _ => laidMetH Tryz.prog laidTipstaffCounts w) false (World.doorLaid Tryz.prog 4000 os) #[.int .i64 0, .int .i64 0] 8 rfl (World.shaped_of_RefB (by as_aux_lemma => kernel_rfl) (by as_aux_lemma => kernel_rfl)) (by as_aux_lemma => kernel_rfl) (by as_aux_lemma => kernel_rfl) (by as_aux_lemma => kernel_rfl) (doorTipstaffCounts os _)) ?_
  intro W base args ds gs before hval0 hW _ _ hL _
  have hval : ∀ (j : Nat) t v, Tryz.f4.params[j]? = some t → args[j]? = some v → Value.okWide Tryz.prog W .any base t v := hval0
  have hW' := hW
  obtain ⟨p, q, hA0, hV, rfl, hfz, hnd⟩ := hW
  have hA : DataW.TrodAll enc Tryz.prog W 0 (fun _ => true) true Tryz.f4.params.toList args.toList ds p := hA0
  rw [Tryz.params4] at hA hval
  obtain ⟨v0, v1, d0, d1, p0, p1, rfl, rfl, rfl,  h0, h1⟩ := trodAll_two hA
  obtain ⟨rfl, rfl⟩ := trodVars_none hV
  obtain ⟨x0, rfl, rfl, rfl, w0⟩ := open_int Tryz.underlying3 (hval 0 3 v0 rfl rfl) h0
  have b0 : IntKind.i64.min ≤ x0 ∧ x0 ≤ IntKind.i64.max := by simpa [Lit.wf] using w0
  obtain ⟨x1, rfl, rfl, rfl, w1⟩ := open_int Tryz.underlying3 (hval 1 3 v1 rfl rfl) h1
  have b1 : IntKind.i64.min ≤ x1 ∧ x1 ≤ IntKind.i64.max := by simpa [Lit.wf] using w1
  clear hA0 hval0
  refine (tco_ret x0 b0 x1 b1 W (glob7_of hL rfl rfl)).calls.mono fun e W' he => ?_
  obtain ⟨v, rfl, rfl, hk⟩ := he
  exact ⟨_, rfl, law_post Tryz.laidOut hW' rfl (by as_aux_lemma => kernel_rfl) (hk.below fun _ _ h => h) rfl (by as_aux_lemma => kernel_rfl) Tryz.underlying4⟩

theorem tipstaffCounts_row : Rows.TipstaffCountsSaid :=
  OpenClaim.holds_of_wide 4 Tryz.f4 rfl rfl rfl rfl rfl rfl rfl ⟨rfl, rfl, rfl, rfl, rfl⟩ rfl rfl rfl rfl rfl (by as_aux_lemma => kernel_rfl) Tryz.func4 tipstaffCounts_jf
    (of_decide_eq_true (by as_aux_lemma => kernel_rfl)) (by unfold Func.isWrapper; first | (rw [if_pos (by decide +kernel)]; kernel_rfl) | (rw [if_neg (by decide +kernel)]; exact ⟨rfl, rfl⟩))
    (fun os started H enc _ => tipstaffCounts_lifted os started H enc)
end Go.Proofs.YtmpgfgemnhbkhaaGreatDoor
