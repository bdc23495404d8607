/- GateHeld: its row. -/
import Derived.Test.YtmpgfgemnhbkhaaGreatDoorGateHeldFacts
import Derived.Test.YtmpgfgemnhbkhaaGreatDoorLaw
import Derived.Test.YtmpgfgemnhbkhaaGreatDoorLawLaid
import Derived.Test.YtmpgfgemnhbkhaaGreatDoorGlobGh
import Derived.Test.YtmpgfgemnhbkhaaGreatDoorXghe
set_option linter.unusedSimpArgs false
set_option linter.unusedVariables false
set_option maxHeartbeats 20000000
namespace Go.Proofs.YtmpgfgemnhbkhaaGreatDoor
open Go.ChangeShapes Go.WideShapes Go.ChangeAt Go.RowKit

abbrev laidGateHeld : List (String × DataW Unit) := [("tipstaff/digest.k", Rows.laid_tipstaff_digest_k), ("tipstaff/digest.begin", Rows.laid_tipstaff_digest_begin), ("tipstaff/rights.helpers", Rows.laid_tipstaff_rights_helpers)]
theorem doorGateHeld (os : Os) (args : Array Value) : laidMetH Tryz.prog laidGateHeld ((World.doorLaid Tryz.prog 4000 os).forCall (fun _ _ => 0) ⟨#[], args, []⟩).memory :=
  laidMetH_of_parts3 (fuel := 8) (laidMet_of_run' 8 (by as_aux_lemma => kernel_rfl) (by as_aux_lemma => kernel_rfl)) (by as_aux_lemma => kernel_rfl) (by as_aux_lemma => kernel_rfl)

set_option maxRecDepth 100000 in
theorem gateHeld_lifted (os : Os) (started : os.Started) (H : Type) (enc : TypeId × Value → H) :
    ReturnsInHanded {} Tryz.checked os 7 .any (fun w args => (Rows.gateHeldSpec.pre enc Tryz.prog Tryz.f7 [] false w args ∧ laidMetH Tryz.prog laidGateHeld w) ∧ sizedMet enc Tryz.prog Tryz.f7 (OpenSpec.ofChange Rows.gateHeldSpec) false w args)
      (Rows.gateHeldSpec.post enc Tryz.prog Tryz.f7 false true false false) := by
  refine returnsInHanded_of_change_and (C := Tryz.checked) (X := fun w _ => laidMetH Tryz.prog laidGateHeld w) (fun _ _ _ hh h => h.of_heap hh) Tryz.own started (by as_aux_lemma => kernel_rfl) Tryz.func7
    (ChangeSpec.witness_shaped (enc := enc) (C := Tryz.checked) (os := os) (X := fun w _ => laidMetH Tryz.prog laidGateHeld w) false (World.doorLaid Tryz.prog 4000 os) #[.slice none 0 0] 8 rfl (World.shaped_of_RefB (by as_aux_lemma => kernel_rfl) (by as_aux_lemma => kernel_rfl)) (by as_aux_lemma => kernel_rfl) (by as_aux_lemma => kernel_rfl) (by as_aux_lemma => kernel_rfl) (doorGateHeld os _)) ?_
  intro W base args ds gs before hval0 hW _ _ hL _
  have hval : ∀ (j : Nat) t v, Tryz.f7.params[j]? = some t → args[j]? = some v → Value.okWide Tryz.prog W .any base t v := hval0
  have hW' := hW
  obtain ⟨p, q, hA0, hV, rfl, hfz, hnd⟩ := hW
  have hA : DataW.TrodAll enc Tryz.prog W 0 (fun _ => true) true Tryz.f7.params.toList args.toList ds p := hA0
  rw [Tryz.params7] at hA hval
  obtain ⟨v0, d0, rfl, rfl, h0⟩ := trodAll_one hA
  obtain ⟨rfl, rfl⟩ := trodVars_none hV
  obtain ⟨a0, len0, cap0, rfl⟩ := okWide_slice Tryz.underlying85 (hval 0 85 v0 rfl rfl)
  obtain ⟨a, n, c, xs0, hcs, hn0, hnc0, hmax0, hwf0, hrow0⟩ := open_row Tryz.underlying85 Tryz.underlying3 (by as_aux_lemma => kernel_rfl) (fun _ => rfl) h0
  obtain ⟨rfl, rfl, rfl⟩ : a0 = a ∧ len0 = n ∧ cap0 = c := by simpa using hcs
  have row0 : Go.Eng.RowAt1 W .i64 a0 len0 xs0 := ⟨hn0, hrow0⟩
  have rng0 : ∀ x ∈ xs0, -9223372036854775808 ≤ x ∧ x ≤ 9223372036854775807 := fun x hx => (show IntKind.i64.min ≤ x ∧ x ≤ IntKind.i64.max by simpa [Lit.wf] using hwf0 x hx)
  clear hA0 hval0
  simp only [List.append_nil] at hW'
  refine (ghe_ret a0 len0 cap0 xs0 row0 hnc0 hmax0 rng0 (glob6_of hL rfl rfl rfl)).calls.mono fun e W' he => ?_
  obtain ⟨v, rfl, rfl, hk⟩ := he
  exact ⟨_, rfl, law_post Tryz.laidOut hW' rfl (by as_aux_lemma => kernel_rfl) (hk.below fun _ _ h => h) rfl (by as_aux_lemma => kernel_rfl) Tryz.underlying4⟩

theorem gateHeld_row : Rows.GateHeldSaid :=
  OpenClaim.holds_of_wide 7 Tryz.f7 rfl rfl rfl rfl rfl rfl rfl ⟨rfl, rfl, rfl, rfl, rfl⟩ rfl rfl rfl rfl rfl (by as_aux_lemma => kernel_rfl) Tryz.func7 gateHeld_jf
    (of_decide_eq_true (by as_aux_lemma => kernel_rfl)) (by unfold Func.isWrapper; first | (rw [if_pos (by decide +kernel)]; kernel_rfl) | (rw [if_neg (by decide +kernel)]; exact ⟨rfl, rfl⟩))
    (fun os started H enc _ => gateHeld_lifted os started H enc)
end Go.Proofs.YtmpgfgemnhbkhaaGreatDoor
