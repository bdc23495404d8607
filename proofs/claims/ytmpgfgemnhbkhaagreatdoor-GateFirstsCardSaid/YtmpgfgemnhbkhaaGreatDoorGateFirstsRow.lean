/- GateFirsts: its row. -/
import Derived.Test.YtmpgfgemnhbkhaaGreatDoorGateFirstsFacts
import Derived.Test.YtmpgfgemnhbkhaaGreatDoorLaw
import Derived.Test.YtmpgfgemnhbkhaaGreatDoorLawLaid
import Derived.Test.YtmpgfgemnhbkhaaGreatDoorGlobGf
import Derived.Test.YtmpgfgemnhbkhaaGreatDoorXgfi
set_option linter.unusedSimpArgs false
set_option linter.unusedVariables false
set_option maxHeartbeats 20000000
namespace Go.Proofs.YtmpgfgemnhbkhaaGreatDoor
open Go.ChangeShapes Go.WideShapes Go.ChangeAt Go.RowKit

abbrev laidGateFirsts : List (String × DataW Unit) := [("tipstaff/digest.k", Rows.laid_tipstaff_digest_k), ("tipstaff/digest.begin", Rows.laid_tipstaff_digest_begin), ("tipstaff/rights.helpers", Rows.laid_tipstaff_rights_helpers)]
theorem doorGateFirsts (os : Os) (args : Array Value) : laidMetH Tryz.prog laidGateFirsts ((World.doorLaid Tryz.prog 4000 os).forCall (fun _ _ => 0) ⟨#[], args, []⟩).memory :=
  laidMetH_of_parts3 (fuel := 8) (laidMet_of_run' 8 (by as_aux_lemma => kernel_rfl) (by as_aux_lemma => kernel_rfl)) (by as_aux_lemma => kernel_rfl) (by as_aux_lemma => kernel_rfl)

set_option maxRecDepth 100000 in
theorem gateFirsts_lifted (os : Os) (started : os.Started) (H : Type) (enc : TypeId × Value → H) :
    ReturnsInHanded {} Tryz.checked os 11 .any (fun w args => (Rows.gateFirstsSpec.pre enc Tryz.prog Tryz.f11 [] false w args ∧ laidMetH Tryz.prog laidGateFirsts w) ∧ sizedMet enc Tryz.prog Tryz.f11 (OpenSpec.ofChange Rows.gateFirstsSpec) false w args)
      (Rows.gateFirstsSpec.post enc Tryz.prog Tryz.f11 false true false false) := by
  refine returnsInHanded_of_change_and (C := Tryz.checked) (X := fun w _ => laidMetH Tryz.prog laidGateFirsts w) (fun _ _ _ hh h => h.of_heap hh) Tryz.own started (by as_aux_lemma => kernel_rfl) Tryz.func11
    (ChangeSpec.witness_shaped (enc := enc) (C := Tryz.checked) (os := os) (X := fun w _ => laidMetH Tryz.prog laidGateFirsts w) false (World.doorLaid Tryz.prog 4000 os) #[.int .i64 0, .slice none 0 0, .int .i64 0] 8 rfl (World.shaped_of_RefB (by as_aux_lemma => kernel_rfl) (by as_aux_lemma => kernel_rfl)) (by as_aux_lemma => kernel_rfl) (by as_aux_lemma => kernel_rfl) (by as_aux_lemma => kernel_rfl) (doorGateFirsts os _)) ?_
  intro W base args ds gs before hval0 hW _ _ hL _
  have hval : ∀ (j : Nat) t v, Tryz.f11.params[j]? = some t → args[j]? = some v → Value.okWide Tryz.prog W .any base t v := hval0
  have hW' := hW
  obtain ⟨p, q, hA0, hV, rfl, hfz, hnd⟩ := hW
  have hA : DataW.TrodAll enc Tryz.prog W 0 (fun _ => true) true Tryz.f11.params.toList args.toList ds p := hA0
  rw [Tryz.params11] at hA hval
  obtain ⟨v0, v1, v2, d0, d1, d2, p0, p1, p2, rfl, rfl, rfl,  h0, h1, h2⟩ := trodAll_three hA
  obtain ⟨rfl, rfl⟩ := trodVars_none hV
  obtain ⟨x0, rfl, rfl, rfl, w0⟩ := open_int Tryz.underlying3 (hval 0 3 v0 rfl rfl) h0
  have b0 : IntKind.i64.min ≤ x0 ∧ x0 ≤ IntKind.i64.max := by simpa [Lit.wf] using w0
  obtain ⟨a1, len1, cap1, rfl⟩ := okWide_slice Tryz.underlying55 (hval 1 55 v1 rfl rfl)
  obtain ⟨a, n, c, xs1, hcs, hn1, hnc1, hmax1, hwf1, hrow1⟩ := open_row Tryz.underlying55 Tryz.underlying5 (by as_aux_lemma => kernel_rfl) (fun _ => rfl) h1
  obtain ⟨rfl, rfl, rfl⟩ : a1 = a ∧ len1 = n ∧ cap1 = c := by simpa using hcs
  have row1 : Go.Eng.RowAt1 W .u8 a1 len1 xs1 := ⟨hn1, hrow1⟩
  have rng1 : ∀ x ∈ xs1, 0 ≤ x ∧ x ≤ 255 := fun x hx => (show IntKind.u8.min ≤ x ∧ x ≤ IntKind.u8.max by simpa [Lit.wf] using hwf1 x hx)
  obtain ⟨x2, rfl, rfl, rfl, w2⟩ := open_int Tryz.underlying3 (hval 2 3 v2 rfl rfl) h2
  have b2 : IntKind.i64.min ≤ x2 ∧ x2 ≤ IntKind.i64.max := by simpa [Lit.wf] using w2
  clear hA0 hval0
  refine (gfi_ret x0 b0 x2 b2 a1 len1 cap1 xs1 row1 hnc1 hmax1 rng1 (glob6_of hL rfl rfl rfl)).calls.mono fun e W' he => ?_
  obtain ⟨v, rfl, rfl, hk⟩ := he
  exact ⟨_, rfl, law_post Tryz.laidOut hW' rfl (by as_aux_lemma => kernel_rfl) (hk.below fun _ _ h => h) rfl (by as_aux_lemma => kernel_rfl) Tryz.underlying4⟩

theorem gateFirsts_row : Rows.GateFirstsSaid :=
  OpenClaim.holds_of_wide 11 Tryz.f11 rfl rfl rfl rfl rfl rfl rfl ⟨rfl, rfl, rfl, rfl, rfl⟩ rfl rfl rfl rfl rfl (by as_aux_lemma => kernel_rfl) Tryz.func11 gateFirsts_jf
    (of_decide_eq_true (by as_aux_lemma => kernel_rfl)) (by unfold Func.isWrapper; first | (rw [if_pos (by decide +kernel)]; kernel_rfl) | (rw [if_neg (by decide +kernel)]; exact ⟨rfl, rfl⟩))
    (fun os started H enc _ => gateFirsts_lifted os started H enc)
end Go.Proofs.YtmpgfgemnhbkhaaGreatDoor
