/- TipstaffQueues: its row. -/
import Derived.Test.YtmpgfgemnhbkhaaGreatDoorTipstaffQueuesFacts
import Derived.Test.YtmpgfgemnhbkhaaGreatDoorLaw
import Derived.Test.YtmpgfgemnhbkhaaGreatDoorLawLaid
import Derived.Test.YtmpgfgemnhbkhaaGreatDoorGlobTt
import Derived.Test.YtmpgfgemnhbkhaaGreatDoorXtq
set_option linter.unusedSimpArgs false
set_option linter.unusedVariables false
set_option maxHeartbeats 20000000
namespace Go.Proofs.YtmpgfgemnhbkhaaGreatDoor
open Go.ChangeShapes Go.WideShapes Go.ChangeAt Go.RowKit

abbrev laidTipstaffQueues : List (String × DataW Unit) := [("tipstaff/digest.k", Rows.laid_tipstaff_digest_k), ("tipstaff/digest.begin", Rows.laid_tipstaff_digest_begin)]
theorem doorTipstaffQueues (os : Os) (args : Array Value) : laidMetH Tryz.prog laidTipstaffQueues ((World.doorLaid Tryz.prog 4000 os).forCall (fun _ _ => 0) ⟨#[], args, []⟩).memory :=
  laidMetH_of_parts3 (fuel := 8) (laidMet_of_run' 8 (by as_aux_lemma => kernel_rfl) (by as_aux_lemma => kernel_rfl)) (by as_aux_lemma => kernel_rfl) (by as_aux_lemma => kernel_rfl)

set_option maxRecDepth 100000 in
theorem tipstaffQueues_lifted (os : Os) (started : os.Started) (H : Type) (enc : TypeId × Value → H) :
    ReturnsInHanded {} Tryz.checked os 3 .any (fun w args => (Rows.tipstaffQueuesSpec.pre enc Tryz.prog Tryz.f3 [] false w args ∧ laidMetH Tryz.prog laidTipstaffQueues w) ∧ sizedMet enc Tryz.prog Tryz.f3 (OpenSpec.ofChange Rows.tipstaffQueuesSpec) false w args)
      (Rows.tipstaffQueuesSpec.post enc Tryz.prog Tryz.f3 false true false false) := by
  refine returnsInHanded_of_change_and (C := Tryz.checked) (X := fun w _ => laidMetH Tryz.prog laidTipstaffQueues w) (fun _ _ _ hh h => h.of_heap hh) Tryz.own started (by as_aux_lemma => kernel_rfl) Tryz.func3
    (ChangeSpec.witness_shaped (enc := enc) (C := Tryz.checked) (os := os) (X := fun w _ => laidMetH Tryz.prog laidTipstaffQueues w) false (World.doorLaid Tryz.prog 4000 os) #[.slice none 0 0, .bool false] 8 rfl (World.shaped_of_RefB (by as_aux_lemma => kernel_rfl) (by as_aux_lemma => kernel_rfl)) (by as_aux_lemma => kernel_rfl) (by as_aux_lemma => kernel_rfl) (by as_aux_lemma => kernel_rfl) (doorTipstaffQueues os _)) ?_
  intro W base args ds gs before hval0 hW _ _ hL _
  have hval : ∀ (j : Nat) t v, Tryz.f3.params[j]? = some t → args[j]? = some v → Value.okWide Tryz.prog W .any base t v := hval0
  have hW' := hW
  obtain ⟨p, q, hA0, hV, rfl, hfz, hnd⟩ := hW
  have hA : DataW.TrodAll enc Tryz.prog W 0 (fun _ => true) true Tryz.f3.params.toList args.toList ds p := hA0
  rw [Tryz.params3] at hA hval
  obtain ⟨v0, v1, d0, d1, p0, p1, rfl, rfl, rfl,  h0, h1⟩ := trodAll_two hA
  obtain ⟨rfl, rfl⟩ := trodVars_none hV
  obtain ⟨a0, len0, cap0, rfl⟩ := okWide_slice Tryz.underlying22 (hval 0 22 v0 rfl rfl)
  obtain ⟨a, n, c, xs0, hcs, hn0, hnc0, hmax0, hwf0, hrow0⟩ := open_row Tryz.underlying22 Tryz.underlying21 (by as_aux_lemma => kernel_rfl) (fun _ => rfl) h0
  obtain ⟨rfl, rfl, rfl⟩ : a0 = a ∧ len0 = n ∧ cap0 = c := by simpa using hcs
  have row0 : Go.Eng.RowAt1 W .i32 a0 len0 xs0 := ⟨hn0, hrow0⟩
  have rng0 : ∀ x ∈ xs0, -2147483648 ≤ x ∧ x ≤ 2147483647 := fun x hx => (show IntKind.i32.min ≤ x ∧ x ≤ IntKind.i32.max by simpa [Lit.wf] using hwf0 x hx)
  obtain ⟨x1, rfl, rfl, rfl⟩ := open_bool Tryz.underlying4 (hval 1 4 v1 rfl rfl) h1
  clear hA0 hval0
  refine (tqu_ret a0 len0 cap0 xs0 row0 hnc0 rng0 x1 (glob7_of hL rfl rfl)).calls.mono fun e W' he => ?_
  obtain ⟨v, rfl, rfl, hk⟩ := he
  exact ⟨_, rfl, law_post Tryz.laidOut hW' rfl (by as_aux_lemma => kernel_rfl) (hk.below fun _ _ h => h) rfl (by as_aux_lemma => kernel_rfl) Tryz.underlying4⟩

theorem tipstaffQueues_row : Rows.TipstaffQueuesSaid :=
  OpenClaim.holds_of_wide 3 Tryz.f3 rfl rfl rfl rfl rfl rfl rfl ⟨rfl, rfl, rfl, rfl, rfl⟩ rfl rfl rfl rfl rfl (by as_aux_lemma => kernel_rfl) Tryz.func3 tipstaffQueues_jf
    (of_decide_eq_true (by as_aux_lemma => kernel_rfl)) (by unfold Func.isWrapper; first | (rw [if_pos (by decide +kernel)]; kernel_rfl) | (rw [if_neg (by decide +kernel)]; exact ⟨rfl, rfl⟩))
    (fun os started H enc _ => tipstaffQueues_lifted os started H enc)
end Go.Proofs.YtmpgfgemnhbkhaaGreatDoor
