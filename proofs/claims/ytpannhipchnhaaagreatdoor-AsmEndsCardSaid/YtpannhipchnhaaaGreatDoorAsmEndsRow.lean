/- AsmEnds: its row. -/
import Derived.Test.YtpannhipchnhaaaGreatDoorAsmEndsFacts
import Derived.Test.YtpannhipchnhaaaGreatDoorLaw
import Derived.Test.YtpannhipchnhaaaGreatDoorLawLaid
import Derived.Test.YtpannhipchnhaaaGreatDoorAsGlob
import Derived.Test.YtpannhipchnhaaaGreatDoorAs7
import Derived.Lay
set_option linter.unusedSimpArgs false
set_option linter.unusedVariables false
set_option maxHeartbeats 20000000
namespace Go.Proofs.YtpannhipchnhaaaGreatDoor
open Go.ChangeShapes Go.WideShapes Go.ChangeAt Go.RowKit

abbrev laidAsmEnds : List (String × DataW Unit) := [("math/bits.deBruijn32tab", Rows.laid_math_bits_deBruijn32tab), ("math/bits.deBruijn64tab", Rows.laid_math_bits_deBruijn64tab), ("internal/strconv.uint64pow10", Rows.laid_internal_strconv_uint64pow10), ("unicode/utf8.acceptRanges", Rows.laid_unicode_utf8_acceptRanges), ("strconv.ErrRange", Rows.laid_strconv_ErrRange), ("strconv.ErrSyntax", Rows.laid_strconv_ErrSyntax), ("tipstaff/asm.alus", Rows.laid_tipstaff_asm_alus), ("tipstaff/asm.jumps", Rows.laid_tipstaff_asm_jumps), ("tipstaff/asm.atomics", Rows.laid_tipstaff_asm_atomics), ("tipstaff/asm.atoms", Rows.laid_tipstaff_asm_atoms), ("tipstaff/asm.sizes", Rows.laid_tipstaff_asm_sizes), ("unicode/utf8.first", Rows.laid_unicode_utf8_first)]
theorem doorAsmEnds (os : Os) (args : Array Value) : laidMetH Tryz.prog laidAsmEnds ((World.laidAll Tryz.prog os laidAsmEnds).forCall (fun _ _ => 0) ⟨#[], args, []⟩).memory := by
  rw [MakeChecks.laidMetH_plain _ _ _ (by as_aux_lemma => kernel_rfl)]; exact laidMet_laidAll _ (by as_aux_lemma => kernel_rfl) (by as_aux_lemma => kernel_rfl)

set_option maxRecDepth 100000 in
theorem asmEnds_lifted (os : Os) (started : os.Started) (H : Type) (enc : TypeId × Value → H) :
    ReturnsInHanded {} Tryz.checked os 4 .any (fun w args => (Rows.asmEndsSpec.pre enc Tryz.prog Tryz.f4 [] false w args ∧ laidMetH Tryz.prog laidAsmEnds w) ∧ sizedMet enc Tryz.prog Tryz.f4 (OpenSpec.ofChange Rows.asmEndsSpec) false w args)
      (Rows.asmEndsSpec.post enc Tryz.prog Tryz.f4 false true false false) := by
  refine handed_shaped (C := Tryz.checked) (laid := laidAsmEnds) Tryz.own started (by as_aux_lemma => kernel_rfl) Tryz.func4
    (ChangeSpec.witness_shaped (enc := enc) (C := Tryz.checked) (os := os) (X := fun w _ => laidMetH Tryz.prog laidAsmEnds w) false (World.laidAll Tryz.prog os laidAsmEnds) #[.int .i64 0, .bool false] 8 (World.laidAll_os _ _ _) (World.shaped_of_ZipB (by as_aux_lemma => kernel_rfl) (by as_aux_lemma => kernel_rfl)) (by as_aux_lemma => kernel_rfl) (by as_aux_lemma => kernel_rfl) (by as_aux_lemma => kernel_rfl) (doorAsmEnds os _)) ?_
  intro W base args ds gs before hsh hL hval0 hW
  have hval : ∀ (j : Nat) t v, Tryz.f4.params[j]? = some t → args[j]? = some v → Value.okWide Tryz.prog W .any base t v := hval0
  have hW' := hW
  obtain ⟨p, q, hA0, hV, rfl, hfz, hnd⟩ := hW
  have hA : DataW.TrodAll enc Tryz.prog W 0 (fun _ => true) true Tryz.f4.params.toList args.toList ds p := hA0
  rw [Tryz.params4] at hA hval
  obtain ⟨v0, v1, d0, d1, p0, p1, rfl, rfl, rfl,  h0, h1⟩ := trodAll_two hA
  obtain ⟨rfl, rfl⟩ := trodVars_none hV
  obtain ⟨x0, rfl, rfl, rfl, w0⟩ := open_int Tryz.underlying3 (hval 0 3 v0 rfl rfl) h0
  have b0 : IntKind.i64.min ≤ x0 ∧ x0 ≤ IntKind.i64.max := by simpa [Lit.wf] using w0
  obtain ⟨x1, rfl, rfl, rfl⟩ := open_bool Tryz.underlying4 (hval 1 4 v1 rfl rfl) h1
  clear hA0 hval0
  refine (ends_ret x0 x1 W (globA_of hsh hL rfl rfl rfl rfl rfl rfl rfl rfl) ⟨by have := b0.1; have e : IntKind.i64.min = -9223372036854775808 := (by decide +kernel); omega, by have := b0.2; have e : IntKind.i64.max = 9223372036854775807 := (by decide +kernel); omega⟩).calls.mono fun e W' he => ?_
  obtain ⟨v, rfl, rfl, hk⟩ := he
  exact ⟨_, rfl, law_post Tryz.laidOut hW' rfl (by as_aux_lemma => kernel_rfl) (hk.below fun _ _ h => h) rfl (by as_aux_lemma => kernel_rfl) Tryz.underlying4⟩

theorem asmEnds_row : Rows.AsmEndsSaid :=
  OpenClaim.holds_of_wide 4 Tryz.f4 rfl rfl rfl rfl rfl rfl rfl ⟨rfl, rfl, rfl, rfl, rfl⟩ rfl rfl rfl rfl rfl (by as_aux_lemma => kernel_rfl) Tryz.func4 asmEnds_jf
    (of_decide_eq_true (by as_aux_lemma => kernel_rfl)) (by unfold Func.isWrapper; first | (rw [if_pos (by decide +kernel)]; kernel_rfl) | (rw [if_neg (by decide +kernel)]; exact ⟨rfl, rfl⟩))
    (fun os started H enc _ => asmEnds_lifted os started H enc)
end Go.Proofs.YtpannhipchnhaaaGreatDoor
