/- AsmNumbers: its row. -/
import Derived.Test.YtpannhipchnhaaaGreatDoorAsmNumbersFacts
import Derived.Test.YtpannhipchnhaaaGreatDoorLaw
import Derived.Test.YtpannhipchnhaaaGreatDoorLawLaid
import Derived.Test.YtpannhipchnhaaaGreatDoorAsGlob
import Derived.Test.YtpannhipchnhaaaGreatDoorAs9
import Derived.Lay
set_option linter.unusedSimpArgs false
set_option linter.unusedVariables false
set_option maxHeartbeats 20000000
namespace Go.Proofs.YtpannhipchnhaaaGreatDoor
open Go.ChangeShapes Go.WideShapes Go.ChangeAt Go.RowKit

abbrev laidAsmNumbers : List (String × DataW Unit) := [("math/bits.deBruijn32tab", Rows.laid_math_bits_deBruijn32tab), ("math/bits.deBruijn64tab", Rows.laid_math_bits_deBruijn64tab), ("internal/strconv.uint64pow10", Rows.laid_internal_strconv_uint64pow10), ("unicode/utf8.acceptRanges", Rows.laid_unicode_utf8_acceptRanges), ("strconv.ErrRange", Rows.laid_strconv_ErrRange), ("strconv.ErrSyntax", Rows.laid_strconv_ErrSyntax), ("tipstaff/asm.alus", Rows.laid_tipstaff_asm_alus), ("tipstaff/asm.jumps", Rows.laid_tipstaff_asm_jumps), ("tipstaff/asm.atomics", Rows.laid_tipstaff_asm_atomics), ("tipstaff/asm.atoms", Rows.laid_tipstaff_asm_atoms), ("tipstaff/asm.sizes", Rows.laid_tipstaff_asm_sizes), ("unicode/utf8.first", Rows.laid_unicode_utf8_first)]
theorem doorAsmNumbers (os : Os) (args : Array Value) : laidMetH Tryz.prog laidAsmNumbers ((World.laidAll Tryz.prog os laidAsmNumbers).forCall (fun _ _ => 0) ⟨#[], args, []⟩).memory := by
  rw [MakeChecks.laidMetH_plain _ _ _ (by as_aux_lemma => kernel_rfl)]; exact laidMet_laidAll _ (by as_aux_lemma => kernel_rfl) (by as_aux_lemma => kernel_rfl)

set_option maxRecDepth 100000 in
theorem asmNumbers_lifted (os : Os) (started : os.Started) (H : Type) (enc : TypeId × Value → H) :
    ReturnsInHanded {} Tryz.checked os 6 .any (fun w args => (Rows.asmNumbersSpec.pre enc Tryz.prog Tryz.f6 [] false w args ∧ laidMetH Tryz.prog laidAsmNumbers w) ∧ sizedMet enc Tryz.prog Tryz.f6 (OpenSpec.ofChange Rows.asmNumbersSpec) false w args)
      (Rows.asmNumbersSpec.post enc Tryz.prog Tryz.f6 false true false false) := by
  refine handed_shaped (C := Tryz.checked) (laid := laidAsmNumbers) Tryz.own started (by as_aux_lemma => kernel_rfl) Tryz.func6
    (ChangeSpec.witness_shaped (enc := enc) (C := Tryz.checked) (os := os) (X := fun w _ => laidMetH Tryz.prog laidAsmNumbers w) false (World.laidAll Tryz.prog os laidAsmNumbers) #[.int .i32 0, .int .i16 0, .int .u64 0] 8 (World.laidAll_os _ _ _) (World.shaped_of_ZipB (by as_aux_lemma => kernel_rfl) (by as_aux_lemma => kernel_rfl)) (by as_aux_lemma => kernel_rfl) (by as_aux_lemma => kernel_rfl) (by as_aux_lemma => kernel_rfl) (doorAsmNumbers os _)) ?_
  intro W base args ds gs before hsh hL hval0 hW
  have hval : ∀ (j : Nat) t v, Tryz.f6.params[j]? = some t → args[j]? = some v → Value.okWide Tryz.prog W .any base t v := hval0
  have hW' := hW
  obtain ⟨p, q, hA0, hV, rfl, hfz, hnd⟩ := hW
  have hA : DataW.TrodAll enc Tryz.prog W 0 (fun _ => true) true Tryz.f6.params.toList args.toList ds p := hA0
  rw [Tryz.params6] at hA hval
  obtain ⟨v0, v1, v2, d0, d1, d2, p0, p1, p2, rfl, rfl, rfl,  h0, h1, h2⟩ := trodAll_three hA
  obtain ⟨rfl, rfl⟩ := trodVars_none hV
  obtain ⟨x0, rfl, rfl, rfl, w0⟩ := open_int Tryz.underlying21 (hval 0 21 v0 rfl rfl) h0
  have b0 : IntKind.i32.min ≤ x0 ∧ x0 ≤ IntKind.i32.max := by simpa [Lit.wf] using w0
  obtain ⟨x1, rfl, rfl, rfl, w1⟩ := open_int Tryz.underlying37 (hval 1 37 v1 rfl rfl) h1
  have b1 : IntKind.i16.min ≤ x1 ∧ x1 ≤ IntKind.i16.max := by simpa [Lit.wf] using w1
  obtain ⟨x2, rfl, rfl, rfl, w2⟩ := open_int Tryz.underlying33 (hval 2 33 v2 rfl rfl) h2
  have b2 : IntKind.u64.min ≤ x2 ∧ x2 ≤ IntKind.u64.max := by simpa [Lit.wf] using w2
  clear hA0 hval0
  refine (numbers_ret W (globA_of hsh hL rfl rfl rfl rfl rfl rfl rfl rfl) ⟨by have := b0.1; have e : IntKind.i32.min = -2147483648 := (by decide +kernel); omega, by have := b0.2; have e : IntKind.i32.max = 2147483647 := (by decide +kernel); omega⟩ ⟨by have := b1.1; have e : IntKind.i16.min = -32768 := (by decide +kernel); omega, by have := b1.2; have e : IntKind.i16.max = 32767 := (by decide +kernel); omega⟩ ⟨by have := b2.1; have e : IntKind.u64.min = 0 := (by decide +kernel); omega, by have := b2.2; have e : IntKind.u64.max = 18446744073709551615 := (by decide +kernel); omega⟩).calls.mono fun e W' he => ?_
  obtain ⟨v, rfl, rfl, hk⟩ := he
  exact ⟨_, rfl, law_post Tryz.laidOut hW' rfl (by as_aux_lemma => kernel_rfl) (hk.below fun _ _ h => h) rfl (by as_aux_lemma => kernel_rfl) Tryz.underlying4⟩

theorem asmNumbers_row : Rows.AsmNumbersSaid :=
  OpenClaim.holds_of_wide 6 Tryz.f6 rfl rfl rfl rfl rfl rfl rfl ⟨rfl, rfl, rfl, rfl, rfl⟩ rfl rfl rfl rfl rfl (by as_aux_lemma => kernel_rfl) Tryz.func6 asmNumbers_jf
    (of_decide_eq_true (by as_aux_lemma => kernel_rfl)) (by unfold Func.isWrapper; first | (rw [if_pos (by decide +kernel)]; kernel_rfl) | (rw [if_neg (by decide +kernel)]; exact ⟨rfl, rfl⟩))
    (fun os started H enc _ => asmNumbers_lifted os started H enc)
end Go.Proofs.YtpannhipchnhaaaGreatDoor
