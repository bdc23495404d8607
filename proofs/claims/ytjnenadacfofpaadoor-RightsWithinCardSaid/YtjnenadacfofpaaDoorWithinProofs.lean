/- RightsWithin returns true for every input, and its arguments are as they were; the variables that its row lists are as the program's text lays them (tied by the card). -/
import Derived.Test.YtjnenadacfofpaaDoorLaw
import Derived.Test.YtjnenadacfofpaaDoorLawLaid
import Derived.Test.YtjnenadacfofpaaDoorRtGlob
import Derived.Test.YtjnenadacfofpaaDoorRtX
import Derived.Test.YtjnenadacfofpaaDoorCards
import Derived.Test.YtjnenadacfofpaaDoorTie
set_option linter.unusedSimpArgs false
set_option linter.unusedVariables false
namespace Go.Proofs.YtjnenadacfofpaaDoor
open Go.ChangeShapes Go.WideShapes Go.ChangeAt Go.RowKit

abbrev laidRightsWithin : List (String × DataW Unit) := [("math/bits.deBruijn32tab", Rows.laid_math_bits_deBruijn32tab), ("math/bits.deBruijn64tab", Rows.laid_math_bits_deBruijn64tab), ("internal/strconv.uint64pow10", Rows.laid_internal_strconv_uint64pow10), ("tipstaff/rights.helpers", Rows.laid_tipstaff_rights_helpers)]
theorem doorRightsWithin (os : Os) (args : Array Value) : laidMetH Tryd.prog laidRightsWithin ((World.doorLaid Tryd.prog 4000 os).forCall (fun _ _ => 0) ⟨#[], args, []⟩).memory :=
  laidMetH_of_parts3 (fuel := 8) (laidMet_of_run' 8 (by kernel_rfl) (by kernel_rfl)) (by kernel_rfl) (by kernel_rfl)

set_option maxRecDepth 100000 in
theorem rightsWithin_lifted (os : Os) (started : os.Started) (H : Type) (enc : TypeId × Value → H) :
    ReturnsInHanded {} Tryd.checked os 3 .any (fun w args => (Rows.rightsWithinSpec.pre enc Tryd.prog Tryd.f3 [] false w args ∧ laidMetH Tryd.prog laidRightsWithin w) ∧ sizedMet enc Tryd.prog Tryd.f3 (OpenSpec.ofChange Rows.rightsWithinSpec) false w args)
      (Rows.rightsWithinSpec.post enc Tryd.prog Tryd.f3 false true false false) := by
  refine returnsInHanded_of_change_and (C := Tryd.checked) (X := fun w _ => laidMetH Tryd.prog laidRightsWithin w) (fun _ _ _ hh h => h.of_heap hh) Tryd.own started (by kernel_rfl) Tryd.func3
    (ChangeSpec.witness_shaped (enc := enc) (C := Tryd.checked) (os := os) (X := fun w _ => laidMetH Tryd.prog laidRightsWithin w) false (World.doorLaid Tryd.prog 4000 os) #[.agg #[.int .u16 0, .int .u16 0, .int .u16 0, .int .u16 0, .bool false, .bool false], .agg #[.int .u16 0, .int .u16 0, .int .u16 0, .int .u16 0, .bool false, .bool false], .agg #[.int .u16 0, .int .u16 0, .int .u16 0, .int .u16 0, .bool false, .bool false]] 8 rfl (World.shaped_of_RefB (by kernel_rfl) (by kernel_rfl)) (by kernel_rfl) (by kernel_rfl) (by kernel_rfl) (doorRightsWithin os _)) ?_
  intro W base args ds gs before hval0 hW _ _ hL _
  have hval : ∀ (j : Nat) t v, Tryd.f3.params[j]? = some t → args[j]? = some v → Value.okWide Tryd.prog W .any base t v := hval0
  have hW' := hW
  obtain ⟨p, q, hA0, hV, rfl, hfz, hnd⟩ := hW
  have hA : DataW.TrodAll enc Tryd.prog W 0 (fun _ => true) true Tryd.f3.params.toList args.toList ds p := hA0
  rw [Tryd.params3] at hA hval
  obtain ⟨v0, v1, v2, d0, d1, d2, p0, p1, p2, rfl, rfl, rfl,  h0, h1, h2⟩ := trodAll_three hA
  obtain ⟨rfl, rfl⟩ := trodVars_none hV
  obtain ⟨x0, w0, rfl⟩ := open_rt (hval 0 24 v0 rfl rfl) h0
  obtain ⟨x1, w1, rfl⟩ := open_rt (hval 1 24 v1 rfl rfl) h1
  obtain ⟨x2, w2, rfl⟩ := open_rt (hval 2 24 v2 rfl rfl) h2
  clear hA0 hval0
  refine (Go.Eng.ret_of_T (rwithin_T (glob_of hL rfl rfl) w0 w1 w2)).calls.mono fun e W' he => ?_
  obtain ⟨v, rfl, rfl, hk⟩ := he
  exact ⟨_, rfl, law_post Tryd.laidOut hW' rfl (by kernel_rfl) (hk.below fun _ _ h => h) rfl (by kernel_rfl) Tryd.underlying4⟩

theorem rightsWithin_row : Rows.RightsWithinSaid :=
  OpenClaim.holds_of_wide 3 Tryd.f3 rfl rfl rfl rfl rfl rfl rfl ⟨rfl, rfl, rfl, rfl, rfl⟩ rfl rfl rfl rfl rfl (by kernel_rfl) Tryd.func3 (by kernel_rfl)
    (of_decide_eq_true (by kernel_rfl)) (by unfold Func.isWrapper; first | (rw [if_pos (by decide +kernel)]; kernel_rfl) | (rw [if_neg (by decide +kernel)]; exact ⟨rfl, rfl⟩))
    (fun os started H enc _ => rightsWithin_lifted os started H enc)
theorem rightsWithin_holds : Rows.RightsWithinCardSaid :=
  Claim7.holds_tied_plain_at .later [] [.data, .data, .data, .widerDeep] true (true, "6754c4a4445c4f6a29c74052a57f6a8bb9c98ef1500ee63c80c318a9809bd469") true
    rightsWithin_row (fun _ h => by cases h) (by kernel_rfl) (fun _ h => by cases h) rightsWithin_row_tie rfl ⟨rfl, rfl⟩ (by kernel_rfl) rfl
    (fun f fn hf hfn => by
      obtain rfl : f = 3 := Option.some.inj ((show Tryd.prog.funcNamed "tipstaff/tipstafflaw11.RightsWithin" = some 3 by kernel_rfl).symm.trans hf) |>.symm
      obtain rfl : fn = Tryd.f3 := (Option.some.inj (Tryd.func3.symm.trans hfn)).symm
      exact ⟨by kernel_rfl, fun j t ht => by
        rw [Tryd.params3] at ht
        have hm : t ∈ [24, 24, 24] := by simpa using Array.mem_of_getElem? ht
        have hall : ([24, 24, 24].all fun u => !Tryd.prog.wantsStandIn u) = true := by kernel_rfl
        exact (show Tryd.prog.wantsStandIn t = false by simpa using List.all_eq_true.1 hall t hm)⟩)
    (by kernel_rfl)
#print axioms rightsWithin_holds
end Go.Proofs.YtjnenadacfofpaaDoor
