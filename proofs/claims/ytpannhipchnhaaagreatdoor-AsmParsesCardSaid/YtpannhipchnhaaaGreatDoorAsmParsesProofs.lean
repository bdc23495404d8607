/- AsmParses returns true for every input, and its arguments are as they were; the variables that its row lists are as the program's text lays them (tied by the card). -/
import Derived.Test.YtpannhipchnhaaaGreatDoorAsmParsesRow
import Derived.Test.YtpannhipchnhaaaGreatDoorCards
import Derived.Test.YtpannhipchnhaaaGreatDoorTie
set_option linter.unusedSimpArgs false
set_option linter.unusedVariables false
set_option maxHeartbeats 20000000
namespace Go.Proofs.YtpannhipchnhaaaGreatDoor
open Go.ChangeShapes Go.WideShapes Go.ChangeAt Go.RowKit
theorem goesBy_no {P : Program} (h : P.funcs.any Func.goes = false) (c : OpenClaim) : false = c.goesBy P := by
  have h1 : ∀ (g : Nat), (P.funcs[g]?).any Func.goes = false := fun g => by
    cases e : P.funcs[g]? with
    | none => rfl
    | some fn =>
      have := Array.any_eq_false.1 h g (Array.getElem?_eq_some_iff.1 e).1
      rw [(Array.getElem?_eq_some_iff.1 e).2] at this
      simpa using this
  have h2 : ∀ f, P.goes f = false := fun f => by
    unfold Program.goes
    rw [h, Bool.and_false, Bool.or_false, List.any_eq_false]
    intro g _
    rw [h1 g]
    exact Bool.false_ne_true
  unfold OpenClaim.goesBy Program.goesAt Program.goesFrom
  have h3 : (P.funcNamed c.func).any P.goes = false := by
    cases P.funcNamed c.func with
    | none => rfl
    | some f => exact h2 f
  rw [h3, Bool.false_or]
  split
  · rfl
  · symm
    rw [List.any_eq_false]
    intro f _
    rw [h2 f]
    exact Bool.false_ne_true
theorem noGo : Tryz.pinned.checked.prog.funcs.any Func.goes = false := by kernel_rfl
theorem asmParses_holds : Rows.AsmParsesCardSaid :=
  Claim7.holds_tied_plain_at .later [] [.data, .data, .data, .data, .sentinel, .sentinel, .widerDeep, .widerDeep, .widerDeep, .widerDeep, .widerDeep, .pinned] true (true, "139d853158d28d11b88551e7cda2385e98d2d3fe27bca7b76c11de9a987ff01a") true
    asmParses_row (fun _ h => by cases h) (by as_aux_lemma => kernel_rfl) (fun _ h => by cases h) asmParses_row_tie rfl ⟨rfl, rfl⟩ (by as_aux_lemma => kernel_rfl) rfl
    (fun f fn hf hfn => by
      obtain rfl : f = 3 := Option.some.inj ((show Tryz.prog.funcNamed "tipstaff/tipstafflaw23.AsmParses" = some 3 by kernel_rfl).symm.trans hf) |>.symm
      obtain rfl : fn = Tryz.f3 := (Option.some.inj (Tryz.func3.symm.trans hfn)).symm
      exact ⟨by kernel_rfl, fun j t ht => by
        rw [Tryz.params3] at ht
        have hm : t ∈ [22] := by simpa using Array.mem_of_getElem? ht
        have hall : ([22].all fun u => !Tryz.prog.wantsStandIn u) = true := by kernel_rfl
        exact (show Tryz.prog.wantsStandIn t = false by simpa using List.all_eq_true.1 hall t hm)⟩)
    (goesBy_no noGo _)
#print axioms asmParses_holds
end Go.Proofs.YtpannhipchnhaaaGreatDoor
