/- RightsParses returns true for every input, and its arguments are as they were; the variables that its row lists are as the program's text lays them (tied by the card). -/
import Derived.Test.YtaaicadjoghbcaaDoorRightsParsesRow
import Derived.Test.YtaaicadjoghbcaaDoorCards
import Derived.Test.YtaaicadjoghbcaaDoorTie
set_option linter.unusedSimpArgs false
set_option linter.unusedVariables false
set_option maxHeartbeats 20000000
namespace Go.Proofs.YtaaicadjoghbcaaDoor
open Go.ChangeShapes Go.WideShapes Go.ChangeAt Go.RowKit
theorem goesBy_no {P : Program} (h : P.funcs.any Func.goes = false) (c : OpenClaim) : false = c.goesBy P := by
  have h1 : ∀ (g : Nat), (P.funcs[g]?).any Func.goes = false := fun g => by
    cases e : P.funcs[g]? with
    | none => rfl
    | some fn =>
      have := Array.any_eq_false.1 h g (Array.getElem?_eq_some_iff.1 e).1
      rw [(Array.getElem?_eq_some_iff.1 e).2] at this
      simpa using this
  have h2 : ∀ f, P.goes f = false := fun f => by
    unfold Program.goes
    rw [h, Bool.and_false, Bool.or_false, List.any_eq_false]
    intro g _
    rw [h1 g]
    exact Bool.false_ne_true
  unfold OpenClaim.goesBy Program.goesAt Program.goesFrom
  have h3 : (P.funcNamed c.func).any P.goes = false := by
    cases P.funcNamed c.func with
    | none => rfl
    | some f => exact h2 f
  rw [h3, Bool.false_or]
  split
  · rfl
  · symm
    rw [List.any_eq_false]
    intro f _
    rw [h2 f]
    exact Bool.false_ne_true
theorem noGo : Tryd.pinned.checked.prog.funcs.any Func.goes = false := by kernel_rfl
theorem rightsParses_holds : Rows.RightsParsesCardSaid :=
  Claim7.holds_tied_plain_at .later [] [.data, .data, .data, .data, .sentinel, .sentinel, .widerDeep, .pinned] true (true, "3ed023f88d9a2d1729d3ae215122ca176b7c913ec7fb687f223870349cd167a1") true
    rightsParses_row (fun _ h => by cases h) (by as_aux_lemma => kernel_rfl) (fun _ h => by cases h) rightsParses_row_tie rfl ⟨rfl, rfl⟩ (by as_aux_lemma => kernel_rfl) rfl
    (fun f fn hf hfn => by
      obtain rfl : f = 4 := Option.some.inj ((show Tryd.prog.funcNamed "tipstaff/tipstafflaw11.RightsParses" = some 4 by kernel_rfl).symm.trans hf) |>.symm
      obtain rfl : fn = Tryd.f4 := (Option.some.inj (Tryd.func4.symm.trans hfn)).symm
      exact ⟨by kernel_rfl, fun j t ht => by
        rw [Tryd.params4] at ht
        have hm : t ∈ [9] := by simpa using Array.mem_of_getElem? ht
        have hall : ([9].all fun u => !Tryd.prog.wantsStandIn u) = true := by kernel_rfl
        exact (show Tryd.prog.wantsStandIn t = false by simpa using List.all_eq_true.1 hall t hm)⟩)
    (goesBy_no noGo _)
#print axioms rightsParses_holds
end Go.Proofs.YtaaicadjoghbcaaDoor
