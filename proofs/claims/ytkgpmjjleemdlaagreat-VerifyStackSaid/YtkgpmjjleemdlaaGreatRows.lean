/-
  No cell of these rows narrows 'for every input' (looked for: loops, veiled, ifaces, maps, wideKeys, modest, calm, conditions, laid).
  DERIVED. THE GIVEN ROWS OF THIS SEAT. 4 by the template 'for every input the law returns true; each argument reads behind the call as it read before'; 0 by the template 'total and deterministic' (their statements: YtkgpmjjleemdlaaGreatTotals.lean).
  GIVEN WITH THE SEED: the statements are not yours to turn. If you find one false, say at which input.
  Laid BY PROGRAM, IN A SANDBOX (cutbox-rows.mjs): the forced cells as the released guide's own fill.sh prints them over the translation b6a572eba12481af… (all of the seat's roots in one cut). By AI agents, Wed Nov 11 2026. No macro, syntax, notation, axiom, sorry.
-/
import Derived.Test.YtkgpmjjleemdlaaGreatChecked
import GoSem.Claim
import GoSem.ClaimJoined
import GoSem.ClaimMapViews
import Derived.JoinedTies
import Derived.KernelRfl
namespace Go.Proofs.YtkgpmjjleemdlaaGreat
/- THE CELL 'sum', in the pinned program and in every row, IS THE sha256 OF THE DUMP (.gsa) THAT YtkgpmjjleemdlaaGreatProg.lean LOADS. Nothing in Lean hashes anything: it is a label: what it is worth is what the hold of that sum in a sandbox is worth. -/
noncomputable def Tryz.pinned : Pinned := { name := "ytkgpmjjleemdlaagreat", sum := "b6a572eba12481af01e950607a1e8cf99f52a904d5aa8c5cf792097f9756ad1b", checked := Tryz.checked }
namespace Rows
def none {H : Type} : Left H := { results := [], args := [] }

/-- 'tipstafflaw18.VerifyStack': WHATEVER THE INPUT: true; the input reads as it did. -/
def verifyStackSpec : ChangeSpec := { name := "verifyStack", fn := fun _ => fun
  | [d1, d2, d3] => { results := [.lit (.bool true)], args := [d1, d2, d3] }
  | _ => none }
def verifyStackRow : OpenClaim := { program := "ytkgpmjjleemdlaagreat", sum := "b6a572eba12481af01e950607a1e8cf99f52a904d5aa8c5cf792097f9756ad1b", func := "tipstaff/tipstafflaw18.VerifyStack", spec := "verifyStack", inPlace := ["math/bits.Add64"], unfollowed := true, recurses := true, apart := false }
def VerifyStackSaid : Prop := verifyStackRow.holds Tryz.pinned (OpenSpec.ofChange verifyStackSpec)

/-- ITS FALSE NEIGHBOUR: 'it returns false'. Refute it at one input. -/
def verifyStackWrong : ChangeSpec := { name := "verifyStack", fn := fun _ => fun
  | [d1, d2, d3] => { results := [.lit (.bool false)], args := [d1, d2, d3] }
  | _ => none }
def VerifyStackWrongFalsely : Prop := verifyStackRow.holds Tryz.pinned (OpenSpec.ofChange verifyStackWrong)

/-- 'tipstafflaw18.VerifyLoops': WHATEVER THE INPUT: true; the input reads as it did. -/
def verifyLoopsSpec : ChangeSpec := { name := "verifyLoops", fn := fun _ => fun
  | [d] => { results := [.lit (.bool true)], args := [d] }
  | _ => none }
def verifyLoopsRow : OpenClaim := { program := "ytkgpmjjleemdlaagreat", sum := "b6a572eba12481af01e950607a1e8cf99f52a904d5aa8c5cf792097f9756ad1b", func := "tipstaff/tipstafflaw18.VerifyLoops", spec := "verifyLoops", inPlace := ["math/bits.Add64"], unfollowed := true, recurses := true, apart := false }
def VerifyLoopsSaid : Prop := verifyLoopsRow.holds Tryz.pinned (OpenSpec.ofChange verifyLoopsSpec)

/-- ITS FALSE NEIGHBOUR: 'it returns false'. Refute it at one input. -/
def verifyLoopsWrong : ChangeSpec := { name := "verifyLoops", fn := fun _ => fun
  | [d] => { results := [.lit (.bool false)], args := [d] }
  | _ => none }
def VerifyLoopsWrongFalsely : Prop := verifyLoopsRow.holds Tryz.pinned (OpenSpec.ofChange verifyLoopsWrong)

/-- 'tipstafflaw18.VerifySteps': WHATEVER THE INPUT: true; the input reads as it did. -/
def verifyStepsSpec : ChangeSpec := { name := "verifySteps", fn := fun _ => fun
  | [d1, d2] => { results := [.lit (.bool true)], args := [d1, d2] }
  | _ => none }
def verifyStepsRow : OpenClaim := { program := "ytkgpmjjleemdlaagreat", sum := "b6a572eba12481af01e950607a1e8cf99f52a904d5aa8c5cf792097f9756ad1b", func := "tipstaff/tipstafflaw18.VerifySteps", spec := "verifySteps", inPlace := ["math/bits.Add64"], unfollowed := true, recurses := true, apart := false }
def VerifyStepsSaid : Prop := verifyStepsRow.holds Tryz.pinned (OpenSpec.ofChange verifyStepsSpec)

/-- ITS FALSE NEIGHBOUR: 'it returns false'. Refute it at one input. -/
def verifyStepsWrong : ChangeSpec := { name := "verifySteps", fn := fun _ => fun
  | [d1, d2] => { results := [.lit (.bool false)], args := [d1, d2] }
  | _ => none }
def VerifyStepsWrongFalsely : Prop := verifyStepsRow.holds Tryz.pinned (OpenSpec.ofChange verifyStepsWrong)

/-- 'tipstafflaw18.VerifyNames': WHATEVER THE INPUT: true; the input reads as it did. -/
def verifyNamesSpec : ChangeSpec := { name := "verifyNames", fn := fun _ => fun
  | [d] => { results := [.lit (.bool true)], args := [d] }
  | _ => none }
def verifyNamesRow : OpenClaim := { program := "ytkgpmjjleemdlaagreat", sum := "b6a572eba12481af01e950607a1e8cf99f52a904d5aa8c5cf792097f9756ad1b", func := "tipstaff/tipstafflaw18.VerifyNames", spec := "verifyNames", inPlace := ["math/bits.Add64"], unfollowed := true, recurses := true, apart := false }
def VerifyNamesSaid : Prop := verifyNamesRow.holds Tryz.pinned (OpenSpec.ofChange verifyNamesSpec)

/-- ITS FALSE NEIGHBOUR: 'it returns false'. Refute it at one input. -/
def verifyNamesWrong : ChangeSpec := { name := "verifyNames", fn := fun _ => fun
  | [d] => { results := [.lit (.bool false)], args := [d] }
  | _ => none }
def VerifyNamesWrongFalsely : Prop := verifyNamesRow.holds Tryz.pinned (OpenSpec.ofChange verifyNamesWrong)

/- THE SECOND FORM. 'bulk': how many values and letters a reading holds, each counted each time it is reached (what is shared counts as often as it is met; a slice's spare places count too). A statement '..UptoSaid' is the law's where the arguments, and the package variables that the reading takes, are together of bulk at most 1048576: NARROWER than '..Said'. Prove '..Said' where nothing that the law and all that it calls make is longer than what came in: it says more and counts as full. Else prove '..UptoSaid'. A law counts once. -/
mutual
def uptoBulk {H : Type} : DataW H → Nat
  | .lit (.string bytes) => bytes.length + 1
  | .lit _ => 1
  | .nil => 1
  | .ptr d => uptoBulk d + 1
  | .slice elems spare => uptoBulkAll elems + uptoBulkAll spare + 1
  | .agg parts => uptoBulkAll parts + 1
  | .iface _ d => uptoBulk d + 1
  | .map entries => uptoBulkEntries entries + 1
  | .held _ => 1
def uptoBulkAll {H : Type} : List (DataW H) → Nat
  | [] => 0
  | d :: r => uptoBulk d + uptoBulkAll r
def uptoBulkEntries {H : Type} : List (Lit × DataW H) → Nat
  | [] => 0
  | x :: r => uptoBulkEntry x + uptoBulkEntries r
def uptoBulkEntry {H : Type} : Lit × DataW H → Nat
  | (.string bytes, d) => bytes.length + uptoBulk d + 1
  | (_, d) => uptoBulk d + 1
 end
def uptoSmall : (H : Type) → List (DataW H) → Bool := fun _ ds => decide (uptoBulkAll ds ≤ 1048576)
def OpenSpec.upto (s : _root_.Go.ChangeSpec) : _root_.Go.OpenSpec := { _root_.Go.OpenSpec.ofChange s with cond := some uptoSmall }

/-- 'tipstafflaw18.VerifyStack', WHERE WHAT IT READS IS OF BULK AT MOST 1048576: true; the input reads as it did. -/
def verifyStackUptoRow : OpenClaim := { program := "ytkgpmjjleemdlaagreat", sum := "b6a572eba12481af01e950607a1e8cf99f52a904d5aa8c5cf792097f9756ad1b", func := "tipstaff/tipstafflaw18.VerifyStack", spec := "verifyStack", inPlace := ["math/bits.Add64"], unfollowed := true, recurses := true, apart := false, narrowed := true }
def VerifyStackUptoSaid : Prop := verifyStackUptoRow.holds Tryz.pinned (OpenSpec.upto verifyStackSpec)

/-- 'tipstafflaw18.VerifyLoops', WHERE WHAT IT READS IS OF BULK AT MOST 1048576: true; the input reads as it did. -/
def verifyLoopsUptoRow : OpenClaim := { program := "ytkgpmjjleemdlaagreat", sum := "b6a572eba12481af01e950607a1e8cf99f52a904d5aa8c5cf792097f9756ad1b", func := "tipstaff/tipstafflaw18.VerifyLoops", spec := "verifyLoops", inPlace := ["math/bits.Add64"], unfollowed := true, recurses := true, apart := false, narrowed := true }
def VerifyLoopsUptoSaid : Prop := verifyLoopsUptoRow.holds Tryz.pinned (OpenSpec.upto verifyLoopsSpec)

/-- 'tipstafflaw18.VerifySteps', WHERE WHAT IT READS IS OF BULK AT MOST 1048576: true; the input reads as it did. -/
def verifyStepsUptoRow : OpenClaim := { program := "ytkgpmjjleemdlaagreat", sum := "b6a572eba12481af01e950607a1e8cf99f52a904d5aa8c5cf792097f9756ad1b", func := "tipstaff/tipstafflaw18.VerifySteps", spec := "verifySteps", inPlace := ["math/bits.Add64"], unfollowed := true, recurses := true, apart := false, narrowed := true }
def VerifyStepsUptoSaid : Prop := verifyStepsUptoRow.holds Tryz.pinned (OpenSpec.upto verifyStepsSpec)

/-- 'tipstafflaw18.VerifyNames', WHERE WHAT IT READS IS OF BULK AT MOST 1048576: true; the input reads as it did. -/
def verifyNamesUptoRow : OpenClaim := { program := "ytkgpmjjleemdlaagreat", sum := "b6a572eba12481af01e950607a1e8cf99f52a904d5aa8c5cf792097f9756ad1b", func := "tipstaff/tipstafflaw18.VerifyNames", spec := "verifyNames", inPlace := ["math/bits.Add64"], unfollowed := true, recurses := true, apart := false, narrowed := true }
def VerifyNamesUptoSaid : Prop := verifyNamesUptoRow.holds Tryz.pinned (OpenSpec.upto verifyNamesSpec)

end Rows
end Go.Proofs.YtkgpmjjleemdlaaGreat
