/-
  No cell of these rows narrows 'for every input' (looked for: loops, veiled, ifaces, maps, wideKeys, modest, calm, conditions, laid).
  DERIVED. THE GIVEN ROWS OF THIS SEAT. 10 by the template 'for every input the law returns true; each argument reads behind the call as it read before'; 0 by the template 'total and deterministic' (their statements: YtfdeipckfdogfaaGreatTotals.lean).
  GIVEN WITH THE SEED: the statements are not yours to turn. If you find one false, say at which input.
  Laid BY PROGRAM, IN A SANDBOX (cutbox-rows.mjs): the forced cells as the released guide's own fill.sh prints them over the translation afa4c5151283c6b2… (all of the seat's roots in one cut). By AI agents, Wed Nov 11 2026. No macro, syntax, notation, axiom, sorry.
-/
import Derived.Test.YtfdeipckfdogfaaGreatChecked
import GoSem.Claim
import GoSem.ClaimJoined
import GoSem.ClaimMapViews
import Derived.JoinedTies
import Derived.KernelRfl
namespace Go.Proofs.YtfdeipckfdogfaaGreat
/- THE CELL 'sum', in the pinned program and in every row, IS THE sha256 OF THE DUMP (.gsa) THAT YtfdeipckfdogfaaGreatProg.lean LOADS. Nothing in Lean hashes anything: it is a label: what it is worth is what the hold of that sum in a sandbox is worth. -/
noncomputable def Tryz.pinned : Pinned := { name := "ytfdeipckfdogfaagreat", sum := "afa4c5151283c6b2b3449c565da47a7d4d7def22f70715eda54c06a481b5e9c8", checked := Tryz.checked }
namespace Rows
def none {H : Type} : Left H := { results := [], args := [] }

/-- 'tipstafflaw18.VerifyCells': WHATEVER THE INPUT: true; the input reads as it did. -/
def verifyCellsSpec : ChangeSpec := { name := "verifyCells", fn := fun _ => fun
  | [d1, d2, d3] => { results := [.lit (.bool true)], args := [d1, d2, d3] }
  | _ => none }
def verifyCellsRow : OpenClaim := { program := "ytfdeipckfdogfaagreat", sum := "afa4c5151283c6b2b3449c565da47a7d4d7def22f70715eda54c06a481b5e9c8", func := "tipstaff/tipstafflaw18.VerifyCells", spec := "verifyCells", inPlace := ["math/bits.Add64"], unfollowed := true, recurses := true, apart := false }
def VerifyCellsSaid : Prop := verifyCellsRow.holds Tryz.pinned (OpenSpec.ofChange verifyCellsSpec)

/-- ITS FALSE NEIGHBOUR: 'it returns false'. Refute it at one input. -/
def verifyCellsWrong : ChangeSpec := { name := "verifyCells", fn := fun _ => fun
  | [d1, d2, d3] => { results := [.lit (.bool false)], args := [d1, d2, d3] }
  | _ => none }
def VerifyCellsWrongFalsely : Prop := verifyCellsRow.holds Tryz.pinned (OpenSpec.ofChange verifyCellsWrong)

/-- 'tipstafflaw18.VerifyStack': WHATEVER THE INPUT: true; the input reads as it did. -/
def verifyStackSpec : ChangeSpec := { name := "verifyStack", fn := fun _ => fun
  | [d1, d2, d3] => { results := [.lit (.bool true)], args := [d1, d2, d3] }
  | _ => none }
def verifyStackRow : OpenClaim := { program := "ytfdeipckfdogfaagreat", sum := "afa4c5151283c6b2b3449c565da47a7d4d7def22f70715eda54c06a481b5e9c8", func := "tipstaff/tipstafflaw18.VerifyStack", spec := "verifyStack", inPlace := ["math/bits.Add64"], unfollowed := true, recurses := true, apart := false }
def VerifyStackSaid : Prop := verifyStackRow.holds Tryz.pinned (OpenSpec.ofChange verifyStackSpec)

/-- ITS FALSE NEIGHBOUR: 'it returns false'. Refute it at one input. -/
def verifyStackWrong : ChangeSpec := { name := "verifyStack", fn := fun _ => fun
  | [d1, d2, d3] => { results := [.lit (.bool false)], args := [d1, d2, d3] }
  | _ => none }
def VerifyStackWrongFalsely : Prop := verifyStackRow.holds Tryz.pinned (OpenSpec.ofChange verifyStackWrong)

/-- 'tipstafflaw18.VerifyLoops': WHATEVER THE INPUT: true; the input reads as it did. -/
def verifyLoopsSpec : ChangeSpec := { name := "verifyLoops", fn := fun _ => fun
  | [d] => { results := [.lit (.bool true)], args := [d] }
  | _ => none }
def verifyLoopsRow : OpenClaim := { program := "ytfdeipckfdogfaagreat", sum := "afa4c5151283c6b2b3449c565da47a7d4d7def22f70715eda54c06a481b5e9c8", func := "tipstaff/tipstafflaw18.VerifyLoops", spec := "verifyLoops", inPlace := ["math/bits.Add64"], unfollowed := true, recurses := true, apart := false }
def VerifyLoopsSaid : Prop := verifyLoopsRow.holds Tryz.pinned (OpenSpec.ofChange verifyLoopsSpec)

/-- ITS FALSE NEIGHBOUR: 'it returns false'. Refute it at one input. -/
def verifyLoopsWrong : ChangeSpec := { name := "verifyLoops", fn := fun _ => fun
  | [d] => { results := [.lit (.bool false)], args := [d] }
  | _ => none }
def VerifyLoopsWrongFalsely : Prop := verifyLoopsRow.holds Tryz.pinned (OpenSpec.ofChange verifyLoopsWrong)

/-- 'tipstafflaw18.VerifyNull': WHATEVER THE INPUT: true; the input reads as it did. -/
def verifyNullSpec : ChangeSpec := { name := "verifyNull", fn := fun _ => fun
  | [d1, d2, d3] => { results := [.lit (.bool true)], args := [d1, d2, d3] }
  | _ => none }
def verifyNullRow : OpenClaim := { program := "ytfdeipckfdogfaagreat", sum := "afa4c5151283c6b2b3449c565da47a7d4d7def22f70715eda54c06a481b5e9c8", func := "tipstaff/tipstafflaw18.VerifyNull", spec := "verifyNull", inPlace := ["math/bits.Add64"], unfollowed := true, recurses := true, apart := false }
def VerifyNullSaid : Prop := verifyNullRow.holds Tryz.pinned (OpenSpec.ofChange verifyNullSpec)

/-- ITS FALSE NEIGHBOUR: 'it returns false'. Refute it at one input. -/
def verifyNullWrong : ChangeSpec := { name := "verifyNull", fn := fun _ => fun
  | [d1, d2, d3] => { results := [.lit (.bool false)], args := [d1, d2, d3] }
  | _ => none }
def VerifyNullWrongFalsely : Prop := verifyNullRow.holds Tryz.pinned (OpenSpec.ofChange verifyNullWrong)

/-- 'tipstafflaw18.VerifyRegs': WHATEVER THE INPUT: true; the input reads as it did. -/
def verifyRegsSpec : ChangeSpec := { name := "verifyRegs", fn := fun _ => fun
  | [d1, d2] => { results := [.lit (.bool true)], args := [d1, d2] }
  | _ => none }
def verifyRegsRow : OpenClaim := { program := "ytfdeipckfdogfaagreat", sum := "afa4c5151283c6b2b3449c565da47a7d4d7def22f70715eda54c06a481b5e9c8", func := "tipstaff/tipstafflaw18.VerifyRegs", spec := "verifyRegs", inPlace := ["math/bits.Add64"], unfollowed := true, recurses := true, apart := false }
def VerifyRegsSaid : Prop := verifyRegsRow.holds Tryz.pinned (OpenSpec.ofChange verifyRegsSpec)

/-- ITS FALSE NEIGHBOUR: 'it returns false'. Refute it at one input. -/
def verifyRegsWrong : ChangeSpec := { name := "verifyRegs", fn := fun _ => fun
  | [d1, d2] => { results := [.lit (.bool false)], args := [d1, d2] }
  | _ => none }
def VerifyRegsWrongFalsely : Prop := verifyRegsRow.holds Tryz.pinned (OpenSpec.ofChange verifyRegsWrong)

/-- 'tipstafflaw18.VerifyHelpers': WHATEVER THE INPUT: true; the input reads as it did. -/
def verifyHelpersSpec : ChangeSpec := { name := "verifyHelpers", fn := fun _ => fun
  | [d1, d2, d3] => { results := [.lit (.bool true)], args := [d1, d2, d3] }
  | _ => none }
def verifyHelpersRow : OpenClaim := { program := "ytfdeipckfdogfaagreat", sum := "afa4c5151283c6b2b3449c565da47a7d4d7def22f70715eda54c06a481b5e9c8", func := "tipstaff/tipstafflaw18.VerifyHelpers", spec := "verifyHelpers", inPlace := ["math/bits.Add64"], unfollowed := true, recurses := true, apart := false }
def VerifyHelpersSaid : Prop := verifyHelpersRow.holds Tryz.pinned (OpenSpec.ofChange verifyHelpersSpec)

/-- ITS FALSE NEIGHBOUR: 'it returns false'. Refute it at one input. -/
def verifyHelpersWrong : ChangeSpec := { name := "verifyHelpers", fn := fun _ => fun
  | [d1, d2, d3] => { results := [.lit (.bool false)], args := [d1, d2, d3] }
  | _ => none }
def VerifyHelpersWrongFalsely : Prop := verifyHelpersRow.holds Tryz.pinned (OpenSpec.ofChange verifyHelpersWrong)

/-- 'tipstafflaw18.VerifySteps': WHATEVER THE INPUT: true; the input reads as it did. -/
def verifyStepsSpec : ChangeSpec := { name := "verifySteps", fn := fun _ => fun
  | [d1, d2] => { results := [.lit (.bool true)], args := [d1, d2] }
  | _ => none }
def verifyStepsRow : OpenClaim := { program := "ytfdeipckfdogfaagreat", sum := "afa4c5151283c6b2b3449c565da47a7d4d7def22f70715eda54c06a481b5e9c8", func := "tipstaff/tipstafflaw18.VerifySteps", spec := "verifySteps", inPlace := ["math/bits.Add64"], unfollowed := true, recurses := true, apart := false }
def VerifyStepsSaid : Prop := verifyStepsRow.holds Tryz.pinned (OpenSpec.ofChange verifyStepsSpec)

/-- ITS FALSE NEIGHBOUR: 'it returns false'. Refute it at one input. -/
def verifyStepsWrong : ChangeSpec := { name := "verifySteps", fn := fun _ => fun
  | [d1, d2] => { results := [.lit (.bool false)], args := [d1, d2] }
  | _ => none }
def VerifyStepsWrongFalsely : Prop := verifyStepsRow.holds Tryz.pinned (OpenSpec.ofChange verifyStepsWrong)

/-- 'tipstafflaw18.VerifyContext': WHATEVER THE INPUT: true; the input reads as it did. -/
def verifyContextSpec : ChangeSpec := { name := "verifyContext", fn := fun _ => fun
  | [d1, d2, d3] => { results := [.lit (.bool true)], args := [d1, d2, d3] }
  | _ => none }
def verifyContextRow : OpenClaim := { program := "ytfdeipckfdogfaagreat", sum := "afa4c5151283c6b2b3449c565da47a7d4d7def22f70715eda54c06a481b5e9c8", func := "tipstaff/tipstafflaw18.VerifyContext", spec := "verifyContext", inPlace := ["math/bits.Add64"], unfollowed := true, recurses := true, apart := false }
def VerifyContextSaid : Prop := verifyContextRow.holds Tryz.pinned (OpenSpec.ofChange verifyContextSpec)

/-- ITS FALSE NEIGHBOUR: 'it returns false'. Refute it at one input. -/
def verifyContextWrong : ChangeSpec := { name := "verifyContext", fn := fun _ => fun
  | [d1, d2, d3] => { results := [.lit (.bool false)], args := [d1, d2, d3] }
  | _ => none }
def VerifyContextWrongFalsely : Prop := verifyContextRow.holds Tryz.pinned (OpenSpec.ofChange verifyContextWrong)

/-- 'tipstafflaw18.VerifyOps': WHATEVER THE INPUT: true; the input reads as it did. -/
def verifyOpsSpec : ChangeSpec := { name := "verifyOps", fn := fun _ => fun
  | [d1, d2, d3] => { results := [.lit (.bool true)], args := [d1, d2, d3] }
  | _ => none }
def verifyOpsRow : OpenClaim := { program := "ytfdeipckfdogfaagreat", sum := "afa4c5151283c6b2b3449c565da47a7d4d7def22f70715eda54c06a481b5e9c8", func := "tipstaff/tipstafflaw18.VerifyOps", spec := "verifyOps", inPlace := ["math/bits.Add64"], unfollowed := true, recurses := true, apart := false }
def VerifyOpsSaid : Prop := verifyOpsRow.holds Tryz.pinned (OpenSpec.ofChange verifyOpsSpec)

/-- ITS FALSE NEIGHBOUR: 'it returns false'. Refute it at one input. -/
def verifyOpsWrong : ChangeSpec := { name := "verifyOps", fn := fun _ => fun
  | [d1, d2, d3] => { results := [.lit (.bool false)], args := [d1, d2, d3] }
  | _ => none }
def VerifyOpsWrongFalsely : Prop := verifyOpsRow.holds Tryz.pinned (OpenSpec.ofChange verifyOpsWrong)

/-- 'tipstafflaw18.VerifyCompares': WHATEVER THE INPUT: true; the input reads as it did. -/
def verifyComparesSpec : ChangeSpec := { name := "verifyCompares", fn := fun _ => fun
  | [d1, d2, d3] => { results := [.lit (.bool true)], args := [d1, d2, d3] }
  | _ => none }
def verifyComparesRow : OpenClaim := { program := "ytfdeipckfdogfaagreat", sum := "afa4c5151283c6b2b3449c565da47a7d4d7def22f70715eda54c06a481b5e9c8", func := "tipstaff/tipstafflaw18.VerifyCompares", spec := "verifyCompares", inPlace := ["math/bits.Add64"], unfollowed := true, recurses := true, apart := false }
def VerifyComparesSaid : Prop := verifyComparesRow.holds Tryz.pinned (OpenSpec.ofChange verifyComparesSpec)

/-- ITS FALSE NEIGHBOUR: 'it returns false'. Refute it at one input. -/
def verifyComparesWrong : ChangeSpec := { name := "verifyCompares", fn := fun _ => fun
  | [d1, d2, d3] => { results := [.lit (.bool false)], args := [d1, d2, d3] }
  | _ => none }
def VerifyComparesWrongFalsely : Prop := verifyComparesRow.holds Tryz.pinned (OpenSpec.ofChange verifyComparesWrong)

/- THE SECOND FORM. 'bulk': how many values and letters a reading holds, each counted each time it is reached (what is shared counts as often as it is met; a slice's spare places count too). A statement '..UptoSaid' is the law's where the arguments, and the package variables that the reading takes, are together of bulk at most 1048576: NARROWER than '..Said'. Prove '..Said' where nothing that the law and all that it calls make is longer than what came in: it says more and counts as full. Else prove '..UptoSaid'. A law counts once. -/
mutual
def uptoBulk {H : Type} : DataW H → Nat
  | .lit (.string bytes) => bytes.length + 1
  | .lit _ => 1
  | .nil => 1
  | .ptr d => uptoBulk d + 1
  | .slice elems spare => uptoBulkAll elems + uptoBulkAll spare + 1
  | .agg parts => uptoBulkAll parts + 1
  | .iface _ d => uptoBulk d + 1
  | .map entries => uptoBulkEntries entries + 1
  | .held _ => 1
def uptoBulkAll {H : Type} : List (DataW H) → Nat
  | [] => 0
  | d :: r => uptoBulk d + uptoBulkAll r
def uptoBulkEntries {H : Type} : List (Lit × DataW H) → Nat
  | [] => 0
  | x :: r => uptoBulkEntry x + uptoBulkEntries r
def uptoBulkEntry {H : Type} : Lit × DataW H → Nat
  | (.string bytes, d) => bytes.length + uptoBulk d + 1
  | (_, d) => uptoBulk d + 1
 end
def uptoSmall : (H : Type) → List (DataW H) → Bool := fun _ ds => decide (uptoBulkAll ds ≤ 1048576)
def OpenSpec.upto (s : _root_.Go.ChangeSpec) : _root_.Go.OpenSpec := { _root_.Go.OpenSpec.ofChange s with cond := some uptoSmall }

/-- 'tipstafflaw18.VerifyCells', WHERE WHAT IT READS IS OF BULK AT MOST 1048576: true; the input reads as it did. -/
def verifyCellsUptoRow : OpenClaim := { program := "ytfdeipckfdogfaagreat", sum := "afa4c5151283c6b2b3449c565da47a7d4d7def22f70715eda54c06a481b5e9c8", func := "tipstaff/tipstafflaw18.VerifyCells", spec := "verifyCells", inPlace := ["math/bits.Add64"], unfollowed := true, recurses := true, apart := false, narrowed := true }
def VerifyCellsUptoSaid : Prop := verifyCellsUptoRow.holds Tryz.pinned (OpenSpec.upto verifyCellsSpec)

/-- 'tipstafflaw18.VerifyStack', WHERE WHAT IT READS IS OF BULK AT MOST 1048576: true; the input reads as it did. -/
def verifyStackUptoRow : OpenClaim := { program := "ytfdeipckfdogfaagreat", sum := "afa4c5151283c6b2b3449c565da47a7d4d7def22f70715eda54c06a481b5e9c8", func := "tipstaff/tipstafflaw18.VerifyStack", spec := "verifyStack", inPlace := ["math/bits.Add64"], unfollowed := true, recurses := true, apart := false, narrowed := true }
def VerifyStackUptoSaid : Prop := verifyStackUptoRow.holds Tryz.pinned (OpenSpec.upto verifyStackSpec)

/-- 'tipstafflaw18.VerifyLoops', WHERE WHAT IT READS IS OF BULK AT MOST 1048576: true; the input reads as it did. -/
def verifyLoopsUptoRow : OpenClaim := { program := "ytfdeipckfdogfaagreat", sum := "afa4c5151283c6b2b3449c565da47a7d4d7def22f70715eda54c06a481b5e9c8", func := "tipstaff/tipstafflaw18.VerifyLoops", spec := "verifyLoops", inPlace := ["math/bits.Add64"], unfollowed := true, recurses := true, apart := false, narrowed := true }
def VerifyLoopsUptoSaid : Prop := verifyLoopsUptoRow.holds Tryz.pinned (OpenSpec.upto verifyLoopsSpec)

/-- 'tipstafflaw18.VerifyNull', WHERE WHAT IT READS IS OF BULK AT MOST 1048576: true; the input reads as it did. -/
def verifyNullUptoRow : OpenClaim := { program := "ytfdeipckfdogfaagreat", sum := "afa4c5151283c6b2b3449c565da47a7d4d7def22f70715eda54c06a481b5e9c8", func := "tipstaff/tipstafflaw18.VerifyNull", spec := "verifyNull", inPlace := ["math/bits.Add64"], unfollowed := true, recurses := true, apart := false, narrowed := true }
def VerifyNullUptoSaid : Prop := verifyNullUptoRow.holds Tryz.pinned (OpenSpec.upto verifyNullSpec)

/-- 'tipstafflaw18.VerifyRegs', WHERE WHAT IT READS IS OF BULK AT MOST 1048576: true; the input reads as it did. -/
def verifyRegsUptoRow : OpenClaim := { program := "ytfdeipckfdogfaagreat", sum := "afa4c5151283c6b2b3449c565da47a7d4d7def22f70715eda54c06a481b5e9c8", func := "tipstaff/tipstafflaw18.VerifyRegs", spec := "verifyRegs", inPlace := ["math/bits.Add64"], unfollowed := true, recurses := true, apart := false, narrowed := true }
def VerifyRegsUptoSaid : Prop := verifyRegsUptoRow.holds Tryz.pinned (OpenSpec.upto verifyRegsSpec)

/-- 'tipstafflaw18.VerifyHelpers', WHERE WHAT IT READS IS OF BULK AT MOST 1048576: true; the input reads as it did. -/
def verifyHelpersUptoRow : OpenClaim := { program := "ytfdeipckfdogfaagreat", sum := "afa4c5151283c6b2b3449c565da47a7d4d7def22f70715eda54c06a481b5e9c8", func := "tipstaff/tipstafflaw18.VerifyHelpers", spec := "verifyHelpers", inPlace := ["math/bits.Add64"], unfollowed := true, recurses := true, apart := false, narrowed := true }
def VerifyHelpersUptoSaid : Prop := verifyHelpersUptoRow.holds Tryz.pinned (OpenSpec.upto verifyHelpersSpec)

/-- 'tipstafflaw18.VerifySteps', WHERE WHAT IT READS IS OF BULK AT MOST 1048576: true; the input reads as it did. -/
def verifyStepsUptoRow : OpenClaim := { program := "ytfdeipckfdogfaagreat", sum := "afa4c5151283c6b2b3449c565da47a7d4d7def22f70715eda54c06a481b5e9c8", func := "tipstaff/tipstafflaw18.VerifySteps", spec := "verifySteps", inPlace := ["math/bits.Add64"], unfollowed := true, recurses := true, apart := false, narrowed := true }
def VerifyStepsUptoSaid : Prop := verifyStepsUptoRow.holds Tryz.pinned (OpenSpec.upto verifyStepsSpec)

/-- 'tipstafflaw18.VerifyContext', WHERE WHAT IT READS IS OF BULK AT MOST 1048576: true; the input reads as it did. -/
def verifyContextUptoRow : OpenClaim := { program := "ytfdeipckfdogfaagreat", sum := "afa4c5151283c6b2b3449c565da47a7d4d7def22f70715eda54c06a481b5e9c8", func := "tipstaff/tipstafflaw18.VerifyContext", spec := "verifyContext", inPlace := ["math/bits.Add64"], unfollowed := true, recurses := true, apart := false, narrowed := true }
def VerifyContextUptoSaid : Prop := verifyContextUptoRow.holds Tryz.pinned (OpenSpec.upto verifyContextSpec)

/-- 'tipstafflaw18.VerifyOps', WHERE WHAT IT READS IS OF BULK AT MOST 1048576: true; the input reads as it did. -/
def verifyOpsUptoRow : OpenClaim := { program := "ytfdeipckfdogfaagreat", sum := "afa4c5151283c6b2b3449c565da47a7d4d7def22f70715eda54c06a481b5e9c8", func := "tipstaff/tipstafflaw18.VerifyOps", spec := "verifyOps", inPlace := ["math/bits.Add64"], unfollowed := true, recurses := true, apart := false, narrowed := true }
def VerifyOpsUptoSaid : Prop := verifyOpsUptoRow.holds Tryz.pinned (OpenSpec.upto verifyOpsSpec)

/-- 'tipstafflaw18.VerifyCompares', WHERE WHAT IT READS IS OF BULK AT MOST 1048576: true; the input reads as it did. -/
def verifyComparesUptoRow : OpenClaim := { program := "ytfdeipckfdogfaagreat", sum := "afa4c5151283c6b2b3449c565da47a7d4d7def22f70715eda54c06a481b5e9c8", func := "tipstaff/tipstafflaw18.VerifyCompares", spec := "verifyCompares", inPlace := ["math/bits.Add64"], unfollowed := true, recurses := true, apart := false, narrowed := true }
def VerifyComparesUptoSaid : Prop := verifyComparesUptoRow.holds Tryz.pinned (OpenSpec.upto verifyComparesSpec)

end Rows
end Go.Proofs.YtfdeipckfdogfaaGreat
