/-
  No cell of these rows narrows 'for every input' (looked for: loops, veiled, ifaces, maps, wideKeys, modest, calm, conditions, laid).
  DERIVED. THE GIVEN ROWS OF THIS SEAT. 7 by the template 'for every input the law returns true; each argument reads behind the call as it read before'; 0 by the template 'total and deterministic' (their statements: YtepbpapbkonhnaaTotals.lean).
  GIVEN WITH THE SEED: the statements are not yours to turn. If you find one false, say at which input.
  Laid BY PROGRAM, IN A SANDBOX (cutbox-rows.mjs): the forced cells as the released guide's own fill.sh prints them over the translation 2f5a4d20ff8325b4… (all of the seat's roots in one cut). By AI agents, Wed Nov 11 2026. No macro, syntax, notation, axiom, sorry.
-/
import Derived.Test.YtepbpapbkonhnaaChecked
import GoSem.Claim
import GoSem.ClaimJoined
import GoSem.ClaimMapViews
import Derived.JoinedTies
import Derived.KernelRfl
namespace Go.Proofs.Ytepbpapbkonhnaa
/- THE CELL 'sum', in the pinned program and in every row, IS THE sha256 OF THE DUMP (.gsa) THAT YtepbpapbkonhnaaProg.lean LOADS. Nothing in Lean hashes anything: it is a label: what it is worth is what the hold of that sum in a sandbox is worth. -/
noncomputable def Try.pinned : Pinned := { name := "ytepbpapbkonhnaa", sum := "2f5a4d20ff8325b42562de1428b48e788f5a32f41687be863062b91ea4e6d90a", checked := Try.checked }
namespace Rows
def none {H : Type} : Left H := { results := [], args := [] }

/-- 'tipstafflaw19.RegionCells': WHATEVER THE INPUT: true; the input reads as it did. -/
def regionCellsSpec : ChangeSpec := { name := "regionCells", fn := fun _ => fun
  | [d1, d2, d3] => { results := [.lit (.bool true)], args := [d1, d2, d3] }
  | _ => none }
def regionCellsRow : OpenClaim := { program := "ytepbpapbkonhnaa", sum := "2f5a4d20ff8325b42562de1428b48e788f5a32f41687be863062b91ea4e6d90a", func := "tipstaff/tipstafflaw19.RegionCells", spec := "regionCells", unfollowed := true, recurses := true, apart := false }
def RegionCellsSaid : Prop := regionCellsRow.holds Try.pinned (OpenSpec.ofChange regionCellsSpec)

/-- ITS FALSE NEIGHBOUR: 'it returns false'. Refute it at one input. -/
def regionCellsWrong : ChangeSpec := { name := "regionCells", fn := fun _ => fun
  | [d1, d2, d3] => { results := [.lit (.bool false)], args := [d1, d2, d3] }
  | _ => none }
def RegionCellsWrongFalsely : Prop := regionCellsRow.holds Try.pinned (OpenSpec.ofChange regionCellsWrong)

/-- 'tipstafflaw20.VmCounts': WHATEVER THE INPUT: true; the input reads as it did. -/
def vmCountsSpec : ChangeSpec := { name := "vmCounts", fn := fun _ => fun
  | [d1, d2] => { results := [.lit (.bool true)], args := [d1, d2] }
  | _ => none }
def vmCountsRow : OpenClaim := { program := "ytepbpapbkonhnaa", sum := "2f5a4d20ff8325b42562de1428b48e788f5a32f41687be863062b91ea4e6d90a", func := "tipstaff/tipstafflaw20.VmCounts", spec := "vmCounts", unfollowed := true, recurses := true, apart := false }
def VmCountsSaid : Prop := vmCountsRow.holds Try.pinned (OpenSpec.ofChange vmCountsSpec)

/-- ITS FALSE NEIGHBOUR: 'it returns false'. Refute it at one input. -/
def vmCountsWrong : ChangeSpec := { name := "vmCounts", fn := fun _ => fun
  | [d1, d2] => { results := [.lit (.bool false)], args := [d1, d2] }
  | _ => none }
def VmCountsWrongFalsely : Prop := vmCountsRow.holds Try.pinned (OpenSpec.ofChange vmCountsWrong)

/-- 'tipstafflaw20.VmSums': WHATEVER THE INPUT: true; the input reads as it did. -/
def vmSumsSpec : ChangeSpec := { name := "vmSums", fn := fun _ => fun
  | [d1, d2, d3] => { results := [.lit (.bool true)], args := [d1, d2, d3] }
  | _ => none }
def vmSumsRow : OpenClaim := { program := "ytepbpapbkonhnaa", sum := "2f5a4d20ff8325b42562de1428b48e788f5a32f41687be863062b91ea4e6d90a", func := "tipstaff/tipstafflaw20.VmSums", spec := "vmSums", unfollowed := true, recurses := true, apart := false }
def VmSumsSaid : Prop := vmSumsRow.holds Try.pinned (OpenSpec.ofChange vmSumsSpec)

/-- ITS FALSE NEIGHBOUR: 'it returns false'. Refute it at one input. -/
def vmSumsWrong : ChangeSpec := { name := "vmSums", fn := fun _ => fun
  | [d1, d2, d3] => { results := [.lit (.bool false)], args := [d1, d2, d3] }
  | _ => none }
def VmSumsWrongFalsely : Prop := vmSumsRow.holds Try.pinned (OpenSpec.ofChange vmSumsWrong)

/-- 'tipstafflaw20.VmLuck': WHATEVER THE INPUT: true; the input reads as it did. -/
def vmLuckSpec : ChangeSpec := { name := "vmLuck", fn := fun _ => fun
  | [d1, d2, d3] => { results := [.lit (.bool true)], args := [d1, d2, d3] }
  | _ => none }
def vmLuckRow : OpenClaim := { program := "ytepbpapbkonhnaa", sum := "2f5a4d20ff8325b42562de1428b48e788f5a32f41687be863062b91ea4e6d90a", func := "tipstaff/tipstafflaw20.VmLuck", spec := "vmLuck", unfollowed := true, recurses := true, apart := false }
def VmLuckSaid : Prop := vmLuckRow.holds Try.pinned (OpenSpec.ofChange vmLuckSpec)

/-- ITS FALSE NEIGHBOUR: 'it returns false'. Refute it at one input. -/
def vmLuckWrong : ChangeSpec := { name := "vmLuck", fn := fun _ => fun
  | [d1, d2, d3] => { results := [.lit (.bool false)], args := [d1, d2, d3] }
  | _ => none }
def VmLuckWrongFalsely : Prop := vmLuckRow.holds Try.pinned (OpenSpec.ofChange vmLuckWrong)

/-- 'tipstafflaw20.VmAtomic': WHATEVER THE INPUT: true; the input reads as it did. -/
def vmAtomicSpec : ChangeSpec := { name := "vmAtomic", fn := fun _ => fun
  | [d1, d2] => { results := [.lit (.bool true)], args := [d1, d2] }
  | _ => none }
def vmAtomicRow : OpenClaim := { program := "ytepbpapbkonhnaa", sum := "2f5a4d20ff8325b42562de1428b48e788f5a32f41687be863062b91ea4e6d90a", func := "tipstaff/tipstafflaw20.VmAtomic", spec := "vmAtomic", unfollowed := true, recurses := true, apart := false }
def VmAtomicSaid : Prop := vmAtomicRow.holds Try.pinned (OpenSpec.ofChange vmAtomicSpec)

/-- ITS FALSE NEIGHBOUR: 'it returns false'. Refute it at one input. -/
def vmAtomicWrong : ChangeSpec := { name := "vmAtomic", fn := fun _ => fun
  | [d1, d2] => { results := [.lit (.bool false)], args := [d1, d2] }
  | _ => none }
def VmAtomicWrongFalsely : Prop := vmAtomicRow.holds Try.pinned (OpenSpec.ofChange vmAtomicWrong)

/-- 'tipstafflaw20.VmPlaces': WHATEVER THE INPUT: true; the input reads as it did. -/
def vmPlacesSpec : ChangeSpec := { name := "vmPlaces", fn := fun _ => fun
  | [d1, d2] => { results := [.lit (.bool true)], args := [d1, d2] }
  | _ => none }
def vmPlacesRow : OpenClaim := { program := "ytepbpapbkonhnaa", sum := "2f5a4d20ff8325b42562de1428b48e788f5a32f41687be863062b91ea4e6d90a", func := "tipstaff/tipstafflaw20.VmPlaces", spec := "vmPlaces", unfollowed := true, recurses := true, apart := false }
def VmPlacesSaid : Prop := vmPlacesRow.holds Try.pinned (OpenSpec.ofChange vmPlacesSpec)

/-- ITS FALSE NEIGHBOUR: 'it returns false'. Refute it at one input. -/
def vmPlacesWrong : ChangeSpec := { name := "vmPlaces", fn := fun _ => fun
  | [d1, d2] => { results := [.lit (.bool false)], args := [d1, d2] }
  | _ => none }
def VmPlacesWrongFalsely : Prop := vmPlacesRow.holds Try.pinned (OpenSpec.ofChange vmPlacesWrong)

/-- 'tipstafflaw20.VmFaults': WHATEVER THE INPUT: true; the input reads as it did. -/
def vmFaultsSpec : ChangeSpec := { name := "vmFaults", fn := fun _ => fun
  | [d1, d2] => { results := [.lit (.bool true)], args := [d1, d2] }
  | _ => none }
def vmFaultsRow : OpenClaim := { program := "ytepbpapbkonhnaa", sum := "2f5a4d20ff8325b42562de1428b48e788f5a32f41687be863062b91ea4e6d90a", func := "tipstaff/tipstafflaw20.VmFaults", spec := "vmFaults", unfollowed := true, recurses := true, apart := false }
def VmFaultsSaid : Prop := vmFaultsRow.holds Try.pinned (OpenSpec.ofChange vmFaultsSpec)

/-- ITS FALSE NEIGHBOUR: 'it returns false'. Refute it at one input. -/
def vmFaultsWrong : ChangeSpec := { name := "vmFaults", fn := fun _ => fun
  | [d1, d2] => { results := [.lit (.bool false)], args := [d1, d2] }
  | _ => none }
def VmFaultsWrongFalsely : Prop := vmFaultsRow.holds Try.pinned (OpenSpec.ofChange vmFaultsWrong)

/- THE SECOND FORM. 'bulk': how many values and letters a reading holds, each counted each time it is reached (what is shared counts as often as it is met; a slice's spare places count too). A statement '..UptoSaid' is the law's where the arguments, and the package variables that the reading takes, are together of bulk at most 1048576: NARROWER than '..Said'. Prove '..Said' where nothing that the law and all that it calls make is longer than what came in: it says more and counts as full. Else prove '..UptoSaid'. A law counts once. -/
mutual
def uptoBulk {H : Type} : DataW H → Nat
  | .lit (.string bytes) => bytes.length + 1
  | .lit _ => 1
  | .nil => 1
  | .ptr d => uptoBulk d + 1
  | .slice elems spare => uptoBulkAll elems + uptoBulkAll spare + 1
  | .agg parts => uptoBulkAll parts + 1
  | .iface _ d => uptoBulk d + 1
  | .map entries => uptoBulkEntries entries + 1
  | .held _ => 1
def uptoBulkAll {H : Type} : List (DataW H) → Nat
  | [] => 0
  | d :: r => uptoBulk d + uptoBulkAll r
def uptoBulkEntries {H : Type} : List (Lit × DataW H) → Nat
  | [] => 0
  | x :: r => uptoBulkEntry x + uptoBulkEntries r
def uptoBulkEntry {H : Type} : Lit × DataW H → Nat
  | (.string bytes, d) => bytes.length + uptoBulk d + 1
  | (_, d) => uptoBulk d + 1
 end
def uptoSmall : (H : Type) → List (DataW H) → Bool := fun _ ds => decide (uptoBulkAll ds ≤ 1048576)
def OpenSpec.upto (s : _root_.Go.ChangeSpec) : _root_.Go.OpenSpec := { _root_.Go.OpenSpec.ofChange s with cond := some uptoSmall }

/-- 'tipstafflaw19.RegionCells', WHERE WHAT IT READS IS OF BULK AT MOST 1048576: true; the input reads as it did. -/
def regionCellsUptoRow : OpenClaim := { program := "ytepbpapbkonhnaa", sum := "2f5a4d20ff8325b42562de1428b48e788f5a32f41687be863062b91ea4e6d90a", func := "tipstaff/tipstafflaw19.RegionCells", spec := "regionCells", unfollowed := true, recurses := true, apart := false, narrowed := true }
def RegionCellsUptoSaid : Prop := regionCellsUptoRow.holds Try.pinned (OpenSpec.upto regionCellsSpec)

/-- 'tipstafflaw20.VmCounts', WHERE WHAT IT READS IS OF BULK AT MOST 1048576: true; the input reads as it did. -/
def vmCountsUptoRow : OpenClaim := { program := "ytepbpapbkonhnaa", sum := "2f5a4d20ff8325b42562de1428b48e788f5a32f41687be863062b91ea4e6d90a", func := "tipstaff/tipstafflaw20.VmCounts", spec := "vmCounts", unfollowed := true, recurses := true, apart := false, narrowed := true }
def VmCountsUptoSaid : Prop := vmCountsUptoRow.holds Try.pinned (OpenSpec.upto vmCountsSpec)

/-- 'tipstafflaw20.VmSums', WHERE WHAT IT READS IS OF BULK AT MOST 1048576: true; the input reads as it did. -/
def vmSumsUptoRow : OpenClaim := { program := "ytepbpapbkonhnaa", sum := "2f5a4d20ff8325b42562de1428b48e788f5a32f41687be863062b91ea4e6d90a", func := "tipstaff/tipstafflaw20.VmSums", spec := "vmSums", unfollowed := true, recurses := true, apart := false, narrowed := true }
def VmSumsUptoSaid : Prop := vmSumsUptoRow.holds Try.pinned (OpenSpec.upto vmSumsSpec)

/-- 'tipstafflaw20.VmLuck', WHERE WHAT IT READS IS OF BULK AT MOST 1048576: true; the input reads as it did. -/
def vmLuckUptoRow : OpenClaim := { program := "ytepbpapbkonhnaa", sum := "2f5a4d20ff8325b42562de1428b48e788f5a32f41687be863062b91ea4e6d90a", func := "tipstaff/tipstafflaw20.VmLuck", spec := "vmLuck", unfollowed := true, recurses := true, apart := false, narrowed := true }
def VmLuckUptoSaid : Prop := vmLuckUptoRow.holds Try.pinned (OpenSpec.upto vmLuckSpec)

/-- 'tipstafflaw20.VmAtomic', WHERE WHAT IT READS IS OF BULK AT MOST 1048576: true; the input reads as it did. -/
def vmAtomicUptoRow : OpenClaim := { program := "ytepbpapbkonhnaa", sum := "2f5a4d20ff8325b42562de1428b48e788f5a32f41687be863062b91ea4e6d90a", func := "tipstaff/tipstafflaw20.VmAtomic", spec := "vmAtomic", unfollowed := true, recurses := true, apart := false, narrowed := true }
def VmAtomicUptoSaid : Prop := vmAtomicUptoRow.holds Try.pinned (OpenSpec.upto vmAtomicSpec)

/-- 'tipstafflaw20.VmPlaces', WHERE WHAT IT READS IS OF BULK AT MOST 1048576: true; the input reads as it did. -/
def vmPlacesUptoRow : OpenClaim := { program := "ytepbpapbkonhnaa", sum := "2f5a4d20ff8325b42562de1428b48e788f5a32f41687be863062b91ea4e6d90a", func := "tipstaff/tipstafflaw20.VmPlaces", spec := "vmPlaces", unfollowed := true, recurses := true, apart := false, narrowed := true }
def VmPlacesUptoSaid : Prop := vmPlacesUptoRow.holds Try.pinned (OpenSpec.upto vmPlacesSpec)

/-- 'tipstafflaw20.VmFaults', WHERE WHAT IT READS IS OF BULK AT MOST 1048576: true; the input reads as it did. -/
def vmFaultsUptoRow : OpenClaim := { program := "ytepbpapbkonhnaa", sum := "2f5a4d20ff8325b42562de1428b48e788f5a32f41687be863062b91ea4e6d90a", func := "tipstaff/tipstafflaw20.VmFaults", spec := "vmFaults", unfollowed := true, recurses := true, apart := false, narrowed := true }
def VmFaultsUptoSaid : Prop := vmFaultsUptoRow.holds Try.pinned (OpenSpec.upto vmFaultsSpec)

end Rows
end Go.Proofs.Ytepbpapbkonhnaa
