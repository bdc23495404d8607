/-
  No cell of these rows narrows 'for every input' (looked for: loops, veiled, ifaces, maps, wideKeys, modest, calm, conditions, laid).
  DERIVED. THE GIVEN ROWS OF THIS SEAT. 10 by the template 'for every input the law returns true; each argument reads behind the call as it read before'; 0 by the template 'total and deterministic' (their statements: YtihaopoehhnbkaaTotals.lean).
  GIVEN WITH THE SEED: the statements are not yours to turn. If you find one false, say at which input.
  Laid BY PROGRAM, IN A SANDBOX (cutbox-rows.mjs): the forced cells as the released guide's own fill.sh prints them over the translation 581d971b2b75352d… (all of the seat's roots in one cut). By AI agents, Wed Nov 11 2026. No macro, syntax, notation, axiom, sorry.
-/
import Derived.Test.YtihaopoehhnbkaaChecked
import GoSem.Claim
import GoSem.ClaimJoined
import GoSem.ClaimMapViews
import Derived.JoinedTies
import Derived.KernelRfl
namespace Go.Proofs.Ytihaopoehhnbkaa
/- THE CELL 'sum', in the pinned program and in every row, IS THE sha256 OF THE DUMP (.gsa) THAT YtihaopoehhnbkaaProg.lean LOADS. Nothing in Lean hashes anything: it is a label: what it is worth is what the hold of that sum in a sandbox is worth. -/
noncomputable def Try.pinned : Pinned := { name := "ytihaopoehhnbkaa", sum := "581d971b2b75352d3148cfd172c890429c9d6edf390efa003790620f4158f787", checked := Try.checked }
namespace Rows
def none {H : Type} : Left H := { results := [], args := [] }

/-- 'tipstafflaw19.RegionKept': WHATEVER THE INPUT: true; the input reads as it did. -/
def regionKeptSpec : ChangeSpec := { name := "regionKept", fn := fun _ => fun
  | [d1, d2] => { results := [.lit (.bool true)], args := [d1, d2] }
  | _ => none }
def regionKeptRow : OpenClaim := { program := "ytihaopoehhnbkaa", sum := "581d971b2b75352d3148cfd172c890429c9d6edf390efa003790620f4158f787", func := "tipstaff/tipstafflaw19.RegionKept", spec := "regionKept", apart := false }
def RegionKeptSaid : Prop := regionKeptRow.holds Try.pinned (OpenSpec.ofChange regionKeptSpec)

/-- ITS FALSE NEIGHBOUR: 'it returns false'. Refute it at one input. -/
def regionKeptWrong : ChangeSpec := { name := "regionKept", fn := fun _ => fun
  | [d1, d2] => { results := [.lit (.bool false)], args := [d1, d2] }
  | _ => none }
def RegionKeptWrongFalsely : Prop := regionKeptRow.holds Try.pinned (OpenSpec.ofChange regionKeptWrong)

/-- 'tipstafflaw19.RegionNumbers': WHATEVER THE INPUT: true; the input reads as it did. -/
def regionNumbersSpec : ChangeSpec := { name := "regionNumbers", fn := fun _ => fun
  | [d1, d2, d3] => { results := [.lit (.bool true)], args := [d1, d2, d3] }
  | _ => none }
def regionNumbersRow : OpenClaim := { program := "ytihaopoehhnbkaa", sum := "581d971b2b75352d3148cfd172c890429c9d6edf390efa003790620f4158f787", func := "tipstaff/tipstafflaw19.RegionNumbers", spec := "regionNumbers", apart := false }
def RegionNumbersSaid : Prop := regionNumbersRow.holds Try.pinned (OpenSpec.ofChange regionNumbersSpec)

/-- ITS FALSE NEIGHBOUR: 'it returns false'. Refute it at one input. -/
def regionNumbersWrong : ChangeSpec := { name := "regionNumbers", fn := fun _ => fun
  | [d1, d2, d3] => { results := [.lit (.bool false)], args := [d1, d2, d3] }
  | _ => none }
def RegionNumbersWrongFalsely : Prop := regionNumbersRow.holds Try.pinned (OpenSpec.ofChange regionNumbersWrong)

/-- 'tipstafflaw19.RegionStacks': WHATEVER THE INPUT: true; the input reads as it did. -/
def regionStacksSpec : ChangeSpec := { name := "regionStacks", fn := fun _ => fun
  | [d] => { results := [.lit (.bool true)], args := [d] }
  | _ => none }
def regionStacksRow : OpenClaim := { program := "ytihaopoehhnbkaa", sum := "581d971b2b75352d3148cfd172c890429c9d6edf390efa003790620f4158f787", func := "tipstaff/tipstafflaw19.RegionStacks", spec := "regionStacks", apart := false }
def RegionStacksSaid : Prop := regionStacksRow.holds Try.pinned (OpenSpec.ofChange regionStacksSpec)

/-- ITS FALSE NEIGHBOUR: 'it returns false'. Refute it at one input. -/
def regionStacksWrong : ChangeSpec := { name := "regionStacks", fn := fun _ => fun
  | [d] => { results := [.lit (.bool false)], args := [d] }
  | _ => none }
def RegionStacksWrongFalsely : Prop := regionStacksRow.holds Try.pinned (OpenSpec.ofChange regionStacksWrong)

/-- 'tipstafflaw09.BmapLru': WHATEVER THE INPUT: true; the input reads as it did. -/
def bmapLruSpec : ChangeSpec := { name := "bmapLru", fn := fun _ => fun
  | [d1, d2] => { results := [.lit (.bool true)], args := [d1, d2] }
  | _ => none }
def bmapLruRow : OpenClaim := { program := "ytihaopoehhnbkaa", sum := "581d971b2b75352d3148cfd172c890429c9d6edf390efa003790620f4158f787", func := "tipstaff/tipstafflaw09.BmapLru", spec := "bmapLru", unfollowed := true, recurses := true, apart := false }
def BmapLruSaid : Prop := bmapLruRow.holds Try.pinned (OpenSpec.ofChange bmapLruSpec)

/-- ITS FALSE NEIGHBOUR: 'it returns false'. Refute it at one input. -/
def bmapLruWrong : ChangeSpec := { name := "bmapLru", fn := fun _ => fun
  | [d1, d2] => { results := [.lit (.bool false)], args := [d1, d2] }
  | _ => none }
def BmapLruWrongFalsely : Prop := bmapLruRow.holds Try.pinned (OpenSpec.ofChange bmapLruWrong)

/-- 'tipstafflaw09.BmapPrefix': WHATEVER THE INPUT: true; the input reads as it did. -/
def bmapPrefixSpec : ChangeSpec := { name := "bmapPrefix", fn := fun _ => fun
  | [d1, d2, d3] => { results := [.lit (.bool true)], args := [d1, d2, d3] }
  | _ => none }
def bmapPrefixRow : OpenClaim := { program := "ytihaopoehhnbkaa", sum := "581d971b2b75352d3148cfd172c890429c9d6edf390efa003790620f4158f787", func := "tipstaff/tipstafflaw09.BmapPrefix", spec := "bmapPrefix", unfollowed := true, recurses := true, apart := false }
def BmapPrefixSaid : Prop := bmapPrefixRow.holds Try.pinned (OpenSpec.ofChange bmapPrefixSpec)

/-- ITS FALSE NEIGHBOUR: 'it returns false'. Refute it at one input. -/
def bmapPrefixWrong : ChangeSpec := { name := "bmapPrefix", fn := fun _ => fun
  | [d1, d2, d3] => { results := [.lit (.bool false)], args := [d1, d2, d3] }
  | _ => none }
def BmapPrefixWrongFalsely : Prop := bmapPrefixRow.holds Try.pinned (OpenSpec.ofChange bmapPrefixWrong)

/-- 'tipstafflaw09.BmapFlags': WHATEVER THE INPUT: true; the input reads as it did. -/
def bmapFlagsSpec : ChangeSpec := { name := "bmapFlags", fn := fun _ => fun
  | [d1, d2] => { results := [.lit (.bool true)], args := [d1, d2] }
  | _ => none }
def bmapFlagsRow : OpenClaim := { program := "ytihaopoehhnbkaa", sum := "581d971b2b75352d3148cfd172c890429c9d6edf390efa003790620f4158f787", func := "tipstaff/tipstafflaw09.BmapFlags", spec := "bmapFlags", unfollowed := true, recurses := true, apart := false }
def BmapFlagsSaid : Prop := bmapFlagsRow.holds Try.pinned (OpenSpec.ofChange bmapFlagsSpec)

/-- ITS FALSE NEIGHBOUR: 'it returns false'. Refute it at one input. -/
def bmapFlagsWrong : ChangeSpec := { name := "bmapFlags", fn := fun _ => fun
  | [d1, d2] => { results := [.lit (.bool false)], args := [d1, d2] }
  | _ => none }
def BmapFlagsWrongFalsely : Prop := bmapFlagsRow.holds Try.pinned (OpenSpec.ofChange bmapFlagsWrong)

/-- 'tipstafflaw09.BmapArrays': WHATEVER THE INPUT: true; the input reads as it did. -/
def bmapArraysSpec : ChangeSpec := { name := "bmapArrays", fn := fun _ => fun
  | [d1, d2, d3] => { results := [.lit (.bool true)], args := [d1, d2, d3] }
  | _ => none }
def bmapArraysRow : OpenClaim := { program := "ytihaopoehhnbkaa", sum := "581d971b2b75352d3148cfd172c890429c9d6edf390efa003790620f4158f787", func := "tipstaff/tipstafflaw09.BmapArrays", spec := "bmapArrays", unfollowed := true, recurses := true, apart := false }
def BmapArraysSaid : Prop := bmapArraysRow.holds Try.pinned (OpenSpec.ofChange bmapArraysSpec)

/-- ITS FALSE NEIGHBOUR: 'it returns false'. Refute it at one input. -/
def bmapArraysWrong : ChangeSpec := { name := "bmapArrays", fn := fun _ => fun
  | [d1, d2, d3] => { results := [.lit (.bool false)], args := [d1, d2, d3] }
  | _ => none }
def BmapArraysWrongFalsely : Prop := bmapArraysRow.holds Try.pinned (OpenSpec.ofChange bmapArraysWrong)

/-- 'tipstafflaw09.BmapCells': WHATEVER THE INPUT: true; the input reads as it did. -/
def bmapCellsSpec : ChangeSpec := { name := "bmapCells", fn := fun _ => fun
  | [d1, d2] => { results := [.lit (.bool true)], args := [d1, d2] }
  | _ => none }
def bmapCellsRow : OpenClaim := { program := "ytihaopoehhnbkaa", sum := "581d971b2b75352d3148cfd172c890429c9d6edf390efa003790620f4158f787", func := "tipstaff/tipstafflaw09.BmapCells", spec := "bmapCells", unfollowed := true, recurses := true, apart := false }
def BmapCellsSaid : Prop := bmapCellsRow.holds Try.pinned (OpenSpec.ofChange bmapCellsSpec)

/-- ITS FALSE NEIGHBOUR: 'it returns false'. Refute it at one input. -/
def bmapCellsWrong : ChangeSpec := { name := "bmapCells", fn := fun _ => fun
  | [d1, d2] => { results := [.lit (.bool false)], args := [d1, d2] }
  | _ => none }
def BmapCellsWrongFalsely : Prop := bmapCellsRow.holds Try.pinned (OpenSpec.ofChange bmapCellsWrong)

/-- 'tipstafflaw09.BmapLines': WHATEVER THE INPUT: true; the input reads as it did. -/
def bmapLinesSpec : ChangeSpec := { name := "bmapLines", fn := fun _ => fun
  | [d1, d2] => { results := [.lit (.bool true)], args := [d1, d2] }
  | _ => none }
def bmapLinesRow : OpenClaim := { program := "ytihaopoehhnbkaa", sum := "581d971b2b75352d3148cfd172c890429c9d6edf390efa003790620f4158f787", func := "tipstaff/tipstafflaw09.BmapLines", spec := "bmapLines", unfollowed := true, recurses := true, apart := false }
def BmapLinesSaid : Prop := bmapLinesRow.holds Try.pinned (OpenSpec.ofChange bmapLinesSpec)

/-- ITS FALSE NEIGHBOUR: 'it returns false'. Refute it at one input. -/
def bmapLinesWrong : ChangeSpec := { name := "bmapLines", fn := fun _ => fun
  | [d1, d2] => { results := [.lit (.bool false)], args := [d1, d2] }
  | _ => none }
def BmapLinesWrongFalsely : Prop := bmapLinesRow.holds Try.pinned (OpenSpec.ofChange bmapLinesWrong)

/-- 'tipstafflaw19.RegionCells': WHATEVER THE INPUT: true; the input reads as it did. -/
def regionCellsSpec : ChangeSpec := { name := "regionCells", fn := fun _ => fun
  | [d1, d2, d3] => { results := [.lit (.bool true)], args := [d1, d2, d3] }
  | _ => none }
def regionCellsRow : OpenClaim := { program := "ytihaopoehhnbkaa", sum := "581d971b2b75352d3148cfd172c890429c9d6edf390efa003790620f4158f787", func := "tipstaff/tipstafflaw19.RegionCells", spec := "regionCells", unfollowed := true, recurses := true, apart := false }
def RegionCellsSaid : Prop := regionCellsRow.holds Try.pinned (OpenSpec.ofChange regionCellsSpec)

/-- ITS FALSE NEIGHBOUR: 'it returns false'. Refute it at one input. -/
def regionCellsWrong : ChangeSpec := { name := "regionCells", fn := fun _ => fun
  | [d1, d2, d3] => { results := [.lit (.bool false)], args := [d1, d2, d3] }
  | _ => none }
def RegionCellsWrongFalsely : Prop := regionCellsRow.holds Try.pinned (OpenSpec.ofChange regionCellsWrong)

/- THE SECOND FORM. 'bulk': how many values and letters a reading holds, each counted each time it is reached (what is shared counts as often as it is met; a slice's spare places count too). A statement '..UptoSaid' is the law's where the arguments, and the package variables that the reading takes, are together of bulk at most 1048576: NARROWER than '..Said'. Prove '..Said' where nothing that the law and all that it calls make is longer than what came in: it says more and counts as full. Else prove '..UptoSaid'. A law counts once. -/
mutual
def uptoBulk {H : Type} : DataW H → Nat
  | .lit (.string bytes) => bytes.length + 1
  | .lit _ => 1
  | .nil => 1
  | .ptr d => uptoBulk d + 1
  | .slice elems spare => uptoBulkAll elems + uptoBulkAll spare + 1
  | .agg parts => uptoBulkAll parts + 1
  | .iface _ d => uptoBulk d + 1
  | .map entries => uptoBulkEntries entries + 1
  | .held _ => 1
def uptoBulkAll {H : Type} : List (DataW H) → Nat
  | [] => 0
  | d :: r => uptoBulk d + uptoBulkAll r
def uptoBulkEntries {H : Type} : List (Lit × DataW H) → Nat
  | [] => 0
  | x :: r => uptoBulkEntry x + uptoBulkEntries r
def uptoBulkEntry {H : Type} : Lit × DataW H → Nat
  | (.string bytes, d) => bytes.length + uptoBulk d + 1
  | (_, d) => uptoBulk d + 1
 end
def uptoSmall : (H : Type) → List (DataW H) → Bool := fun _ ds => decide (uptoBulkAll ds ≤ 1048576)
def OpenSpec.upto (s : _root_.Go.ChangeSpec) : _root_.Go.OpenSpec := { _root_.Go.OpenSpec.ofChange s with cond := some uptoSmall }

/-- 'tipstafflaw19.RegionKept', WHERE WHAT IT READS IS OF BULK AT MOST 1048576: true; the input reads as it did. -/
def regionKeptUptoRow : OpenClaim := { program := "ytihaopoehhnbkaa", sum := "581d971b2b75352d3148cfd172c890429c9d6edf390efa003790620f4158f787", func := "tipstaff/tipstafflaw19.RegionKept", spec := "regionKept", apart := false, narrowed := true }
def RegionKeptUptoSaid : Prop := regionKeptUptoRow.holds Try.pinned (OpenSpec.upto regionKeptSpec)

/-- 'tipstafflaw19.RegionNumbers', WHERE WHAT IT READS IS OF BULK AT MOST 1048576: true; the input reads as it did. -/
def regionNumbersUptoRow : OpenClaim := { program := "ytihaopoehhnbkaa", sum := "581d971b2b75352d3148cfd172c890429c9d6edf390efa003790620f4158f787", func := "tipstaff/tipstafflaw19.RegionNumbers", spec := "regionNumbers", apart := false, narrowed := true }
def RegionNumbersUptoSaid : Prop := regionNumbersUptoRow.holds Try.pinned (OpenSpec.upto regionNumbersSpec)

/-- 'tipstafflaw19.RegionStacks', WHERE WHAT IT READS IS OF BULK AT MOST 1048576: true; the input reads as it did. -/
def regionStacksUptoRow : OpenClaim := { program := "ytihaopoehhnbkaa", sum := "581d971b2b75352d3148cfd172c890429c9d6edf390efa003790620f4158f787", func := "tipstaff/tipstafflaw19.RegionStacks", spec := "regionStacks", apart := false, narrowed := true }
def RegionStacksUptoSaid : Prop := regionStacksUptoRow.holds Try.pinned (OpenSpec.upto regionStacksSpec)

/-- 'tipstafflaw09.BmapLru', WHERE WHAT IT READS IS OF BULK AT MOST 1048576: true; the input reads as it did. -/
def bmapLruUptoRow : OpenClaim := { program := "ytihaopoehhnbkaa", sum := "581d971b2b75352d3148cfd172c890429c9d6edf390efa003790620f4158f787", func := "tipstaff/tipstafflaw09.BmapLru", spec := "bmapLru", unfollowed := true, recurses := true, apart := false, narrowed := true }
def BmapLruUptoSaid : Prop := bmapLruUptoRow.holds Try.pinned (OpenSpec.upto bmapLruSpec)

/-- 'tipstafflaw09.BmapPrefix', WHERE WHAT IT READS IS OF BULK AT MOST 1048576: true; the input reads as it did. -/
def bmapPrefixUptoRow : OpenClaim := { program := "ytihaopoehhnbkaa", sum := "581d971b2b75352d3148cfd172c890429c9d6edf390efa003790620f4158f787", func := "tipstaff/tipstafflaw09.BmapPrefix", spec := "bmapPrefix", unfollowed := true, recurses := true, apart := false, narrowed := true }
def BmapPrefixUptoSaid : Prop := bmapPrefixUptoRow.holds Try.pinned (OpenSpec.upto bmapPrefixSpec)

/-- 'tipstafflaw09.BmapFlags', WHERE WHAT IT READS IS OF BULK AT MOST 1048576: true; the input reads as it did. -/
def bmapFlagsUptoRow : OpenClaim := { program := "ytihaopoehhnbkaa", sum := "581d971b2b75352d3148cfd172c890429c9d6edf390efa003790620f4158f787", func := "tipstaff/tipstafflaw09.BmapFlags", spec := "bmapFlags", unfollowed := true, recurses := true, apart := false, narrowed := true }
def BmapFlagsUptoSaid : Prop := bmapFlagsUptoRow.holds Try.pinned (OpenSpec.upto bmapFlagsSpec)

/-- 'tipstafflaw09.BmapArrays', WHERE WHAT IT READS IS OF BULK AT MOST 1048576: true; the input reads as it did. -/
def bmapArraysUptoRow : OpenClaim := { program := "ytihaopoehhnbkaa", sum := "581d971b2b75352d3148cfd172c890429c9d6edf390efa003790620f4158f787", func := "tipstaff/tipstafflaw09.BmapArrays", spec := "bmapArrays", unfollowed := true, recurses := true, apart := false, narrowed := true }
def BmapArraysUptoSaid : Prop := bmapArraysUptoRow.holds Try.pinned (OpenSpec.upto bmapArraysSpec)

/-- 'tipstafflaw09.BmapCells', WHERE WHAT IT READS IS OF BULK AT MOST 1048576: true; the input reads as it did. -/
def bmapCellsUptoRow : OpenClaim := { program := "ytihaopoehhnbkaa", sum := "581d971b2b75352d3148cfd172c890429c9d6edf390efa003790620f4158f787", func := "tipstaff/tipstafflaw09.BmapCells", spec := "bmapCells", unfollowed := true, recurses := true, apart := false, narrowed := true }
def BmapCellsUptoSaid : Prop := bmapCellsUptoRow.holds Try.pinned (OpenSpec.upto bmapCellsSpec)

/-- 'tipstafflaw09.BmapLines', WHERE WHAT IT READS IS OF BULK AT MOST 1048576: true; the input reads as it did. -/
def bmapLinesUptoRow : OpenClaim := { program := "ytihaopoehhnbkaa", sum := "581d971b2b75352d3148cfd172c890429c9d6edf390efa003790620f4158f787", func := "tipstaff/tipstafflaw09.BmapLines", spec := "bmapLines", unfollowed := true, recurses := true, apart := false, narrowed := true }
def BmapLinesUptoSaid : Prop := bmapLinesUptoRow.holds Try.pinned (OpenSpec.upto bmapLinesSpec)

/-- 'tipstafflaw19.RegionCells', WHERE WHAT IT READS IS OF BULK AT MOST 1048576: true; the input reads as it did. -/
def regionCellsUptoRow : OpenClaim := { program := "ytihaopoehhnbkaa", sum := "581d971b2b75352d3148cfd172c890429c9d6edf390efa003790620f4158f787", func := "tipstaff/tipstafflaw19.RegionCells", spec := "regionCells", unfollowed := true, recurses := true, apart := false, narrowed := true }
def RegionCellsUptoSaid : Prop := regionCellsUptoRow.holds Try.pinned (OpenSpec.upto regionCellsSpec)

end Rows
end Go.Proofs.Ytihaopoehhnbkaa
