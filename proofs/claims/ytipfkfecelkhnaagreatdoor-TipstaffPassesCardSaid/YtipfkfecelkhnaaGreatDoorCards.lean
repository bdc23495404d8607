/-
  DERIVED. GIVEN WITH THE SEED: THE CARDS: each row of YtipfkfecelkhnaaGreatDoorRows.lean that lists a variable, with what it lists TIED to the program's text (the seventh form; the later family's looks); each row that meets fmt, with fmt's text TOLD by the authors' own Lean function (tested against real Go, not proved from fmt's source: count such statements apart). THE CARD IS WHAT COUNTS. Prove the row's statement (the work); the ties are given (YtipfkfecelkhnaaGreatDoorTie.lean); close each card by the builder's one call (the guide's Derived/Test/ToyasCard.lean, 'card_holds'). Laid BY PROGRAM, IN A SANDBOX (cutbox-door.mjs). By AI agents, Wed Nov 11 2026. No macro, syntax, notation, axiom, sorry.
-/
import Derived.Test.YtipfkfecelkhnaaGreatDoorRows
import GoSem.ClaimSeven
namespace Go.Proofs.YtipfkfecelkhnaaGreatDoor
namespace Rows

/-- THE TIED CARD OF 'tipstafftop.TipstaffPasses'. -/
def tipstaffPassesCard : Claim7 := { stood := { row := tipstaffPassesRow, standIns := [], harness := (true, "9286976aefe4344f8c3c98f0554f06b76915ce9cc5282fd5cc8e7acc7c0dae71"), looks := false }, kinds := [], alts := [], laidByText := true, laidKinds := [.data, .data, .widerDeep], laidTests := true, laidLooks := .later }
def TipstaffPassesCardSaid : Prop := Claim7.holds Tryz.pinned (.plain (OpenSpec.ofChange tipstaffPassesSpec)) tipstaffPassesCard

/-- THE TIED CARD OF 'tipstafflaw21.LoaderSums'. -/
def loaderSumsCard : Claim7 := { stood := { row := loaderSumsRow, standIns := [], harness := (true, "9286976aefe4344f8c3c98f0554f06b76915ce9cc5282fd5cc8e7acc7c0dae71"), looks := false }, kinds := [], alts := [], laidByText := true, laidKinds := [.data, .data, .widerDeep], laidTests := true, laidLooks := .later }
def LoaderSumsCardSaid : Prop := Claim7.holds Tryz.pinned (.plain (OpenSpec.ofChange loaderSumsSpec)) loaderSumsCard

/-- THE SECOND FORM's CARD OF 'tipstafftop.TipstaffPasses'. -/
def tipstaffPassesUptoCard : Claim7 := { stood := { row := tipstaffPassesUptoRow, standIns := [], harness := (true, "9286976aefe4344f8c3c98f0554f06b76915ce9cc5282fd5cc8e7acc7c0dae71"), looks := false }, kinds := [], alts := [], laidByText := true, laidKinds := [.data, .data, .widerDeep], laidTests := true, laidLooks := .later }
def TipstaffPassesUptoCardSaid : Prop := Claim7.holds Tryz.pinned (.plain (OpenSpec.upto tipstaffPassesSpec)) tipstaffPassesUptoCard

/-- THE SECOND FORM's CARD OF 'tipstafflaw21.LoaderSums'. -/
def loaderSumsUptoCard : Claim7 := { stood := { row := loaderSumsUptoRow, standIns := [], harness := (true, "9286976aefe4344f8c3c98f0554f06b76915ce9cc5282fd5cc8e7acc7c0dae71"), looks := false }, kinds := [], alts := [], laidByText := true, laidKinds := [.data, .data, .widerDeep], laidTests := true, laidLooks := .later }
def LoaderSumsUptoCardSaid : Prop := Claim7.holds Tryz.pinned (.plain (OpenSpec.upto loaderSumsSpec)) loaderSumsUptoCard
end Rows
end Go.Proofs.YtipfkfecelkhnaaGreatDoor
