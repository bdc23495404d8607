/-
  DERIVED. GIVEN WITH THE SEED: THE CARDS: each row of YtaaicadjoghbcaaDoorRows.lean that lists a variable, with what it lists TIED to the program's text (the seventh form; the later family's looks); each row that meets fmt, with fmt's text TOLD by the authors' own Lean function (tested against real Go, not proved from fmt's source: count such statements apart). THE CARD IS WHAT COUNTS. Prove the row's statement (the work); the ties are given (YtaaicadjoghbcaaDoorTie.lean); close each card by the builder's one call (the guide's Derived/Test/ToyasCard.lean, 'card_holds'). Laid BY PROGRAM, IN A SANDBOX (cutbox-door.mjs). By AI agents, Wed Nov 11 2026. No macro, syntax, notation, axiom, sorry.
-/
import Derived.Test.YtaaicadjoghbcaaDoorRows
import GoSem.ClaimSeven
namespace Go.Proofs.YtaaicadjoghbcaaDoor
namespace Rows

/-- THE TIED CARD OF 'tipstafflaw11.RightsTexts'. -/
def rightsTextsCard : Claim7 := { stood := { row := rightsTextsRow, standIns := [], harness := (true, "3ed023f88d9a2d1729d3ae215122ca176b7c913ec7fb687f223870349cd167a1"), looks := true }, kinds := [], alts := [], laidByText := true, laidKinds := [.data, .data, .data, .data, .sentinel, .sentinel, .widerDeep, .pinned], laidTests := true, laidLooks := .later }
def RightsTextsCardSaid : Prop := Claim7.holds Tryd.pinned (.plain (OpenSpec.ofChange rightsTextsSpec)) rightsTextsCard

/-- THE TIED CARD OF 'tipstafflaw11.RightsParses'. -/
def rightsParsesCard : Claim7 := { stood := { row := rightsParsesRow, standIns := [], harness := (true, "3ed023f88d9a2d1729d3ae215122ca176b7c913ec7fb687f223870349cd167a1"), looks := true }, kinds := [], alts := [], laidByText := true, laidKinds := [.data, .data, .data, .data, .sentinel, .sentinel, .widerDeep, .pinned], laidTests := true, laidLooks := .later }
def RightsParsesCardSaid : Prop := Claim7.holds Tryd.pinned (.plain (OpenSpec.ofChange rightsParsesSpec)) rightsParsesCard

/-- THE SECOND FORM's CARD OF 'tipstafflaw11.RightsTexts'. -/
def rightsTextsUptoCard : Claim7 := { stood := { row := rightsTextsUptoRow, standIns := [], harness := (true, "3ed023f88d9a2d1729d3ae215122ca176b7c913ec7fb687f223870349cd167a1"), looks := true }, kinds := [], alts := [], laidByText := true, laidKinds := [.data, .data, .data, .data, .sentinel, .sentinel, .widerDeep, .pinned], laidTests := true, laidLooks := .later }
def RightsTextsUptoCardSaid : Prop := Claim7.holds Tryd.pinned (.plain (OpenSpec.upto rightsTextsSpec)) rightsTextsUptoCard

/-- THE SECOND FORM's CARD OF 'tipstafflaw11.RightsParses'. -/
def rightsParsesUptoCard : Claim7 := { stood := { row := rightsParsesUptoRow, standIns := [], harness := (true, "3ed023f88d9a2d1729d3ae215122ca176b7c913ec7fb687f223870349cd167a1"), looks := true }, kinds := [], alts := [], laidByText := true, laidKinds := [.data, .data, .data, .data, .sentinel, .sentinel, .widerDeep, .pinned], laidTests := true, laidLooks := .later }
def RightsParsesUptoCardSaid : Prop := Claim7.holds Tryd.pinned (.plain (OpenSpec.upto rightsParsesSpec)) rightsParsesUptoCard
end Rows
end Go.Proofs.YtaaicadjoghbcaaDoor
