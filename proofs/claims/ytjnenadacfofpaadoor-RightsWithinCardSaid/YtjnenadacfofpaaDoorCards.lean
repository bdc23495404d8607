/-
  DERIVED. GIVEN WITH THE SEED: THE CARDS: each row of YtjnenadacfofpaaDoorRows.lean that lists a variable, with what it lists TIED to the program's text (the seventh form; the later family's looks); each row that meets fmt, with fmt's text TOLD by the authors' own Lean function (tested against real Go, not proved from fmt's source: count such statements apart). THE CARD IS WHAT COUNTS. Prove the row's statement (the work); the ties are given (YtjnenadacfofpaaDoorTie.lean); close each card by the builder's one call (the guide's Derived/Test/ToyasCard.lean, 'card_holds'). Laid BY PROGRAM, IN A SANDBOX (cutbox-door.mjs). By AI agents, Wed Nov 11 2026. No macro, syntax, notation, axiom, sorry.
-/
import Derived.Test.YtjnenadacfofpaaDoorRows
import GoSem.ClaimSeven
namespace Go.Proofs.YtjnenadacfofpaaDoor
namespace Rows

/-- THE TIED CARD OF 'tipstafflaw11.RightsWithin'. -/
def rightsWithinCard : Claim7 := { stood := { row := rightsWithinRow, standIns := [], harness := (true, "6754c4a4445c4f6a29c74052a57f6a8bb9c98ef1500ee63c80c318a9809bd469"), looks := true }, kinds := [], alts := [], laidByText := true, laidKinds := [.data, .data, .data, .widerDeep], laidTests := true, laidLooks := .later }
def RightsWithinCardSaid : Prop := Claim7.holds Tryd.pinned (.plain (OpenSpec.ofChange rightsWithinSpec)) rightsWithinCard

/-- THE TIED CARD OF 'tipstafflaw11.RightsBits'. -/
def rightsBitsCard : Claim7 := { stood := { row := rightsBitsRow, standIns := [], harness := (true, "6754c4a4445c4f6a29c74052a57f6a8bb9c98ef1500ee63c80c318a9809bd469"), looks := true }, kinds := [], alts := [], laidByText := true, laidKinds := [.data, .data, .data, .widerDeep], laidTests := true, laidLooks := .later }
def RightsBitsCardSaid : Prop := Claim7.holds Tryd.pinned (.plain (OpenSpec.ofChange rightsBitsSpec)) rightsBitsCard

/-- THE TIED CARD OF 'tipstafflaw11.RightsLess'. -/
def rightsLessCard : Claim7 := { stood := { row := rightsLessRow, standIns := [], harness := (true, "6754c4a4445c4f6a29c74052a57f6a8bb9c98ef1500ee63c80c318a9809bd469"), looks := true }, kinds := [], alts := [], laidByText := true, laidKinds := [.data, .data, .data, .widerDeep], laidTests := true, laidLooks := .later }
def RightsLessCardSaid : Prop := Claim7.holds Tryd.pinned (.plain (OpenSpec.ofChange rightsLessSpec)) rightsLessCard

/-- THE TIED CARD OF 'tipstafflaw11.RightsMeets'. -/
def rightsMeetsCard : Claim7 := { stood := { row := rightsMeetsRow, standIns := [], harness := (true, "6754c4a4445c4f6a29c74052a57f6a8bb9c98ef1500ee63c80c318a9809bd469"), looks := true }, kinds := [], alts := [], laidByText := true, laidKinds := [.data, .data, .data, .widerDeep], laidTests := true, laidLooks := .later }
def RightsMeetsCardSaid : Prop := Claim7.holds Tryd.pinned (.plain (OpenSpec.ofChange rightsMeetsSpec)) rightsMeetsCard

/-- THE TIED CARD OF 'tipstafflaw11.RightsTexts'. -/
def rightsTextsCard : Claim7 := { stood := { row := rightsTextsRow, standIns := [], harness := (true, "6754c4a4445c4f6a29c74052a57f6a8bb9c98ef1500ee63c80c318a9809bd469"), looks := true }, kinds := [], alts := [], laidByText := true, laidKinds := [.data, .data, .data, .data, .sentinel, .sentinel, .widerDeep, .pinned], laidTests := true, laidLooks := .later }
def RightsTextsCardSaid : Prop := Claim7.holds Tryd.pinned (.plain (OpenSpec.ofChange rightsTextsSpec)) rightsTextsCard

/-- THE TIED CARD OF 'tipstafflaw11.RightsParses'. -/
def rightsParsesCard : Claim7 := { stood := { row := rightsParsesRow, standIns := [], harness := (true, "6754c4a4445c4f6a29c74052a57f6a8bb9c98ef1500ee63c80c318a9809bd469"), looks := true }, kinds := [], alts := [], laidByText := true, laidKinds := [.data, .data, .data, .data, .sentinel, .sentinel, .widerDeep, .pinned], laidTests := true, laidLooks := .later }
def RightsParsesCardSaid : Prop := Claim7.holds Tryd.pinned (.plain (OpenSpec.ofChange rightsParsesSpec)) rightsParsesCard

/-- THE SECOND FORM's CARD OF 'tipstafflaw11.RightsWithin'. -/
def rightsWithinUptoCard : Claim7 := { stood := { row := rightsWithinUptoRow, standIns := [], harness := (true, "6754c4a4445c4f6a29c74052a57f6a8bb9c98ef1500ee63c80c318a9809bd469"), looks := true }, kinds := [], alts := [], laidByText := true, laidKinds := [.data, .data, .data, .widerDeep], laidTests := true, laidLooks := .later }
def RightsWithinUptoCardSaid : Prop := Claim7.holds Tryd.pinned (.plain (OpenSpec.upto rightsWithinSpec)) rightsWithinUptoCard

/-- THE SECOND FORM's CARD OF 'tipstafflaw11.RightsBits'. -/
def rightsBitsUptoCard : Claim7 := { stood := { row := rightsBitsUptoRow, standIns := [], harness := (true, "6754c4a4445c4f6a29c74052a57f6a8bb9c98ef1500ee63c80c318a9809bd469"), looks := true }, kinds := [], alts := [], laidByText := true, laidKinds := [.data, .data, .data, .widerDeep], laidTests := true, laidLooks := .later }
def RightsBitsUptoCardSaid : Prop := Claim7.holds Tryd.pinned (.plain (OpenSpec.upto rightsBitsSpec)) rightsBitsUptoCard

/-- THE SECOND FORM's CARD OF 'tipstafflaw11.RightsLess'. -/
def rightsLessUptoCard : Claim7 := { stood := { row := rightsLessUptoRow, standIns := [], harness := (true, "6754c4a4445c4f6a29c74052a57f6a8bb9c98ef1500ee63c80c318a9809bd469"), looks := true }, kinds := [], alts := [], laidByText := true, laidKinds := [.data, .data, .data, .widerDeep], laidTests := true, laidLooks := .later }
def RightsLessUptoCardSaid : Prop := Claim7.holds Tryd.pinned (.plain (OpenSpec.upto rightsLessSpec)) rightsLessUptoCard

/-- THE SECOND FORM's CARD OF 'tipstafflaw11.RightsMeets'. -/
def rightsMeetsUptoCard : Claim7 := { stood := { row := rightsMeetsUptoRow, standIns := [], harness := (true, "6754c4a4445c4f6a29c74052a57f6a8bb9c98ef1500ee63c80c318a9809bd469"), looks := true }, kinds := [], alts := [], laidByText := true, laidKinds := [.data, .data, .data, .widerDeep], laidTests := true, laidLooks := .later }
def RightsMeetsUptoCardSaid : Prop := Claim7.holds Tryd.pinned (.plain (OpenSpec.upto rightsMeetsSpec)) rightsMeetsUptoCard

/-- THE SECOND FORM's CARD OF 'tipstafflaw11.RightsTexts'. -/
def rightsTextsUptoCard : Claim7 := { stood := { row := rightsTextsUptoRow, standIns := [], harness := (true, "6754c4a4445c4f6a29c74052a57f6a8bb9c98ef1500ee63c80c318a9809bd469"), looks := true }, kinds := [], alts := [], laidByText := true, laidKinds := [.data, .data, .data, .data, .sentinel, .sentinel, .widerDeep, .pinned], laidTests := true, laidLooks := .later }
def RightsTextsUptoCardSaid : Prop := Claim7.holds Tryd.pinned (.plain (OpenSpec.upto rightsTextsSpec)) rightsTextsUptoCard

/-- THE SECOND FORM's CARD OF 'tipstafflaw11.RightsParses'. -/
def rightsParsesUptoCard : Claim7 := { stood := { row := rightsParsesUptoRow, standIns := [], harness := (true, "6754c4a4445c4f6a29c74052a57f6a8bb9c98ef1500ee63c80c318a9809bd469"), looks := true }, kinds := [], alts := [], laidByText := true, laidKinds := [.data, .data, .data, .data, .sentinel, .sentinel, .widerDeep, .pinned], laidTests := true, laidLooks := .later }
def RightsParsesUptoCardSaid : Prop := Claim7.holds Tryd.pinned (.plain (OpenSpec.upto rightsParsesSpec)) rightsParsesUptoCard
end Rows
end Go.Proofs.YtjnenadacfofpaaDoor
