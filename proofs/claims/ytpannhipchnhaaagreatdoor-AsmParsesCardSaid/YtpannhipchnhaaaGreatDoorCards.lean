/-
  DERIVED. GIVEN WITH THE SEED: THE CARDS: each row of YtpannhipchnhaaaGreatDoorRows.lean that lists a variable, with what it lists TIED to the program's text (the seventh form; the later family's looks); each row that meets fmt, with fmt's text TOLD by the authors' own Lean function (tested against real Go, not proved from fmt's source: count such statements apart). THE CARD IS WHAT COUNTS. Prove the row's statement (the work); the ties are given (YtpannhipchnhaaaGreatDoorTie.lean); close each card by the builder's one call (the guide's Derived/Test/ToyasCard.lean, 'card_holds'). Laid BY PROGRAM, IN A SANDBOX (cutbox-door.mjs). By AI agents, Wed Nov 11 2026. No macro, syntax, notation, axiom, sorry.
-/
import Derived.Test.YtpannhipchnhaaaGreatDoorRows
import GoSem.ClaimSeven
namespace Go.Proofs.YtpannhipchnhaaaGreatDoor
namespace Rows

/-- THE TIED CARD OF 'tipstafflaw23.AsmParses'. -/
def asmParsesCard : Claim7 := { stood := { row := asmParsesRow, standIns := [], harness := (true, "139d853158d28d11b88551e7cda2385e98d2d3fe27bca7b76c11de9a987ff01a"), looks := true }, kinds := [], alts := [], laidByText := true, laidKinds := [.data, .data, .data, .data, .sentinel, .sentinel, .widerDeep, .widerDeep, .widerDeep, .widerDeep, .widerDeep, .pinned], laidTests := true, laidLooks := .later }
def AsmParsesCardSaid : Prop := Claim7.holds Tryz.pinned (.plain (OpenSpec.ofChange asmParsesSpec)) asmParsesCard

/-- THE TIED CARD OF 'tipstafflaw23.AsmEnds'. -/
def asmEndsCard : Claim7 := { stood := { row := asmEndsRow, standIns := [], harness := (true, "139d853158d28d11b88551e7cda2385e98d2d3fe27bca7b76c11de9a987ff01a"), looks := true }, kinds := [], alts := [], laidByText := true, laidKinds := [.data, .data, .data, .data, .sentinel, .sentinel, .widerDeep, .widerDeep, .widerDeep, .widerDeep, .widerDeep, .pinned], laidTests := true, laidLooks := .later }
def AsmEndsCardSaid : Prop := Claim7.holds Tryz.pinned (.plain (OpenSpec.ofChange asmEndsSpec)) asmEndsCard

/-- THE TIED CARD OF 'tipstafflaw23.AsmJoins'. -/
def asmJoinsCard : Claim7 := { stood := { row := asmJoinsRow, standIns := [], harness := (true, "139d853158d28d11b88551e7cda2385e98d2d3fe27bca7b76c11de9a987ff01a"), looks := true }, kinds := [], alts := [], laidByText := true, laidKinds := [.data, .data, .data, .data, .sentinel, .sentinel, .widerDeep, .widerDeep, .widerDeep, .widerDeep, .widerDeep, .pinned], laidTests := true, laidLooks := .later }
def AsmJoinsCardSaid : Prop := Claim7.holds Tryz.pinned (.plain (OpenSpec.ofChange asmJoinsSpec)) asmJoinsCard

/-- THE TIED CARD OF 'tipstafflaw23.AsmNumbers'. -/
def asmNumbersCard : Claim7 := { stood := { row := asmNumbersRow, standIns := [], harness := (true, "139d853158d28d11b88551e7cda2385e98d2d3fe27bca7b76c11de9a987ff01a"), looks := true }, kinds := [], alts := [], laidByText := true, laidKinds := [.data, .data, .data, .data, .sentinel, .sentinel, .widerDeep, .widerDeep, .widerDeep, .widerDeep, .widerDeep, .pinned], laidTests := true, laidLooks := .later }
def AsmNumbersCardSaid : Prop := Claim7.holds Tryz.pinned (.plain (OpenSpec.ofChange asmNumbersSpec)) asmNumbersCard

/-- THE SECOND FORM's CARD OF 'tipstafflaw23.AsmParses'. -/
def asmParsesUptoCard : Claim7 := { stood := { row := asmParsesUptoRow, standIns := [], harness := (true, "139d853158d28d11b88551e7cda2385e98d2d3fe27bca7b76c11de9a987ff01a"), looks := true }, kinds := [], alts := [], laidByText := true, laidKinds := [.data, .data, .data, .data, .sentinel, .sentinel, .widerDeep, .widerDeep, .widerDeep, .widerDeep, .widerDeep, .pinned], laidTests := true, laidLooks := .later }
def AsmParsesUptoCardSaid : Prop := Claim7.holds Tryz.pinned (.plain (OpenSpec.upto asmParsesSpec)) asmParsesUptoCard

/-- THE SECOND FORM's CARD OF 'tipstafflaw23.AsmEnds'. -/
def asmEndsUptoCard : Claim7 := { stood := { row := asmEndsUptoRow, standIns := [], harness := (true, "139d853158d28d11b88551e7cda2385e98d2d3fe27bca7b76c11de9a987ff01a"), looks := true }, kinds := [], alts := [], laidByText := true, laidKinds := [.data, .data, .data, .data, .sentinel, .sentinel, .widerDeep, .widerDeep, .widerDeep, .widerDeep, .widerDeep, .pinned], laidTests := true, laidLooks := .later }
def AsmEndsUptoCardSaid : Prop := Claim7.holds Tryz.pinned (.plain (OpenSpec.upto asmEndsSpec)) asmEndsUptoCard

/-- THE SECOND FORM's CARD OF 'tipstafflaw23.AsmJoins'. -/
def asmJoinsUptoCard : Claim7 := { stood := { row := asmJoinsUptoRow, standIns := [], harness := (true, "139d853158d28d11b88551e7cda2385e98d2d3fe27bca7b76c11de9a987ff01a"), looks := true }, kinds := [], alts := [], laidByText := true, laidKinds := [.data, .data, .data, .data, .sentinel, .sentinel, .widerDeep, .widerDeep, .widerDeep, .widerDeep, .widerDeep, .pinned], laidTests := true, laidLooks := .later }
def AsmJoinsUptoCardSaid : Prop := Claim7.holds Tryz.pinned (.plain (OpenSpec.upto asmJoinsSpec)) asmJoinsUptoCard

/-- THE SECOND FORM's CARD OF 'tipstafflaw23.AsmNumbers'. -/
def asmNumbersUptoCard : Claim7 := { stood := { row := asmNumbersUptoRow, standIns := [], harness := (true, "139d853158d28d11b88551e7cda2385e98d2d3fe27bca7b76c11de9a987ff01a"), looks := true }, kinds := [], alts := [], laidByText := true, laidKinds := [.data, .data, .data, .data, .sentinel, .sentinel, .widerDeep, .widerDeep, .widerDeep, .widerDeep, .widerDeep, .pinned], laidTests := true, laidLooks := .later }
def AsmNumbersUptoCardSaid : Prop := Claim7.holds Tryz.pinned (.plain (OpenSpec.upto asmNumbersSpec)) asmNumbersUptoCard
end Rows
end Go.Proofs.YtpannhipchnhaaaGreatDoor
