/-
  DERIVED. GIVEN WITH THE SEED: THE CARDS: each row of YtmpgfgemnhbkhaaGreatDoorRows.lean that lists a variable, with what it lists TIED to the program's text (the seventh form; the later family's looks); each row that meets fmt, with fmt's text TOLD by the authors' own Lean function (tested against real Go, not proved from fmt's source: count such statements apart). THE CARD IS WHAT COUNTS. Prove the row's statement (the work); the ties are given (YtmpgfgemnhbkhaaGreatDoorTie.lean); close each card by the builder's one call (the guide's Derived/Test/ToyasCard.lean, 'card_holds'). Laid BY PROGRAM, IN A SANDBOX (cutbox-door.mjs). By AI agents, Wed Nov 11 2026. No macro, syntax, notation, axiom, sorry.
-/
import Derived.Test.YtmpgfgemnhbkhaaGreatDoorRows
import GoSem.ClaimSeven
namespace Go.Proofs.YtmpgfgemnhbkhaaGreatDoor
namespace Rows

/-- THE TIED CARD OF 'tipstafftop.TipstaffQueues'. -/
def tipstaffQueuesCard : Claim7 := { stood := { row := tipstaffQueuesRow, standIns := [], harness := (true, "e2b561d383fdc5b0254a67002d939232736a10884fe9d52585e0a69a509b34ca"), looks := false }, kinds := [], alts := [], laidByText := true, laidKinds := [.data, .data], laidTests := true, laidLooks := .later }
def TipstaffQueuesCardSaid : Prop := Claim7.holds Tryz.pinned (.plain (OpenSpec.ofChange tipstaffQueuesSpec)) tipstaffQueuesCard

/-- THE TIED CARD OF 'tipstafftop.TipstaffCounts'. -/
def tipstaffCountsCard : Claim7 := { stood := { row := tipstaffCountsRow, standIns := [], harness := (true, "e2b561d383fdc5b0254a67002d939232736a10884fe9d52585e0a69a509b34ca"), looks := false }, kinds := [], alts := [], laidByText := true, laidKinds := [.data, .data], laidTests := true, laidLooks := .later }
def TipstaffCountsCardSaid : Prop := Claim7.holds Tryz.pinned (.plain (OpenSpec.ofChange tipstaffCountsSpec)) tipstaffCountsCard

/-- THE TIED CARD OF 'tipstafflaw21.LoaderHeld'. -/
def loaderHeldCard : Claim7 := { stood := { row := loaderHeldRow, standIns := [], harness := (true, "e2b561d383fdc5b0254a67002d939232736a10884fe9d52585e0a69a509b34ca"), looks := false }, kinds := [], alts := [], laidByText := true, laidKinds := [.data, .data, .widerDeep], laidTests := true, laidLooks := .later }
def LoaderHeldCardSaid : Prop := Claim7.holds Tryz.pinned (.plain (OpenSpec.ofChange loaderHeldSpec)) loaderHeldCard

/-- THE TIED CARD OF 'tipstafflaw22.GateChain'. -/
def gateChainCard : Claim7 := { stood := { row := gateChainRow, standIns := [], harness := (true, "e2b561d383fdc5b0254a67002d939232736a10884fe9d52585e0a69a509b34ca"), looks := false }, kinds := [], alts := [], laidByText := true, laidKinds := [.data, .data, .widerDeep], laidTests := true, laidLooks := .later }
def GateChainCardSaid : Prop := Claim7.holds Tryz.pinned (.plain (OpenSpec.ofChange gateChainSpec)) gateChainCard

/-- THE TIED CARD OF 'tipstafflaw22.GateHeld'. -/
def gateHeldCard : Claim7 := { stood := { row := gateHeldRow, standIns := [], harness := (true, "e2b561d383fdc5b0254a67002d939232736a10884fe9d52585e0a69a509b34ca"), looks := false }, kinds := [], alts := [], laidByText := true, laidKinds := [.data, .data, .widerDeep], laidTests := true, laidLooks := .later }
def GateHeldCardSaid : Prop := Claim7.holds Tryz.pinned (.plain (OpenSpec.ofChange gateHeldSpec)) gateHeldCard

/-- THE TIED CARD OF 'tipstafflaw22.GateFull'. -/
def gateFullCard : Claim7 := { stood := { row := gateFullRow, standIns := [], harness := (true, "e2b561d383fdc5b0254a67002d939232736a10884fe9d52585e0a69a509b34ca"), looks := false }, kinds := [], alts := [], laidByText := true, laidKinds := [.data, .data, .widerDeep], laidTests := true, laidLooks := .later }
def GateFullCardSaid : Prop := Claim7.holds Tryz.pinned (.plain (OpenSpec.ofChange gateFullSpec)) gateFullCard

/-- THE TIED CARD OF 'tipstafflaw22.GateFrozen'. -/
def gateFrozenCard : Claim7 := { stood := { row := gateFrozenRow, standIns := [], harness := (true, "e2b561d383fdc5b0254a67002d939232736a10884fe9d52585e0a69a509b34ca"), looks := false }, kinds := [], alts := [], laidByText := true, laidKinds := [.data, .data, .widerDeep], laidTests := true, laidLooks := .later }
def GateFrozenCardSaid : Prop := Claim7.holds Tryz.pinned (.plain (OpenSpec.ofChange gateFrozenSpec)) gateFrozenCard

/-- THE TIED CARD OF 'tipstafflaw22.GateRights'. -/
def gateRightsCard : Claim7 := { stood := { row := gateRightsRow, standIns := [], harness := (true, "e2b561d383fdc5b0254a67002d939232736a10884fe9d52585e0a69a509b34ca"), looks := false }, kinds := [], alts := [], laidByText := true, laidKinds := [.data, .data, .widerDeep], laidTests := true, laidLooks := .later }
def GateRightsCardSaid : Prop := Claim7.holds Tryz.pinned (.plain (OpenSpec.ofChange gateRightsSpec)) gateRightsCard

/-- THE TIED CARD OF 'tipstafflaw22.GateFirsts'. -/
def gateFirstsCard : Claim7 := { stood := { row := gateFirstsRow, standIns := [], harness := (true, "e2b561d383fdc5b0254a67002d939232736a10884fe9d52585e0a69a509b34ca"), looks := false }, kinds := [], alts := [], laidByText := true, laidKinds := [.data, .data, .widerDeep], laidTests := true, laidLooks := .later }
def GateFirstsCardSaid : Prop := Claim7.holds Tryz.pinned (.plain (OpenSpec.ofChange gateFirstsSpec)) gateFirstsCard

/-- THE SECOND FORM's CARD OF 'tipstafftop.TipstaffQueues'. -/
def tipstaffQueuesUptoCard : Claim7 := { stood := { row := tipstaffQueuesUptoRow, standIns := [], harness := (true, "e2b561d383fdc5b0254a67002d939232736a10884fe9d52585e0a69a509b34ca"), looks := false }, kinds := [], alts := [], laidByText := true, laidKinds := [.data, .data], laidTests := true, laidLooks := .later }
def TipstaffQueuesUptoCardSaid : Prop := Claim7.holds Tryz.pinned (.plain (OpenSpec.upto tipstaffQueuesSpec)) tipstaffQueuesUptoCard

/-- THE SECOND FORM's CARD OF 'tipstafftop.TipstaffCounts'. -/
def tipstaffCountsUptoCard : Claim7 := { stood := { row := tipstaffCountsUptoRow, standIns := [], harness := (true, "e2b561d383fdc5b0254a67002d939232736a10884fe9d52585e0a69a509b34ca"), looks := false }, kinds := [], alts := [], laidByText := true, laidKinds := [.data, .data], laidTests := true, laidLooks := .later }
def TipstaffCountsUptoCardSaid : Prop := Claim7.holds Tryz.pinned (.plain (OpenSpec.upto tipstaffCountsSpec)) tipstaffCountsUptoCard

/-- THE SECOND FORM's CARD OF 'tipstafflaw21.LoaderHeld'. -/
def loaderHeldUptoCard : Claim7 := { stood := { row := loaderHeldUptoRow, standIns := [], harness := (true, "e2b561d383fdc5b0254a67002d939232736a10884fe9d52585e0a69a509b34ca"), looks := false }, kinds := [], alts := [], laidByText := true, laidKinds := [.data, .data, .widerDeep], laidTests := true, laidLooks := .later }
def LoaderHeldUptoCardSaid : Prop := Claim7.holds Tryz.pinned (.plain (OpenSpec.upto loaderHeldSpec)) loaderHeldUptoCard

/-- THE SECOND FORM's CARD OF 'tipstafflaw22.GateChain'. -/
def gateChainUptoCard : Claim7 := { stood := { row := gateChainUptoRow, standIns := [], harness := (true, "e2b561d383fdc5b0254a67002d939232736a10884fe9d52585e0a69a509b34ca"), looks := false }, kinds := [], alts := [], laidByText := true, laidKinds := [.data, .data, .widerDeep], laidTests := true, laidLooks := .later }
def GateChainUptoCardSaid : Prop := Claim7.holds Tryz.pinned (.plain (OpenSpec.upto gateChainSpec)) gateChainUptoCard

/-- THE SECOND FORM's CARD OF 'tipstafflaw22.GateHeld'. -/
def gateHeldUptoCard : Claim7 := { stood := { row := gateHeldUptoRow, standIns := [], harness := (true, "e2b561d383fdc5b0254a67002d939232736a10884fe9d52585e0a69a509b34ca"), looks := false }, kinds := [], alts := [], laidByText := true, laidKinds := [.data, .data, .widerDeep], laidTests := true, laidLooks := .later }
def GateHeldUptoCardSaid : Prop := Claim7.holds Tryz.pinned (.plain (OpenSpec.upto gateHeldSpec)) gateHeldUptoCard

/-- THE SECOND FORM's CARD OF 'tipstafflaw22.GateFull'. -/
def gateFullUptoCard : Claim7 := { stood := { row := gateFullUptoRow, standIns := [], harness := (true, "e2b561d383fdc5b0254a67002d939232736a10884fe9d52585e0a69a509b34ca"), looks := false }, kinds := [], alts := [], laidByText := true, laidKinds := [.data, .data, .widerDeep], laidTests := true, laidLooks := .later }
def GateFullUptoCardSaid : Prop := Claim7.holds Tryz.pinned (.plain (OpenSpec.upto gateFullSpec)) gateFullUptoCard

/-- THE SECOND FORM's CARD OF 'tipstafflaw22.GateFrozen'. -/
def gateFrozenUptoCard : Claim7 := { stood := { row := gateFrozenUptoRow, standIns := [], harness := (true, "e2b561d383fdc5b0254a67002d939232736a10884fe9d52585e0a69a509b34ca"), looks := false }, kinds := [], alts := [], laidByText := true, laidKinds := [.data, .data, .widerDeep], laidTests := true, laidLooks := .later }
def GateFrozenUptoCardSaid : Prop := Claim7.holds Tryz.pinned (.plain (OpenSpec.upto gateFrozenSpec)) gateFrozenUptoCard

/-- THE SECOND FORM's CARD OF 'tipstafflaw22.GateRights'. -/
def gateRightsUptoCard : Claim7 := { stood := { row := gateRightsUptoRow, standIns := [], harness := (true, "e2b561d383fdc5b0254a67002d939232736a10884fe9d52585e0a69a509b34ca"), looks := false }, kinds := [], alts := [], laidByText := true, laidKinds := [.data, .data, .widerDeep], laidTests := true, laidLooks := .later }
def GateRightsUptoCardSaid : Prop := Claim7.holds Tryz.pinned (.plain (OpenSpec.upto gateRightsSpec)) gateRightsUptoCard

/-- THE SECOND FORM's CARD OF 'tipstafflaw22.GateFirsts'. -/
def gateFirstsUptoCard : Claim7 := { stood := { row := gateFirstsUptoRow, standIns := [], harness := (true, "e2b561d383fdc5b0254a67002d939232736a10884fe9d52585e0a69a509b34ca"), looks := false }, kinds := [], alts := [], laidByText := true, laidKinds := [.data, .data, .widerDeep], laidTests := true, laidLooks := .later }
def GateFirstsUptoCardSaid : Prop := Claim7.holds Tryz.pinned (.plain (OpenSpec.upto gateFirstsSpec)) gateFirstsUptoCard
end Rows
end Go.Proofs.YtmpgfgemnhbkhaaGreatDoor
