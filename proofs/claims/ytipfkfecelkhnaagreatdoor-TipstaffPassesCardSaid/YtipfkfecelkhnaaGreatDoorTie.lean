/-
  DERIVED. GIVEN WITH THE SEED: THE PROGRAM's TIES (one call each: nine closed facts by the kernel) AND EACH ROW's TIE, after the 31st guide's Derived/Test/Toyas{Tie, Card}.lean. No idea stands in it: it is a product of the set-up. Laid BY PROGRAM, IN A SANDBOX (cutbox-door.mjs). By AI agents, Wed Nov 11 2026. No macro, syntax, notation, axiom, sorry.
-/
import Derived.Test.YtipfkfecelkhnaaGreatDoorRows
import Derived.LaidByTextLater
import Derived.SevenTiedAt
import Derived.LaidSub
import Derived.LaidOnce
namespace Go.Proofs.YtipfkfecelkhnaaGreatDoor
open Go
set_option maxRecDepth 100000
theorem seatTie1 : Tryz.prog.laidByTextLater [("tipstaff/digest.k", Rows.laid_tipstaff_digest_k), ("tipstaff/digest.begin", Rows.laid_tipstaff_digest_begin), ("tipstaff/rights.helpers", Rows.laid_tipstaff_rights_helpers)] [.data, .data, .widerDeep] true :=
  Program.laidByTextLater_by_one 24 8 65 (by kernel_rfl) (by kernel_rfl) (by kernel_rfl) (by kernel_rfl) (by kernel_rfl) (by kernel_rfl) (fun _ _ => by kernel_rfl)
theorem noOwnUnsafe : Tryz.pinned.checked.prog.headLifts.contains "ownunsafe" = false := by kernel_rfl
theorem tie : Tryz.prog.laidByTextLater [("tipstaff/digest.k", Rows.laid_tipstaff_digest_k), ("tipstaff/digest.begin", Rows.laid_tipstaff_digest_begin), ("tipstaff/rights.helpers", Rows.laid_tipstaff_rights_helpers)] [.data, .data, .widerDeep] true :=
  Program.laidByTextLater.sub seatTie1 ["tipstaff/digest.k", "tipstaff/digest.begin", "tipstaff/rights.helpers"] (by kernel_rfl) (by kernel_rfl)
theorem tipstaffPasses_row_tie : Rows.tipstaffPassesRow.laidByTextAt .later Tryz.pinned [.data, .data, .widerDeep] true :=
  OpenClaim.laidByTextAt_later rfl rfl tie noOwnUnsafe
theorem loaderSums_row_tie : Rows.loaderSumsRow.laidByTextAt .later Tryz.pinned [.data, .data, .widerDeep] true :=
  OpenClaim.laidByTextAt_later rfl rfl tie noOwnUnsafe
theorem tipstaffPassesUpto_row_tie : Rows.tipstaffPassesUptoRow.laidByTextAt .later Tryz.pinned [.data, .data, .widerDeep] true :=
  OpenClaim.laidByTextAt_later rfl rfl tie noOwnUnsafe
theorem loaderSumsUpto_row_tie : Rows.loaderSumsUptoRow.laidByTextAt .later Tryz.pinned [.data, .data, .widerDeep] true :=
  OpenClaim.laidByTextAt_later rfl rfl tie noOwnUnsafe
end Go.Proofs.YtipfkfecelkhnaaGreatDoor
