/- What the listed variables give a run: three rows of numbers. -/
import Derived.Test.YtipfkfecelkhnaaGreatDoorLawLaid
import Derived.Test.YtipfkfecelkhnaaGreatDoorXtptab
set_option linter.unusedSimpArgs false
set_option linter.unusedVariables false
set_option maxRecDepth 8000
namespace Go.Proofs.YtipfkfecelkhnaaGreatDoor
open Go.ChangeShapes Go.WideShapes Go.ChangeAt Go.RowKit Go.Eng

theorem glob6_of {W : World} {laid : List (String × DataW Unit)} (hL : laidMetH Tryz.prog laid W)
    (h0 : (laid.filter fun x => x.1 == "tipstaff/digest.begin") = [("tipstaff/digest.begin", Rows.laid_tipstaff_digest_begin)])
    (h1 : (laid.filter fun x => x.1 == "tipstaff/digest.k") = [("tipstaff/digest.k", Rows.laid_tipstaff_digest_k)])
    (h2 : (laid.filter fun x => x.1 == "tipstaff/rights.helpers") = [("tipstaff/rights.helpers", Rows.laid_tipstaff_rights_helpers)]) : Begin 3 hG W := by
  have g0 := laid_ints "tipstaff/digest.begin" 0 155 153 .u32 gb hL (by rw [h0]; rfl) (by kernel_rfl) (by kernel_rfl) Tryz.underlying155 Tryz.underlying153 (by kernel_rfl)
  have g1 := laid_ints "tipstaff/digest.k" 1 232 153 .u32 gk hL (by rw [h1]; rfl) (by kernel_rfl) (by kernel_rfl) Tryz.underlying232 Tryz.underlying153 (by kernel_rfl)
  have g2 := laid_ints "tipstaff/rights.helpers" 2 342 21 .i32 gh hL (by rw [h2]; rfl) (by kernel_rfl) (by kernel_rfl) Tryz.underlying342 Tryz.underlying21 (by kernel_rfl)
  exact begin3 (by decide) (by decide) (by decide) g0 g1 g2
end Go.Proofs.YtipfkfecelkhnaaGreatDoor
