/- What the listed variables give a run: two rows of numbers. -/
import Derived.Test.YtmpgfgemnhbkhaaGreatDoorLawLaid
import Derived.Test.YtmpgfgemnhbkhaaGreatDoorXtttab
set_option linter.unusedSimpArgs false
set_option linter.unusedVariables false
set_option maxRecDepth 8000
namespace Go.Proofs.YtmpgfgemnhbkhaaGreatDoor
open Go.ChangeShapes Go.WideShapes Go.ChangeAt Go.RowKit Go.Eng

theorem glob7_of {W : World} {laid : List (String × DataW Unit)} (hL : laidMetH Tryz.prog laid W)
    (h0 : (laid.filter fun x => x.1 == "tipstaff/digest.begin") = [("tipstaff/digest.begin", Rows.laid_tipstaff_digest_begin)])
    (h1 : (laid.filter fun x => x.1 == "tipstaff/digest.k") = [("tipstaff/digest.k", Rows.laid_tipstaff_digest_k)]) : Begin 2 hG W := by
  have g0 := laid_ints "tipstaff/digest.begin" 0 184 182 .u32 gb hL (by rw [h0]; rfl) (by kernel_rfl) (by kernel_rfl) Tryz.underlying184 Tryz.underlying182 (by kernel_rfl)
  have g1 := laid_ints "tipstaff/digest.k" 1 259 182 .u32 gk hL (by rw [h1]; rfl) (by kernel_rfl) (by kernel_rfl) Tryz.underlying259 Tryz.underlying182 (by kernel_rfl)
  exact begin2 (by decide) (by decide) g0 g1
end Go.Proofs.YtmpgfgemnhbkhaaGreatDoor
