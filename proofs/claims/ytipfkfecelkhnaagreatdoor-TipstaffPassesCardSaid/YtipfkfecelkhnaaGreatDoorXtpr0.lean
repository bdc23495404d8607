/- TipstaffPasses: runs, part 0 (mktpw.py). -/
import Derived.Test.YtipfkfecelkhnaaGreatDoorXtps
set_option maxRecDepth 100000
set_option linter.unusedVariables false
namespace Go.Proofs.YtipfkfecelkhnaaGreatDoor
open Go Go.Eng
theorem tp_pre (x L : Int) (D : List RowD) (hf : Fits (thTab tpa.tb (tpa.pb x) (tpa.θe x L)) [tpa.Rw] D) : endsR 3 [] .normal (tpT 0 1) (tpR (tpa.sy x L D hf) tpX0 ⟨xf3.V.map fun t => (nth [.chan (some 1000), .chan (some 0)] t).getD undef, hG, 3, 1⟩) = true := by kernel_rfl
theorem tp_e_0_0 (x L : Int) (D : List RowD) (hf : Fits (thTab tpa.tb (tpa.pb x) (tpa.θe x L)) [tpa.Rw] D) : endsV [.var 2] (.bool true) (tpR (tpa.sy x L D hf) tpX2 (tpT 0 0)) = true := by kernel_rfl
theorem tp_e_0_1 (x L : Int) (D : List RowD) (hf : Fits (thTab tpa.tb (tpa.pb x) (tpa.θe x L)) [tpa.Rw] D) : endsV [.var 2] (.bool true) (tpR (tpa.sy x L D hf) tpX2 (tpT 0 1)) = true := by kernel_rfl
theorem tp_e_1_0 (x L : Int) (D : List RowD) (hf : Fits (thTab tpa.tb (tpa.pb x) (tpa.θe x L)) [tpa.Rw] D) : endsV [.var 2] (.bool true) (tpR (tpa.sy x L D hf) tpX2 (tpT 1 0)) = true := by kernel_rfl
theorem tp_e_1_1 (x L : Int) (D : List RowD) (hf : Fits (thTab tpa.tb (tpa.pb x) (tpa.θe x L)) [tpa.Rw] D) : endsV [.var 2] (.bool true) (tpR (tpa.sy x L D hf) tpX2 (tpT 1 1)) = true := by kernel_rfl
theorem tp_e_2_0 (x L : Int) (D : List RowD) (hf : Fits (thTab tpa.tb (tpa.pb x) (tpa.θe x L)) [tpa.Rw] D) : endsV [.var 2] (.bool true) (tpR (tpa.sy x L D hf) tpX2 (tpT 2 0)) = true := by kernel_rfl
theorem tp_e_2_1 (x L : Int) (D : List RowD) (hf : Fits (thTab tpa.tb (tpa.pb x) (tpa.θe x L)) [tpa.Rw] D) : endsV [.var 2] (.bool true) (tpR (tpa.sy x L D hf) tpX2 (tpT 2 1)) = true := by kernel_rfl
theorem tp_e_3_0 (x L : Int) (D : List RowD) (hf : Fits (thTab tpa.tb (tpa.pb x) (tpa.θe x L)) [tpa.Rw] D) : endsV [.var 2] (.bool true) (tpR (tpa.sy x L D hf) tpX2 (tpT 3 0)) = true := by kernel_rfl
theorem tp_e_3_1 (x L : Int) (D : List RowD) (hf : Fits (thTab tpa.tb (tpa.pb x) (tpa.θe x L)) [tpa.Rw] D) : endsV [.var 2] (.bool true) (tpR (tpa.sy x L D hf) tpX2 (tpT 3 1)) = true := by kernel_rfl
theorem tp_h_0_0_0 (x L : Int) (D : List RowD) (hf : Fits (thTab tpa.tb (tpa.pb x) (tpa.θe x L)) [tpa.Rw] D) : endsR 3 [] .normal (tpT 0 1) (tpR (tpa.sy x L D hf) tpX1 (tpU 0 0 0)) = true := by kernel_rfl
theorem tp_h_0_0_1 (x L : Int) (D : List RowD) (hf : Fits (thTab tpa.tb (tpa.pb x) (tpa.θe x L)) [tpa.Rw] D) : endsR 3 [] .normal (tpT 1 0) (tpR (tpa.sy x L D hf) tpX1 (tpU 0 0 1)) = true := by kernel_rfl
theorem tp_h_0_0_2 (x L : Int) (D : List RowD) (hf : Fits (thTab tpa.tb (tpa.pb x) (tpa.θe x L)) [tpa.Rw] D) : endsR 3 [] .normal (tpT 2 0) (tpR (tpa.sy x L D hf) tpX1 (tpU 0 0 2)) = true := by kernel_rfl
theorem tp_h_0_0_3 (x L : Int) (D : List RowD) (hf : Fits (thTab tpa.tb (tpa.pb x) (tpa.θe x L)) [tpa.Rw] D) : endsR 3 [] .normal (tpT 3 0) (tpR (tpa.sy x L D hf) tpX1 (tpU 0 0 3)) = true := by kernel_rfl
theorem tp_h_0_1_0 (x L : Int) (D : List RowD) (hf : Fits (thTab tpa.tb (tpa.pb x) (tpa.θe x L)) [tpa.Rw] D) : endsR 3 [] .normal (tpT 0 0) (tpR (tpa.sy x L D hf) tpX1 (tpU 0 1 0)) = true := by kernel_rfl
theorem tp_h_0_1_1 (x L : Int) (D : List RowD) (hf : Fits (thTab tpa.tb (tpa.pb x) (tpa.θe x L)) [tpa.Rw] D) : endsR 3 [] .normal (tpT 1 0) (tpR (tpa.sy x L D hf) tpX1 (tpU 0 1 1)) = true := by kernel_rfl
theorem tp_h_0_1_2 (x L : Int) (D : List RowD) (hf : Fits (thTab tpa.tb (tpa.pb x) (tpa.θe x L)) [tpa.Rw] D) : endsR 3 [] .normal (tpT 2 0) (tpR (tpa.sy x L D hf) tpX1 (tpU 0 1 2)) = true := by kernel_rfl
theorem tp_h_0_1_3 (x L : Int) (D : List RowD) (hf : Fits (thTab tpa.tb (tpa.pb x) (tpa.θe x L)) [tpa.Rw] D) : endsR 3 [] .normal (tpT 3 0) (tpR (tpa.sy x L D hf) tpX1 (tpU 0 1 3)) = true := by kernel_rfl
theorem tp_h_1_0_0 (x L : Int) (D : List RowD) (hf : Fits (thTab tpa.tb (tpa.pb x) (tpa.θe x L)) [tpa.Rw] D) : endsR 3 [] .normal (tpT 0 0) (tpR (tpa.sy x L D hf) tpX1 (tpU 1 0 0)) = true := by kernel_rfl
theorem tp_h_1_0_1 (x L : Int) (D : List RowD) (hf : Fits (thTab tpa.tb (tpa.pb x) (tpa.θe x L)) [tpa.Rw] D) : endsR 3 [] .normal (tpT 1 1) (tpR (tpa.sy x L D hf) tpX1 (tpU 1 0 1)) = true := by kernel_rfl
theorem tp_h_1_0_2 (x L : Int) (D : List RowD) (hf : Fits (thTab tpa.tb (tpa.pb x) (tpa.θe x L)) [tpa.Rw] D) : endsR 3 [] .normal (tpT 2 0) (tpR (tpa.sy x L D hf) tpX1 (tpU 1 0 2)) = true := by kernel_rfl
theorem tp_h_1_0_3 (x L : Int) (D : List RowD) (hf : Fits (thTab tpa.tb (tpa.pb x) (tpa.θe x L)) [tpa.Rw] D) : endsR 3 [] .normal (tpT 3 0) (tpR (tpa.sy x L D hf) tpX1 (tpU 1 0 3)) = true := by kernel_rfl
theorem tp_h_1_1_0 (x L : Int) (D : List RowD) (hf : Fits (thTab tpa.tb (tpa.pb x) (tpa.θe x L)) [tpa.Rw] D) : endsR 3 [] .normal (tpT 0 0) (tpR (tpa.sy x L D hf) tpX1 (tpU 1 1 0)) = true := by kernel_rfl
theorem tp_h_1_1_1 (x L : Int) (D : List RowD) (hf : Fits (thTab tpa.tb (tpa.pb x) (tpa.θe x L)) [tpa.Rw] D) : endsR 3 [] .normal (tpT 1 0) (tpR (tpa.sy x L D hf) tpX1 (tpU 1 1 1)) = true := by kernel_rfl
theorem tp_h_1_1_2 (x L : Int) (D : List RowD) (hf : Fits (thTab tpa.tb (tpa.pb x) (tpa.θe x L)) [tpa.Rw] D) : endsR 3 [] .normal (tpT 2 0) (tpR (tpa.sy x L D hf) tpX1 (tpU 1 1 2)) = true := by kernel_rfl
theorem tp_h_1_1_3 (x L : Int) (D : List RowD) (hf : Fits (thTab tpa.tb (tpa.pb x) (tpa.θe x L)) [tpa.Rw] D) : endsR 3 [] .normal (tpT 3 0) (tpR (tpa.sy x L D hf) tpX1 (tpU 1 1 3)) = true := by kernel_rfl
theorem tp_h_2_0_0 (x L : Int) (D : List RowD) (hf : Fits (thTab tpa.tb (tpa.pb x) (tpa.θe x L)) [tpa.Rw] D) : endsR 3 [] .normal (tpT 0 0) (tpR (tpa.sy x L D hf) tpX1 (tpU 2 0 0)) = true := by kernel_rfl
theorem tp_h_2_0_1 (x L : Int) (D : List RowD) (hf : Fits (thTab tpa.tb (tpa.pb x) (tpa.θe x L)) [tpa.Rw] D) : endsR 3 [] .normal (tpT 1 0) (tpR (tpa.sy x L D hf) tpX1 (tpU 2 0 1)) = true := by kernel_rfl
theorem tp_h_2_0_2 (x L : Int) (D : List RowD) (hf : Fits (thTab tpa.tb (tpa.pb x) (tpa.θe x L)) [tpa.Rw] D) : endsR 3 [] .normal (tpT 2 1) (tpR (tpa.sy x L D hf) tpX1 (tpU 2 0 2)) = true := by kernel_rfl
theorem tp_h_2_0_3 (x L : Int) (D : List RowD) (hf : Fits (thTab tpa.tb (tpa.pb x) (tpa.θe x L)) [tpa.Rw] D) : endsR 3 [] .normal (tpT 3 0) (tpR (tpa.sy x L D hf) tpX1 (tpU 2 0 3)) = true := by kernel_rfl
theorem tp_h_2_1_0 (x L : Int) (D : List RowD) (hf : Fits (thTab tpa.tb (tpa.pb x) (tpa.θe x L)) [tpa.Rw] D) : endsR 3 [] .normal (tpT 0 0) (tpR (tpa.sy x L D hf) tpX1 (tpU 2 1 0)) = true := by kernel_rfl
theorem tp_h_2_1_1 (x L : Int) (D : List RowD) (hf : Fits (thTab tpa.tb (tpa.pb x) (tpa.θe x L)) [tpa.Rw] D) : endsR 3 [] .normal (tpT 1 0) (tpR (tpa.sy x L D hf) tpX1 (tpU 2 1 1)) = true := by kernel_rfl
theorem tp_h_2_1_2 (x L : Int) (D : List RowD) (hf : Fits (thTab tpa.tb (tpa.pb x) (tpa.θe x L)) [tpa.Rw] D) : endsR 3 [] .normal (tpT 2 0) (tpR (tpa.sy x L D hf) tpX1 (tpU 2 1 2)) = true := by kernel_rfl
theorem tp_h_2_1_3 (x L : Int) (D : List RowD) (hf : Fits (thTab tpa.tb (tpa.pb x) (tpa.θe x L)) [tpa.Rw] D) : endsR 3 [] .normal (tpT 3 0) (tpR (tpa.sy x L D hf) tpX1 (tpU 2 1 3)) = true := by kernel_rfl
theorem tp_h_3_0_0 (x L : Int) (D : List RowD) (hf : Fits (thTab tpa.tb (tpa.pb x) (tpa.θe x L)) [tpa.Rw] D) : endsR 3 [] .normal (tpT 0 0) (tpR (tpa.sy x L D hf) tpX1 (tpU 3 0 0)) = true := by kernel_rfl
theorem tp_h_3_0_1 (x L : Int) (D : List RowD) (hf : Fits (thTab tpa.tb (tpa.pb x) (tpa.θe x L)) [tpa.Rw] D) : endsR 3 [] .normal (tpT 1 0) (tpR (tpa.sy x L D hf) tpX1 (tpU 3 0 1)) = true := by kernel_rfl
theorem tp_h_3_0_2 (x L : Int) (D : List RowD) (hf : Fits (thTab tpa.tb (tpa.pb x) (tpa.θe x L)) [tpa.Rw] D) : endsR 3 [] .normal (tpT 2 0) (tpR (tpa.sy x L D hf) tpX1 (tpU 3 0 2)) = true := by kernel_rfl
theorem tp_h_3_0_3 (x L : Int) (D : List RowD) (hf : Fits (thTab tpa.tb (tpa.pb x) (tpa.θe x L)) [tpa.Rw] D) : endsR 3 [] .normal (tpT 3 1) (tpR (tpa.sy x L D hf) tpX1 (tpU 3 0 3)) = true := by kernel_rfl
theorem tp_h_3_1_0 (x L : Int) (D : List RowD) (hf : Fits (thTab tpa.tb (tpa.pb x) (tpa.θe x L)) [tpa.Rw] D) : endsR 3 [] .normal (tpT 0 0) (tpR (tpa.sy x L D hf) tpX1 (tpU 3 1 0)) = true := by kernel_rfl
theorem tp_h_3_1_1 (x L : Int) (D : List RowD) (hf : Fits (thTab tpa.tb (tpa.pb x) (tpa.θe x L)) [tpa.Rw] D) : endsR 3 [] .normal (tpT 1 0) (tpR (tpa.sy x L D hf) tpX1 (tpU 3 1 1)) = true := by kernel_rfl
theorem tp_h_3_1_2 (x L : Int) (D : List RowD) (hf : Fits (thTab tpa.tb (tpa.pb x) (tpa.θe x L)) [tpa.Rw] D) : endsR 3 [] .normal (tpT 2 0) (tpR (tpa.sy x L D hf) tpX1 (tpU 3 1 2)) = true := by kernel_rfl
theorem tp_h_3_1_3 (x L : Int) (D : List RowD) (hf : Fits (thTab tpa.tb (tpa.pb x) (tpa.θe x L)) [tpa.Rw] D) : endsR 3 [] .normal (tpT 3 0) (tpR (tpa.sy x L D hf) tpX1 (tpU 3 1 3)) = true := by kernel_rfl
end Go.Proofs.YtipfkfecelkhnaaGreatDoor
