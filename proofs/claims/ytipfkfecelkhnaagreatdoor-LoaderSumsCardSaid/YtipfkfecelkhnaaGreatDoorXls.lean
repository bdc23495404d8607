/- LoaderSums: what it tells, whatever it is given (mklsu.py). -/
import Derived.Test.YtipfkfecelkhnaaGreatDoorXlsr0
import Derived.Test.YtipfkfecelkhnaaGreatDoorXlsr1
import Derived.Test.YtipfkfecelkhnaaGreatDoorXlsr2
import Derived.Test.YtipfkfecelkhnaaGreatDoorXlsr3
import Derived.Test.YtipfkfecelkhnaaGreatDoorXlsr4
set_option maxRecDepth 100000
set_option linter.unusedVariables false
namespace Go.Proofs.YtipfkfecelkhnaaGreatDoor
open Go Go.Eng
variable {w : World}
theorem lsu_els (t : Tab) (hn : t.np = 3) (x0 x1 Ln : Int) (xs : List Int) (L i : Nat) (v : Value) (h : (lsu.es.take L)[i]? = some v) : syV (thTab t (fun j => xs.getD j 0) (lsu.θe x0 x1 Ln)) v = .int .u8 (xs.getD i 0) := by
  rw [List.getElem?_take] at h
  split at h
  · have key : ∀ i, i < 3 → syV (thTab t (fun j => xs.getD j 0) (lsu.θe x0 x1 Ln)) (.chan (some (100000 + i))) = .int .u8 (xs.getD i 0) := fun i hi => by
      show thTab t (fun j => xs.getD j 0) (lsu.θe x0 x1 Ln) (100000 + i) = _
      rw [thTab_at]
      unfold Tab.th Tab.kind Tab.isW
      rw [hn, show Nat.blt i 3 = true from Nat.ble_eq_true_of_le hi]
      simp only [Tab.val, hn, hi, if_true]
    match i, h with
    | 0, h => obtain rfl := Option.some.inj h; exact key 0 (by decide)
    | 1, h => obtain rfl := Option.some.inj h; exact key 1 (by decide)
    | 2, h => obtain rfl := Option.some.inj h; exact key 2 (by decide)
    | i + 3, h => simp [lsu.es] at h
  · cases h
theorem lsu_low (L : Nat) : ∀ v ∈ lsu.es.take L, lowS v = true := fun v hv => List.all_eq_true.1 (show lsu.es.all lowS = true by rfl) v (List.mem_of_mem_take hv)
theorem lsu_ret_0 (x0 x1 : Int) (a : Option Addr) (n c : Nat) (xs : List Int) (hr : RowAt1 w .u8 a n xs) (hnc : n ≤ c) (hn : n = 0) (hb : Begin 3 hG w) : Ret Tryz.prog 4 [.int .i32 x0, .int .i32 x1, .slice a n c] w fun v w' => v = .bool true ∧ Kept none' w w' := by
  have hlen : (Prod.snd (lsu.R 0)).length = 0 := by rfl
  have hf : Fits (thTab lsT1 (fun j => xs.getD j 0) (lsu.θe x0 x1 4)) [(lsu.R 0)] [⟨a, n, c, 0⟩] := fits_one hr rfl (by rw [hn]; rfl) (by rw [hlen]; omega) hnc (by rw [hlen]; decide) (lsu_low 0) hlen.symm
  have hR : Go.Eng.RowsIn (thTab lsT1 (fun j => xs.getD j 0) (lsu.θe x0 x1 4)) [(lsu.R 0)] [⟨a, n, c, 0⟩] w := rowsIn_one hr (by rw [hlen]; omega) fun i v hv => lsu_els lsT1 rfl x0 x1 4 xs 0 i v hv
  have hL : (4 : Int) ≤ 4 := by decide
  exact @ret_of_sym (lsu.sy lsT1 (fun j => xs.getD j 0) x0 x1 4 hL (lsu.R 0) _ hf) _ _ _ _ add_ok _ _ (xtabS_ok w hb) hb _ _ [.chan (some 0), .chan (some 1), .chan (some 1000)] _ 400 _ (by kernel_rfl) ⟨.inl ⟨rfl, rfl⟩, .inl ⟨rfl, rfl⟩, .inl ⟨rfl, rfl⟩, trivial⟩ (lsu_run_0 _ x0 x1 4 hL _ hf) rfl hR
theorem lsu_ret_1 (x0 x1 : Int) (a : Option Addr) (n c : Nat) (xs : List Int) (hr : RowAt1 w .u8 a n xs) (hnc : n ≤ c) (hn : n = 1) (hb : Begin 3 hG w) : Ret Tryz.prog 4 [.int .i32 x0, .int .i32 x1, .slice a n c] w fun v w' => v = .bool true ∧ Kept none' w w' := by
  have hlen : (Prod.snd (lsu.R 1)).length = 1 := by rfl
  have hf : Fits (thTab lsT1 (fun j => xs.getD j 0) (lsu.θe x0 x1 4)) [(lsu.R 1)] [⟨a, n, c, 1⟩] := fits_one hr rfl (by rw [hn]; rfl) (by rw [hlen]; omega) hnc (by rw [hlen]; decide) (lsu_low 1) hlen.symm
  have hR : Go.Eng.RowsIn (thTab lsT1 (fun j => xs.getD j 0) (lsu.θe x0 x1 4)) [(lsu.R 1)] [⟨a, n, c, 1⟩] w := rowsIn_one hr (by rw [hlen]; omega) fun i v hv => lsu_els lsT1 rfl x0 x1 4 xs 1 i v hv
  have hL : (4 : Int) ≤ 4 := by decide
  exact @ret_of_sym (lsu.sy lsT1 (fun j => xs.getD j 0) x0 x1 4 hL (lsu.R 1) _ hf) _ _ _ _ add_ok _ _ (xtabS_ok w hb) hb _ _ [.chan (some 0), .chan (some 1), .chan (some 1000)] _ 400 _ (by kernel_rfl) ⟨.inl ⟨rfl, rfl⟩, .inl ⟨rfl, rfl⟩, .inl ⟨rfl, rfl⟩, trivial⟩ (lsu_run_1 _ x0 x1 4 hL _ hf) rfl hR
theorem lsu_ret_2 (x0 x1 : Int) (a : Option Addr) (n c : Nat) (xs : List Int) (hr : RowAt1 w .u8 a n xs) (hnc : n ≤ c) (hn : n = 2) (hb : Begin 3 hG w) : Ret Tryz.prog 4 [.int .i32 x0, .int .i32 x1, .slice a n c] w fun v w' => v = .bool true ∧ Kept none' w w' := by
  have hlen : (Prod.snd (lsu.R 2)).length = 2 := by rfl
  have hf : Fits (thTab lsT2 (fun j => xs.getD j 0) (lsu.θe x0 x1 4)) [(lsu.R 2)] [⟨a, n, c, 2⟩] := fits_one hr rfl (by rw [hn]; rfl) (by rw [hlen]; omega) hnc (by rw [hlen]; decide) (lsu_low 2) hlen.symm
  have hR : Go.Eng.RowsIn (thTab lsT2 (fun j => xs.getD j 0) (lsu.θe x0 x1 4)) [(lsu.R 2)] [⟨a, n, c, 2⟩] w := rowsIn_one hr (by rw [hlen]; omega) fun i v hv => lsu_els lsT2 rfl x0 x1 4 xs 2 i v hv
  have hL : (4 : Int) ≤ 4 := by decide
  exact @ret_of_sym (lsu.sy lsT2 (fun j => xs.getD j 0) x0 x1 4 hL (lsu.R 2) _ hf) _ _ _ _ add_ok _ _ (xtabS_ok w hb) hb _ _ [.chan (some 0), .chan (some 1), .chan (some 1000)] _ 400 _ (by kernel_rfl) ⟨.inl ⟨rfl, rfl⟩, .inl ⟨rfl, rfl⟩, .inl ⟨rfl, rfl⟩, trivial⟩ (lsu_run_2 _ x0 x1 4 hL _ hf) rfl hR
theorem lsu_ret_3 (x0 x1 : Int) (a : Option Addr) (n c : Nat) (xs : List Int) (hr : RowAt1 w .u8 a n xs) (hnc : n ≤ c) (hn : n = 3) (hb : Begin 3 hG w) : Ret Tryz.prog 4 [.int .i32 x0, .int .i32 x1, .slice a n c] w fun v w' => v = .bool true ∧ Kept none' w w' := by
  have hlen : (Prod.snd (lsu.R 3)).length = 3 := by rfl
  have hf : Fits (thTab lsT3 (fun j => xs.getD j 0) (lsu.θe x0 x1 4)) [(lsu.R 3)] [⟨a, n, c, 3⟩] := fits_one hr rfl (by rw [hn]; rfl) (by rw [hlen]; omega) hnc (by rw [hlen]; decide) (lsu_low 3) hlen.symm
  have hR : Go.Eng.RowsIn (thTab lsT3 (fun j => xs.getD j 0) (lsu.θe x0 x1 4)) [(lsu.R 3)] [⟨a, n, c, 3⟩] w := rowsIn_one hr (by rw [hlen]; omega) fun i v hv => lsu_els lsT3 rfl x0 x1 4 xs 3 i v hv
  have hL : (4 : Int) ≤ 4 := by decide
  exact @ret_of_sym (lsu.sy lsT3 (fun j => xs.getD j 0) x0 x1 4 hL (lsu.R 3) _ hf) _ _ _ _ add_ok _ _ (xtabS_ok w hb) hb _ _ [.chan (some 0), .chan (some 1), .chan (some 1000)] _ 400 _ (by kernel_rfl) ⟨.inl ⟨rfl, rfl⟩, .inl ⟨rfl, rfl⟩, .inl ⟨rfl, rfl⟩, trivial⟩ (lsu_run_3 _ x0 x1 4 hL _ hf) rfl hR
theorem lsu_ret_B (x0 x1 : Int) (a : Option Addr) (n c : Nat) (xs : List Int) (hr : RowAt1 w .u8 a n xs) (hnc : n ≤ c) (hn : 4 ≤ n) (hb : Begin 3 hG w) : Ret Tryz.prog 4 [.int .i32 x0, .int .i32 x1, .slice a n c] w fun v w' => v = .bool true ∧ Kept none' w w' := by
  have hlen : (Prod.snd lsu.RB).length = 3 := by rfl
  have hf : Fits (thTab lsT3 (fun j => xs.getD j 0) (lsu.θe x0 x1 (n : Int))) [lsu.RB] [⟨a, n, c, 3⟩] := fits_one hr rfl (rfl) (by rw [hlen]; omega) hnc (by rw [hlen]; decide) (lsu_low 3) hlen.symm
  have hR : Go.Eng.RowsIn (thTab lsT3 (fun j => xs.getD j 0) (lsu.θe x0 x1 (n : Int))) [lsu.RB] [⟨a, n, c, 3⟩] w := rowsIn_one hr (by rw [hlen]; omega) fun i v hv => lsu_els lsT3 rfl x0 x1 (n : Int) xs 3 i v hv
  have hL : (4 : Int) ≤ (n : Int) := by omega
  exact @ret_of_sym (lsu.sy lsT3 (fun j => xs.getD j 0) x0 x1 (n : Int) hL lsu.RB _ hf) _ _ _ _ add_ok _ _ (xtabS_ok w hb) hb _ _ [.chan (some 0), .chan (some 1), .chan (some 1000)] _ 400 _ (by kernel_rfl) ⟨.inl ⟨rfl, rfl⟩, .inl ⟨rfl, rfl⟩, .inl ⟨rfl, rfl⟩, trivial⟩ (lsu_run_B _ x0 x1 (n : Int) hL _ hf) rfl hR
theorem lsu_ret (x0 x1 : Int) (a : Option Addr) (n c : Nat) (xs : List Int) (hr : RowAt1 w .u8 a n xs) (hnc : n ≤ c) (hb : Begin 3 hG w) : Ret Tryz.prog 4 [.int .i32 x0, .int .i32 x1, .slice a n c] w fun v w' => v = .bool true ∧ Kept none' w w' := by
  rcases (by omega : n = 0 ∨ n = 1 ∨ n = 2 ∨ n = 3 ∨ 4 ≤ n) with e | e | e | e | e
  · exact lsu_ret_0 x0 x1 a n c xs hr hnc e hb
  · exact lsu_ret_1 x0 x1 a n c xs hr hnc e hb
  · exact lsu_ret_2 x0 x1 a n c xs hr hnc e hb
  · exact lsu_ret_3 x0 x1 a n c xs hr hnc e hb
  · exact lsu_ret_B x0 x1 a n c xs hr hnc e hb
end Go.Proofs.YtipfkfecelkhnaaGreatDoor
