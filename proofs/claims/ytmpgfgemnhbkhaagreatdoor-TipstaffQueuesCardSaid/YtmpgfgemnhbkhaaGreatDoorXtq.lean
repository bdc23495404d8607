/- TipstaffQueues: what it tells, whatever it is given (mktqu.py). -/
import Derived.Test.YtmpgfgemnhbkhaaGreatDoorXtqr0
import Derived.Test.YtmpgfgemnhbkhaaGreatDoorXtqr1
import Derived.Test.YtmpgfgemnhbkhaaGreatDoorXtqr2
import Derived.Test.YtmpgfgemnhbkhaaGreatDoorXtqr3
set_option maxRecDepth 100000
set_option linter.unusedVariables false
namespace Go.Proofs.YtmpgfgemnhbkhaaGreatDoor
open Go Go.Eng
variable {w : World}
theorem tqu_es {L i : Nat} {v : Value} (h : (tqu.es.take L)[i]? = some v) : i < 8 ∧ v = .chan (some (40 * i)) := by
  rw [List.getElem?_take] at h
  split at h
  · have e : tqu.es = (List.range 8).map fun j => Value.chan (some (40 * j)) := by rfl
    rw [e, List.getElem?_map, Option.map_eq_some_iff] at h
    obtain ⟨j, hj, rfl⟩ := h
    obtain ⟨h1, h2⟩ := List.getElem?_eq_some_iff.1 hj
    rw [List.getElem_range] at h2
    subst h2
    exact ⟨by simpa using h1, rfl⟩
  · cases h
theorem tqu_els (xs : List Int) (Ln : Int) (L i : Nat) (v : Value) (h : (tqu.es.take L)[i]? = some v) : syV (thP tqu.θb (tqu.θe Ln) (fun j => xs.getD j 0) 320) v = .int .i32 (xs.getD i 0) := by
  obtain ⟨h1, rfl⟩ := tqu_es h
  show thP tqu.θb (tqu.θe Ln) (fun j => xs.getD j 0) 320 (40 * i) = _
  rw [thP_at (Nat.ble_eq_true_of_le (show 40 * i + 1 ≤ 320 by omega)), show 40 * i / 40 = i by omega, show 40 * i % 40 = 0 by omega]
  rfl
theorem tqu_low (L : Nat) : ∀ v ∈ tqu.es.take L, lowS v = true := fun v hv => List.all_eq_true.1 (show tqu.es.all lowS = true by rfl) v (List.mem_of_mem_take hv)
theorem tqu_len {L : Nat} (h : L ≤ 8) : (tqu.es.take L).length = L := by rw [List.length_take]; exact Nat.min_eq_left h
theorem tqu_rng {xs : List Int} (hx : ∀ x ∈ xs, -2147483648 ≤ x ∧ x ≤ 2147483647) (i : Nat) : tqu.R (xs.getD i 0) := by
  rw [List.getD_eq_getElem?_getD]
  cases e : xs[i]? with
  | none => exact ⟨by decide, by decide⟩
  | some x => exact hx x (List.mem_of_getElem? e)
theorem tqu_ret_0 (a : Option Addr) (n c : Nat) (xs : List Int) (hr : RowAt1 w .i32 a n xs) (hnc : n ≤ c) (hx : ∀ x ∈ xs, -2147483648 ≤ x ∧ x ≤ 2147483647) (b : Bool) (hn : n = 0) (hb : Begin 2 hG w) : Ret Tryz.prog 3 [.slice a n c, .bool b] w fun v w' => v = .bool true ∧ Kept none' w w' := by
  have hlen : (Prod.snd (tqu.Rw 0)).length = 0 := by rfl
  have hf : Fits (thP tqu.θb (tqu.θe 8) (fun j => xs.getD j 0) 320) [(tqu.Rw 0)] [⟨a, n, c, 0⟩] := fits_one hr rfl (by rw [hn]; rfl) (by rw [hlen]; omega) hnc (by rw [hlen]; decide) (tqu_low 0) hlen.symm
  have hR : Go.Eng.RowsIn (thP tqu.θb (tqu.θe 8) (fun j => xs.getD j 0) 320) [(tqu.Rw 0)] [⟨a, n, c, 0⟩] w := rowsIn_one hr (by rw [hlen]; omega) fun i v hv => tqu_els xs 8 0 i v hv
  have hL : (8 : Int) ≤ 8 := by decide
  cases b
  · exact @ret_of_sym (tqu.sy (fun j => xs.getD j 0) (tqu_rng hx) 8 hL (tqu.Rw 0) _ hf) _ _ _ _ add_ok _ _ (xtabS_ok w hb) hb _ _ [.chan (some 1000), .bool false] _ 400 _ (by kernel_rfl) ⟨.inl ⟨rfl, rfl⟩, .inl ⟨rfl, rfl⟩, trivial⟩ (tqu_run_0_false _ (tqu_rng hx) 8 hL _ hf) rfl hR
  · exact @ret_of_sym (tqu.sy (fun j => xs.getD j 0) (tqu_rng hx) 8 hL (tqu.Rw 0) _ hf) _ _ _ _ add_ok _ _ (xtabS_ok w hb) hb _ _ [.chan (some 1000), .bool true] _ 400 _ (by kernel_rfl) ⟨.inl ⟨rfl, rfl⟩, .inl ⟨rfl, rfl⟩, trivial⟩ (tqu_run_0_true _ (tqu_rng hx) 8 hL _ hf) rfl hR
theorem tqu_ret_1 (a : Option Addr) (n c : Nat) (xs : List Int) (hr : RowAt1 w .i32 a n xs) (hnc : n ≤ c) (hx : ∀ x ∈ xs, -2147483648 ≤ x ∧ x ≤ 2147483647) (b : Bool) (hn : n = 1) (hb : Begin 2 hG w) : Ret Tryz.prog 3 [.slice a n c, .bool b] w fun v w' => v = .bool true ∧ Kept none' w w' := by
  have hlen : (Prod.snd (tqu.Rw 1)).length = 1 := by rfl
  have hf : Fits (thP tqu.θb (tqu.θe 8) (fun j => xs.getD j 0) 320) [(tqu.Rw 1)] [⟨a, n, c, 1⟩] := fits_one hr rfl (by rw [hn]; rfl) (by rw [hlen]; omega) hnc (by rw [hlen]; decide) (tqu_low 1) hlen.symm
  have hR : Go.Eng.RowsIn (thP tqu.θb (tqu.θe 8) (fun j => xs.getD j 0) 320) [(tqu.Rw 1)] [⟨a, n, c, 1⟩] w := rowsIn_one hr (by rw [hlen]; omega) fun i v hv => tqu_els xs 8 1 i v hv
  have hL : (8 : Int) ≤ 8 := by decide
  cases b
  · exact @ret_of_sym (tqu.sy (fun j => xs.getD j 0) (tqu_rng hx) 8 hL (tqu.Rw 1) _ hf) _ _ _ _ add_ok _ _ (xtabS_ok w hb) hb _ _ [.chan (some 1000), .bool false] _ 400 _ (by kernel_rfl) ⟨.inl ⟨rfl, rfl⟩, .inl ⟨rfl, rfl⟩, trivial⟩ (tqu_run_1_false _ (tqu_rng hx) 8 hL _ hf) rfl hR
  · exact @ret_of_sym (tqu.sy (fun j => xs.getD j 0) (tqu_rng hx) 8 hL (tqu.Rw 1) _ hf) _ _ _ _ add_ok _ _ (xtabS_ok w hb) hb _ _ [.chan (some 1000), .bool true] _ 400 _ (by kernel_rfl) ⟨.inl ⟨rfl, rfl⟩, .inl ⟨rfl, rfl⟩, trivial⟩ (tqu_run_1_true _ (tqu_rng hx) 8 hL _ hf) rfl hR
theorem tqu_ret_2 (a : Option Addr) (n c : Nat) (xs : List Int) (hr : RowAt1 w .i32 a n xs) (hnc : n ≤ c) (hx : ∀ x ∈ xs, -2147483648 ≤ x ∧ x ≤ 2147483647) (b : Bool) (hn : n = 2) (hb : Begin 2 hG w) : Ret Tryz.prog 3 [.slice a n c, .bool b] w fun v w' => v = .bool true ∧ Kept none' w w' := by
  have hlen : (Prod.snd (tqu.Rw 2)).length = 2 := by rfl
  have hf : Fits (thP tqu.θb (tqu.θe 8) (fun j => xs.getD j 0) 320) [(tqu.Rw 2)] [⟨a, n, c, 2⟩] := fits_one hr rfl (by rw [hn]; rfl) (by rw [hlen]; omega) hnc (by rw [hlen]; decide) (tqu_low 2) hlen.symm
  have hR : Go.Eng.RowsIn (thP tqu.θb (tqu.θe 8) (fun j => xs.getD j 0) 320) [(tqu.Rw 2)] [⟨a, n, c, 2⟩] w := rowsIn_one hr (by rw [hlen]; omega) fun i v hv => tqu_els xs 8 2 i v hv
  have hL : (8 : Int) ≤ 8 := by decide
  cases b
  · exact @ret_of_sym (tqu.sy (fun j => xs.getD j 0) (tqu_rng hx) 8 hL (tqu.Rw 2) _ hf) _ _ _ _ add_ok _ _ (xtabS_ok w hb) hb _ _ [.chan (some 1000), .bool false] _ 400 _ (by kernel_rfl) ⟨.inl ⟨rfl, rfl⟩, .inl ⟨rfl, rfl⟩, trivial⟩ (tqu_run_2_false _ (tqu_rng hx) 8 hL _ hf) rfl hR
  · exact @ret_of_sym (tqu.sy (fun j => xs.getD j 0) (tqu_rng hx) 8 hL (tqu.Rw 2) _ hf) _ _ _ _ add_ok _ _ (xtabS_ok w hb) hb _ _ [.chan (some 1000), .bool true] _ 400 _ (by kernel_rfl) ⟨.inl ⟨rfl, rfl⟩, .inl ⟨rfl, rfl⟩, trivial⟩ (tqu_run_2_true _ (tqu_rng hx) 8 hL _ hf) rfl hR
theorem tqu_ret_3 (a : Option Addr) (n c : Nat) (xs : List Int) (hr : RowAt1 w .i32 a n xs) (hnc : n ≤ c) (hx : ∀ x ∈ xs, -2147483648 ≤ x ∧ x ≤ 2147483647) (b : Bool) (hn : n = 3) (hb : Begin 2 hG w) : Ret Tryz.prog 3 [.slice a n c, .bool b] w fun v w' => v = .bool true ∧ Kept none' w w' := by
  have hlen : (Prod.snd (tqu.Rw 3)).length = 3 := by rfl
  have hf : Fits (thP tqu.θb (tqu.θe 8) (fun j => xs.getD j 0) 320) [(tqu.Rw 3)] [⟨a, n, c, 3⟩] := fits_one hr rfl (by rw [hn]; rfl) (by rw [hlen]; omega) hnc (by rw [hlen]; decide) (tqu_low 3) hlen.symm
  have hR : Go.Eng.RowsIn (thP tqu.θb (tqu.θe 8) (fun j => xs.getD j 0) 320) [(tqu.Rw 3)] [⟨a, n, c, 3⟩] w := rowsIn_one hr (by rw [hlen]; omega) fun i v hv => tqu_els xs 8 3 i v hv
  have hL : (8 : Int) ≤ 8 := by decide
  cases b
  · exact @ret_of_sym (tqu.sy (fun j => xs.getD j 0) (tqu_rng hx) 8 hL (tqu.Rw 3) _ hf) _ _ _ _ add_ok _ _ (xtabS_ok w hb) hb _ _ [.chan (some 1000), .bool false] _ 400 _ (by kernel_rfl) ⟨.inl ⟨rfl, rfl⟩, .inl ⟨rfl, rfl⟩, trivial⟩ (tqu_run_3_false _ (tqu_rng hx) 8 hL _ hf) rfl hR
  · exact @ret_of_sym (tqu.sy (fun j => xs.getD j 0) (tqu_rng hx) 8 hL (tqu.Rw 3) _ hf) _ _ _ _ add_ok _ _ (xtabS_ok w hb) hb _ _ [.chan (some 1000), .bool true] _ 400 _ (by kernel_rfl) ⟨.inl ⟨rfl, rfl⟩, .inl ⟨rfl, rfl⟩, trivial⟩ (tqu_run_3_true _ (tqu_rng hx) 8 hL _ hf) rfl hR
theorem tqu_ret_4 (a : Option Addr) (n c : Nat) (xs : List Int) (hr : RowAt1 w .i32 a n xs) (hnc : n ≤ c) (hx : ∀ x ∈ xs, -2147483648 ≤ x ∧ x ≤ 2147483647) (b : Bool) (hn : n = 4) (hb : Begin 2 hG w) : Ret Tryz.prog 3 [.slice a n c, .bool b] w fun v w' => v = .bool true ∧ Kept none' w w' := by
  have hlen : (Prod.snd (tqu.Rw 4)).length = 4 := by rfl
  have hf : Fits (thP tqu.θb (tqu.θe 8) (fun j => xs.getD j 0) 320) [(tqu.Rw 4)] [⟨a, n, c, 4⟩] := fits_one hr rfl (by rw [hn]; rfl) (by rw [hlen]; omega) hnc (by rw [hlen]; decide) (tqu_low 4) hlen.symm
  have hR : Go.Eng.RowsIn (thP tqu.θb (tqu.θe 8) (fun j => xs.getD j 0) 320) [(tqu.Rw 4)] [⟨a, n, c, 4⟩] w := rowsIn_one hr (by rw [hlen]; omega) fun i v hv => tqu_els xs 8 4 i v hv
  have hL : (8 : Int) ≤ 8 := by decide
  cases b
  · exact @ret_of_sym (tqu.sy (fun j => xs.getD j 0) (tqu_rng hx) 8 hL (tqu.Rw 4) _ hf) _ _ _ _ add_ok _ _ (xtabS_ok w hb) hb _ _ [.chan (some 1000), .bool false] _ 400 _ (by kernel_rfl) ⟨.inl ⟨rfl, rfl⟩, .inl ⟨rfl, rfl⟩, trivial⟩ (tqu_run_4_false _ (tqu_rng hx) 8 hL _ hf) rfl hR
  · exact @ret_of_sym (tqu.sy (fun j => xs.getD j 0) (tqu_rng hx) 8 hL (tqu.Rw 4) _ hf) _ _ _ _ add_ok _ _ (xtabS_ok w hb) hb _ _ [.chan (some 1000), .bool true] _ 400 _ (by kernel_rfl) ⟨.inl ⟨rfl, rfl⟩, .inl ⟨rfl, rfl⟩, trivial⟩ (tqu_run_4_true _ (tqu_rng hx) 8 hL _ hf) rfl hR
theorem tqu_ret_5 (a : Option Addr) (n c : Nat) (xs : List Int) (hr : RowAt1 w .i32 a n xs) (hnc : n ≤ c) (hx : ∀ x ∈ xs, -2147483648 ≤ x ∧ x ≤ 2147483647) (b : Bool) (hn : n = 5) (hb : Begin 2 hG w) : Ret Tryz.prog 3 [.slice a n c, .bool b] w fun v w' => v = .bool true ∧ Kept none' w w' := by
  have hlen : (Prod.snd (tqu.Rw 5)).length = 5 := by rfl
  have hf : Fits (thP tqu.θb (tqu.θe 8) (fun j => xs.getD j 0) 320) [(tqu.Rw 5)] [⟨a, n, c, 5⟩] := fits_one hr rfl (by rw [hn]; rfl) (by rw [hlen]; omega) hnc (by rw [hlen]; decide) (tqu_low 5) hlen.symm
  have hR : Go.Eng.RowsIn (thP tqu.θb (tqu.θe 8) (fun j => xs.getD j 0) 320) [(tqu.Rw 5)] [⟨a, n, c, 5⟩] w := rowsIn_one hr (by rw [hlen]; omega) fun i v hv => tqu_els xs 8 5 i v hv
  have hL : (8 : Int) ≤ 8 := by decide
  cases b
  · exact @ret_of_sym (tqu.sy (fun j => xs.getD j 0) (tqu_rng hx) 8 hL (tqu.Rw 5) _ hf) _ _ _ _ add_ok _ _ (xtabS_ok w hb) hb _ _ [.chan (some 1000), .bool false] _ 400 _ (by kernel_rfl) ⟨.inl ⟨rfl, rfl⟩, .inl ⟨rfl, rfl⟩, trivial⟩ (tqu_run_5_false _ (tqu_rng hx) 8 hL _ hf) rfl hR
  · exact @ret_of_sym (tqu.sy (fun j => xs.getD j 0) (tqu_rng hx) 8 hL (tqu.Rw 5) _ hf) _ _ _ _ add_ok _ _ (xtabS_ok w hb) hb _ _ [.chan (some 1000), .bool true] _ 400 _ (by kernel_rfl) ⟨.inl ⟨rfl, rfl⟩, .inl ⟨rfl, rfl⟩, trivial⟩ (tqu_run_5_true _ (tqu_rng hx) 8 hL _ hf) rfl hR
theorem tqu_ret_6 (a : Option Addr) (n c : Nat) (xs : List Int) (hr : RowAt1 w .i32 a n xs) (hnc : n ≤ c) (hx : ∀ x ∈ xs, -2147483648 ≤ x ∧ x ≤ 2147483647) (b : Bool) (hn : n = 6) (hb : Begin 2 hG w) : Ret Tryz.prog 3 [.slice a n c, .bool b] w fun v w' => v = .bool true ∧ Kept none' w w' := by
  have hlen : (Prod.snd (tqu.Rw 6)).length = 6 := by rfl
  have hf : Fits (thP tqu.θb (tqu.θe 8) (fun j => xs.getD j 0) 320) [(tqu.Rw 6)] [⟨a, n, c, 6⟩] := fits_one hr rfl (by rw [hn]; rfl) (by rw [hlen]; omega) hnc (by rw [hlen]; decide) (tqu_low 6) hlen.symm
  have hR : Go.Eng.RowsIn (thP tqu.θb (tqu.θe 8) (fun j => xs.getD j 0) 320) [(tqu.Rw 6)] [⟨a, n, c, 6⟩] w := rowsIn_one hr (by rw [hlen]; omega) fun i v hv => tqu_els xs 8 6 i v hv
  have hL : (8 : Int) ≤ 8 := by decide
  cases b
  · exact @ret_of_sym (tqu.sy (fun j => xs.getD j 0) (tqu_rng hx) 8 hL (tqu.Rw 6) _ hf) _ _ _ _ add_ok _ _ (xtabS_ok w hb) hb _ _ [.chan (some 1000), .bool false] _ 400 _ (by kernel_rfl) ⟨.inl ⟨rfl, rfl⟩, .inl ⟨rfl, rfl⟩, trivial⟩ (tqu_run_6_false _ (tqu_rng hx) 8 hL _ hf) rfl hR
  · exact @ret_of_sym (tqu.sy (fun j => xs.getD j 0) (tqu_rng hx) 8 hL (tqu.Rw 6) _ hf) _ _ _ _ add_ok _ _ (xtabS_ok w hb) hb _ _ [.chan (some 1000), .bool true] _ 400 _ (by kernel_rfl) ⟨.inl ⟨rfl, rfl⟩, .inl ⟨rfl, rfl⟩, trivial⟩ (tqu_run_6_true _ (tqu_rng hx) 8 hL _ hf) rfl hR
theorem tqu_ret_7 (a : Option Addr) (n c : Nat) (xs : List Int) (hr : RowAt1 w .i32 a n xs) (hnc : n ≤ c) (hx : ∀ x ∈ xs, -2147483648 ≤ x ∧ x ≤ 2147483647) (b : Bool) (hn : n = 7) (hb : Begin 2 hG w) : Ret Tryz.prog 3 [.slice a n c, .bool b] w fun v w' => v = .bool true ∧ Kept none' w w' := by
  have hlen : (Prod.snd (tqu.Rw 7)).length = 7 := by rfl
  have hf : Fits (thP tqu.θb (tqu.θe 8) (fun j => xs.getD j 0) 320) [(tqu.Rw 7)] [⟨a, n, c, 7⟩] := fits_one hr rfl (by rw [hn]; rfl) (by rw [hlen]; omega) hnc (by rw [hlen]; decide) (tqu_low 7) hlen.symm
  have hR : Go.Eng.RowsIn (thP tqu.θb (tqu.θe 8) (fun j => xs.getD j 0) 320) [(tqu.Rw 7)] [⟨a, n, c, 7⟩] w := rowsIn_one hr (by rw [hlen]; omega) fun i v hv => tqu_els xs 8 7 i v hv
  have hL : (8 : Int) ≤ 8 := by decide
  cases b
  · exact @ret_of_sym (tqu.sy (fun j => xs.getD j 0) (tqu_rng hx) 8 hL (tqu.Rw 7) _ hf) _ _ _ _ add_ok _ _ (xtabS_ok w hb) hb _ _ [.chan (some 1000), .bool false] _ 400 _ (by kernel_rfl) ⟨.inl ⟨rfl, rfl⟩, .inl ⟨rfl, rfl⟩, trivial⟩ (tqu_run_7_false _ (tqu_rng hx) 8 hL _ hf) rfl hR
  · exact @ret_of_sym (tqu.sy (fun j => xs.getD j 0) (tqu_rng hx) 8 hL (tqu.Rw 7) _ hf) _ _ _ _ add_ok _ _ (xtabS_ok w hb) hb _ _ [.chan (some 1000), .bool true] _ 400 _ (by kernel_rfl) ⟨.inl ⟨rfl, rfl⟩, .inl ⟨rfl, rfl⟩, trivial⟩ (tqu_run_7_true _ (tqu_rng hx) 8 hL _ hf) rfl hR
theorem tqu_ret_B (a : Option Addr) (n c : Nat) (xs : List Int) (hr : RowAt1 w .i32 a n xs) (hnc : n ≤ c) (hx : ∀ x ∈ xs, -2147483648 ≤ x ∧ x ≤ 2147483647) (b : Bool) (hn : 8 ≤ n) (hb : Begin 2 hG w) : Ret Tryz.prog 3 [.slice a n c, .bool b] w fun v w' => v = .bool true ∧ Kept none' w w' := by
  have hlen : (Prod.snd tqu.RB).length = 8 := by rfl
  have hf : Fits (thP tqu.θb (tqu.θe (n : Int)) (fun j => xs.getD j 0) 320) [tqu.RB] [⟨a, n, c, 8⟩] := fits_one hr rfl (rfl) (by rw [hlen]; omega) hnc (by rw [hlen]; decide) (tqu_low 8) hlen.symm
  have hR : Go.Eng.RowsIn (thP tqu.θb (tqu.θe (n : Int)) (fun j => xs.getD j 0) 320) [tqu.RB] [⟨a, n, c, 8⟩] w := rowsIn_one hr (by rw [hlen]; omega) fun i v hv => tqu_els xs (n : Int) 8 i v hv
  have hL : (8 : Int) ≤ (n : Int) := by omega
  cases b
  · exact @ret_of_sym (tqu.sy (fun j => xs.getD j 0) (tqu_rng hx) (n : Int) hL tqu.RB _ hf) _ _ _ _ add_ok _ _ (xtabS_ok w hb) hb _ _ [.chan (some 1000), .bool false] _ 400 _ (by kernel_rfl) ⟨.inl ⟨rfl, rfl⟩, .inl ⟨rfl, rfl⟩, trivial⟩ (tqu_run_B_false _ (tqu_rng hx) (n : Int) hL _ hf) rfl hR
  · exact @ret_of_sym (tqu.sy (fun j => xs.getD j 0) (tqu_rng hx) (n : Int) hL tqu.RB _ hf) _ _ _ _ add_ok _ _ (xtabS_ok w hb) hb _ _ [.chan (some 1000), .bool true] _ 400 _ (by kernel_rfl) ⟨.inl ⟨rfl, rfl⟩, .inl ⟨rfl, rfl⟩, trivial⟩ (tqu_run_B_true _ (tqu_rng hx) (n : Int) hL _ hf) rfl hR
theorem tqu_ret (a : Option Addr) (n c : Nat) (xs : List Int) (hr : RowAt1 w .i32 a n xs) (hnc : n ≤ c) (hx : ∀ x ∈ xs, -2147483648 ≤ x ∧ x ≤ 2147483647) (b : Bool) (hb : Begin 2 hG w) : Ret Tryz.prog 3 [.slice a n c, .bool b] w fun v w' => v = .bool true ∧ Kept none' w w' := by
  rcases (by omega : n = 0 ∨ n = 1 ∨ n = 2 ∨ n = 3 ∨ n = 4 ∨ n = 5 ∨ n = 6 ∨ n = 7 ∨ 8 ≤ n) with e | e | e | e | e | e | e | e | e
  · exact tqu_ret_0 a n c xs hr hnc hx b e hb
  · exact tqu_ret_1 a n c xs hr hnc hx b e hb
  · exact tqu_ret_2 a n c xs hr hnc hx b e hb
  · exact tqu_ret_3 a n c xs hr hnc hx b e hb
  · exact tqu_ret_4 a n c xs hr hnc hx b e hb
  · exact tqu_ret_5 a n c xs hr hnc hx b e hb
  · exact tqu_ret_6 a n c xs hr hnc hx b e hb
  · exact tqu_ret_7 a n c xs hr hnc hx b e hb
  · exact tqu_ret_B a n c xs hr hnc hx b e hb
end Go.Proofs.YtmpgfgemnhbkhaaGreatDoor
