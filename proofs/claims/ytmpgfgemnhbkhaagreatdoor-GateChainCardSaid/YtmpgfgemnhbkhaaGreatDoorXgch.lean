/- What it tells, whatever it is given (mkrun.py). -/
import Derived.Test.YtmpgfgemnhbkhaaGreatDoorXgchr0
import Derived.Test.YtmpgfgemnhbkhaaGreatDoorXgchr1
import Derived.Test.YtmpgfgemnhbkhaaGreatDoorXgchr2
set_option maxRecDepth 100000
set_option linter.unusedVariables false
namespace Go.Proofs.YtmpgfgemnhbkhaaGreatDoor
open Go Go.Eng
theorem gch_ret (x0 : Int) (hr0 : -9223372036854775808 ≤ x0 ∧ x0 ≤ 9223372036854775807) (x1 : Bool) (w : World) (hb : Begin 3 hG w) : Ret Tryz.prog 6 [.int .i64 x0, .bool x1] w fun v w' => v = .bool true ∧ Kept none' w w' := by
  have h0_0 := Int.emod_nonneg (x0 % 18446744073709551616) (show (4 : Int) ≠ 0 by decide)
  have h1_0 := Int.emod_lt_of_pos (x0 % 18446744073709551616) (show (0 : Int) < 4 by decide)
  rcases (by omega : (x0 % 18446744073709551616) % 4 = 0 ∨ (x0 % 18446744073709551616) % 4 = 1 ∨ (x0 % 18446744073709551616) % 4 = 2 ∨ (x0 % 18446744073709551616) % 4 = 3) with hc0 | hc0 | hc0 | hc0
  ·
    cases x1 with
    | false =>
      exact @ret_of_sym (gch_c_0.sy (fun i => x0) ⟨hr0, hc0⟩) _ _ _ _ add_ok _ _ (xtabS_ok w hb) hb _ _ [.chan (some 0), .bool false] _ 300 _ (by kernel_rfl) ⟨.inl ⟨rfl, rfl⟩, .inl ⟨rfl, rfl⟩, trivial⟩ (gch_run_c_0_false _ _) rfl trivial
    | true =>
      exact @ret_of_sym (gch_c_0.sy (fun i => x0) ⟨hr0, hc0⟩) _ _ _ _ add_ok _ _ (xtabS_ok w hb) hb _ _ [.chan (some 0), .bool true] _ 300 _ (by kernel_rfl) ⟨.inl ⟨rfl, rfl⟩, .inl ⟨rfl, rfl⟩, trivial⟩ (gch_run_c_0_true _ _) rfl trivial
  ·
    cases x1 with
    | false =>
      exact @ret_of_sym (gch_c_1.sy (fun i => x0) ⟨hr0, hc0⟩) _ _ _ _ add_ok _ _ (xtabS_ok w hb) hb _ _ [.chan (some 0), .bool false] _ 300 _ (by kernel_rfl) ⟨.inl ⟨rfl, rfl⟩, .inl ⟨rfl, rfl⟩, trivial⟩ (gch_run_c_1_false _ _) rfl trivial
    | true =>
      exact @ret_of_sym (gch_c_1.sy (fun i => x0) ⟨hr0, hc0⟩) _ _ _ _ add_ok _ _ (xtabS_ok w hb) hb _ _ [.chan (some 0), .bool true] _ 300 _ (by kernel_rfl) ⟨.inl ⟨rfl, rfl⟩, .inl ⟨rfl, rfl⟩, trivial⟩ (gch_run_c_1_true _ _) rfl trivial
  ·
    cases x1 with
    | false =>
      exact @ret_of_sym (gch_c_2.sy (fun i => x0) ⟨hr0, hc0⟩) _ _ _ _ add_ok _ _ (xtabS_ok w hb) hb _ _ [.chan (some 0), .bool false] _ 300 _ (by kernel_rfl) ⟨.inl ⟨rfl, rfl⟩, .inl ⟨rfl, rfl⟩, trivial⟩ (gch_run_c_2_false _ _) rfl trivial
    | true =>
      exact @ret_of_sym (gch_c_2.sy (fun i => x0) ⟨hr0, hc0⟩) _ _ _ _ add_ok _ _ (xtabS_ok w hb) hb _ _ [.chan (some 0), .bool true] _ 300 _ (by kernel_rfl) ⟨.inl ⟨rfl, rfl⟩, .inl ⟨rfl, rfl⟩, trivial⟩ (gch_run_c_2_true _ _) rfl trivial
  ·
    cases x1 with
    | false =>
      exact @ret_of_sym (gch_c_3.sy (fun i => x0) ⟨hr0, hc0⟩) _ _ _ _ add_ok _ _ (xtabS_ok w hb) hb _ _ [.chan (some 0), .bool false] _ 300 _ (by kernel_rfl) ⟨.inl ⟨rfl, rfl⟩, .inl ⟨rfl, rfl⟩, trivial⟩ (gch_run_c_3_false _ _) rfl trivial
    | true =>
      exact @ret_of_sym (gch_c_3.sy (fun i => x0) ⟨hr0, hc0⟩) _ _ _ _ add_ok _ _ (xtabS_ok w hb) hb _ _ [.chan (some 0), .bool true] _ 300 _ (by kernel_rfl) ⟨.inl ⟨rfl, rfl⟩, .inl ⟨rfl, rfl⟩, trivial⟩ (gch_run_c_3_true _ _) rfl trivial
end Go.Proofs.YtmpgfgemnhbkhaaGreatDoor
