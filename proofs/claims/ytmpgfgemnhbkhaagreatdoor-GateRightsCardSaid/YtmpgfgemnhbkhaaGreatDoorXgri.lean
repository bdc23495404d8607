/- What it tells, whatever it is given (mkrun.py). -/
import Derived.Test.YtmpgfgemnhbkhaaGreatDoorXgrir0
import Derived.Test.YtmpgfgemnhbkhaaGreatDoorXgrir1
import Derived.Test.YtmpgfgemnhbkhaaGreatDoorXgrir2
import Derived.Test.YtmpgfgemnhbkhaaGreatDoorXgrir3
import Derived.Test.YtmpgfgemnhbkhaaGreatDoorXgrir4
import Derived.Test.YtmpgfgemnhbkhaaGreatDoorXgrir5
set_option maxRecDepth 100000
set_option linter.unusedVariables false
namespace Go.Proofs.YtmpgfgemnhbkhaaGreatDoor
open Go Go.Eng
theorem gri_ret (x0 : Int) (hr0 : -9223372036854775808 ≤ x0 ∧ x0 ≤ 9223372036854775807) (x1 : Int) (hr1 : -9223372036854775808 ≤ x1 ∧ x1 ≤ 9223372036854775807) (x2 : Bool) (w : World) (hb : Begin 3 hG w) : Ret Tryz.prog 10 [.int .i64 x0, .int .i64 x1, .bool x2] w fun v w' => v = .bool true ∧ Kept none' w w' := by
  have h0_0 := Int.emod_nonneg (x0 % 18446744073709551616) (show (3 : Int) ≠ 0 by decide)
  have h1_0 := Int.emod_lt_of_pos (x0 % 18446744073709551616) (show (0 : Int) < 3 by decide)
  have h0_1 := Int.emod_nonneg (x1 % 18446744073709551616) (show (4 : Int) ≠ 0 by decide)
  have h1_1 := Int.emod_lt_of_pos (x1 % 18446744073709551616) (show (0 : Int) < 4 by decide)
  rcases (by omega : (x0 % 18446744073709551616) % 3 = 0 ∨ (x0 % 18446744073709551616) % 3 = 1 ∨ (x0 % 18446744073709551616) % 3 = 2) with hc0 | hc0 | hc0
  ·
    rcases (by omega : (x1 % 18446744073709551616) % 4 = 0 ∨ (x1 % 18446744073709551616) % 4 = 1 ∨ (x1 % 18446744073709551616) % 4 = 2 ∨ (x1 % 18446744073709551616) % 4 = 3) with hc1 | hc1 | hc1 | hc1
    ·
      cases x2 with
      | false =>
        exact @ret_of_sym (gri_c_0_0.sy (fun i => match i with | 0 => x0 | _ => x1) ⟨hr0, hr1, hc0, hc1⟩) _ _ _ _ add_ok _ _ (xtabS_ok w hb) hb _ _ [.chan (some 0), .chan (some 1), .bool false] _ 300 _ (by kernel_rfl) ⟨.inl ⟨rfl, rfl⟩, .inl ⟨rfl, rfl⟩, .inl ⟨rfl, rfl⟩, trivial⟩ (gri_run_c_0_0_false _ _) rfl trivial
      | true =>
        exact @ret_of_sym (gri_c_0_0.sy (fun i => match i with | 0 => x0 | _ => x1) ⟨hr0, hr1, hc0, hc1⟩) _ _ _ _ add_ok _ _ (xtabS_ok w hb) hb _ _ [.chan (some 0), .chan (some 1), .bool true] _ 300 _ (by kernel_rfl) ⟨.inl ⟨rfl, rfl⟩, .inl ⟨rfl, rfl⟩, .inl ⟨rfl, rfl⟩, trivial⟩ (gri_run_c_0_0_true _ _) rfl trivial
    ·
      cases x2 with
      | false =>
        exact @ret_of_sym (gri_c_0_1.sy (fun i => match i with | 0 => x0 | _ => x1) ⟨hr0, hr1, hc0, hc1⟩) _ _ _ _ add_ok _ _ (xtabS_ok w hb) hb _ _ [.chan (some 0), .chan (some 1), .bool false] _ 300 _ (by kernel_rfl) ⟨.inl ⟨rfl, rfl⟩, .inl ⟨rfl, rfl⟩, .inl ⟨rfl, rfl⟩, trivial⟩ (gri_run_c_0_1_false _ _) rfl trivial
      | true =>
        exact @ret_of_sym (gri_c_0_1.sy (fun i => match i with | 0 => x0 | _ => x1) ⟨hr0, hr1, hc0, hc1⟩) _ _ _ _ add_ok _ _ (xtabS_ok w hb) hb _ _ [.chan (some 0), .chan (some 1), .bool true] _ 300 _ (by kernel_rfl) ⟨.inl ⟨rfl, rfl⟩, .inl ⟨rfl, rfl⟩, .inl ⟨rfl, rfl⟩, trivial⟩ (gri_run_c_0_1_true _ _) rfl trivial
    ·
      cases x2 with
      | false =>
        exact @ret_of_sym (gri_c_0_2.sy (fun i => match i with | 0 => x0 | _ => x1) ⟨hr0, hr1, hc0, hc1⟩) _ _ _ _ add_ok _ _ (xtabS_ok w hb) hb _ _ [.chan (some 0), .chan (some 1), .bool false] _ 300 _ (by kernel_rfl) ⟨.inl ⟨rfl, rfl⟩, .inl ⟨rfl, rfl⟩, .inl ⟨rfl, rfl⟩, trivial⟩ (gri_run_c_0_2_false _ _) rfl trivial
      | true =>
        exact @ret_of_sym (gri_c_0_2.sy (fun i => match i with | 0 => x0 | _ => x1) ⟨hr0, hr1, hc0, hc1⟩) _ _ _ _ add_ok _ _ (xtabS_ok w hb) hb _ _ [.chan (some 0), .chan (some 1), .bool true] _ 300 _ (by kernel_rfl) ⟨.inl ⟨rfl, rfl⟩, .inl ⟨rfl, rfl⟩, .inl ⟨rfl, rfl⟩, trivial⟩ (gri_run_c_0_2_true _ _) rfl trivial
    ·
      cases x2 with
      | false =>
        exact @ret_of_sym (gri_c_0_3.sy (fun i => match i with | 0 => x0 | _ => x1) ⟨hr0, hr1, hc0, hc1⟩) _ _ _ _ add_ok _ _ (xtabS_ok w hb) hb _ _ [.chan (some 0), .chan (some 1), .bool false] _ 300 _ (by kernel_rfl) ⟨.inl ⟨rfl, rfl⟩, .inl ⟨rfl, rfl⟩, .inl ⟨rfl, rfl⟩, trivial⟩ (gri_run_c_0_3_false _ _) rfl trivial
      | true =>
        exact @ret_of_sym (gri_c_0_3.sy (fun i => match i with | 0 => x0 | _ => x1) ⟨hr0, hr1, hc0, hc1⟩) _ _ _ _ add_ok _ _ (xtabS_ok w hb) hb _ _ [.chan (some 0), .chan (some 1), .bool true] _ 300 _ (by kernel_rfl) ⟨.inl ⟨rfl, rfl⟩, .inl ⟨rfl, rfl⟩, .inl ⟨rfl, rfl⟩, trivial⟩ (gri_run_c_0_3_true _ _) rfl trivial
  ·
    rcases (by omega : (x1 % 18446744073709551616) % 4 = 0 ∨ (x1 % 18446744073709551616) % 4 = 1 ∨ (x1 % 18446744073709551616) % 4 = 2 ∨ (x1 % 18446744073709551616) % 4 = 3) with hc1 | hc1 | hc1 | hc1
    ·
      cases x2 with
      | false =>
        exact @ret_of_sym (gri_c_1_0.sy (fun i => match i with | 0 => x0 | _ => x1) ⟨hr0, hr1, hc0, hc1⟩) _ _ _ _ add_ok _ _ (xtabS_ok w hb) hb _ _ [.chan (some 0), .chan (some 1), .bool false] _ 300 _ (by kernel_rfl) ⟨.inl ⟨rfl, rfl⟩, .inl ⟨rfl, rfl⟩, .inl ⟨rfl, rfl⟩, trivial⟩ (gri_run_c_1_0_false _ _) rfl trivial
      | true =>
        exact @ret_of_sym (gri_c_1_0.sy (fun i => match i with | 0 => x0 | _ => x1) ⟨hr0, hr1, hc0, hc1⟩) _ _ _ _ add_ok _ _ (xtabS_ok w hb) hb _ _ [.chan (some 0), .chan (some 1), .bool true] _ 300 _ (by kernel_rfl) ⟨.inl ⟨rfl, rfl⟩, .inl ⟨rfl, rfl⟩, .inl ⟨rfl, rfl⟩, trivial⟩ (gri_run_c_1_0_true _ _) rfl trivial
    ·
      cases x2 with
      | false =>
        exact @ret_of_sym (gri_c_1_1.sy (fun i => match i with | 0 => x0 | _ => x1) ⟨hr0, hr1, hc0, hc1⟩) _ _ _ _ add_ok _ _ (xtabS_ok w hb) hb _ _ [.chan (some 0), .chan (some 1), .bool false] _ 300 _ (by kernel_rfl) ⟨.inl ⟨rfl, rfl⟩, .inl ⟨rfl, rfl⟩, .inl ⟨rfl, rfl⟩, trivial⟩ (gri_run_c_1_1_false _ _) rfl trivial
      | true =>
        exact @ret_of_sym (gri_c_1_1.sy (fun i => match i with | 0 => x0 | _ => x1) ⟨hr0, hr1, hc0, hc1⟩) _ _ _ _ add_ok _ _ (xtabS_ok w hb) hb _ _ [.chan (some 0), .chan (some 1), .bool true] _ 300 _ (by kernel_rfl) ⟨.inl ⟨rfl, rfl⟩, .inl ⟨rfl, rfl⟩, .inl ⟨rfl, rfl⟩, trivial⟩ (gri_run_c_1_1_true _ _) rfl trivial
    ·
      cases x2 with
      | false =>
        exact @ret_of_sym (gri_c_1_2.sy (fun i => match i with | 0 => x0 | _ => x1) ⟨hr0, hr1, hc0, hc1⟩) _ _ _ _ add_ok _ _ (xtabS_ok w hb) hb _ _ [.chan (some 0), .chan (some 1), .bool false] _ 300 _ (by kernel_rfl) ⟨.inl ⟨rfl, rfl⟩, .inl ⟨rfl, rfl⟩, .inl ⟨rfl, rfl⟩, trivial⟩ (gri_run_c_1_2_false _ _) rfl trivial
      | true =>
        exact @ret_of_sym (gri_c_1_2.sy (fun i => match i with | 0 => x0 | _ => x1) ⟨hr0, hr1, hc0, hc1⟩) _ _ _ _ add_ok _ _ (xtabS_ok w hb) hb _ _ [.chan (some 0), .chan (some 1), .bool true] _ 300 _ (by kernel_rfl) ⟨.inl ⟨rfl, rfl⟩, .inl ⟨rfl, rfl⟩, .inl ⟨rfl, rfl⟩, trivial⟩ (gri_run_c_1_2_true _ _) rfl trivial
    ·
      cases x2 with
      | false =>
        exact @ret_of_sym (gri_c_1_3.sy (fun i => match i with | 0 => x0 | _ => x1) ⟨hr0, hr1, hc0, hc1⟩) _ _ _ _ add_ok _ _ (xtabS_ok w hb) hb _ _ [.chan (some 0), .chan (some 1), .bool false] _ 300 _ (by kernel_rfl) ⟨.inl ⟨rfl, rfl⟩, .inl ⟨rfl, rfl⟩, .inl ⟨rfl, rfl⟩, trivial⟩ (gri_run_c_1_3_false _ _) rfl trivial
      | true =>
        exact @ret_of_sym (gri_c_1_3.sy (fun i => match i with | 0 => x0 | _ => x1) ⟨hr0, hr1, hc0, hc1⟩) _ _ _ _ add_ok _ _ (xtabS_ok w hb) hb _ _ [.chan (some 0), .chan (some 1), .bool true] _ 300 _ (by kernel_rfl) ⟨.inl ⟨rfl, rfl⟩, .inl ⟨rfl, rfl⟩, .inl ⟨rfl, rfl⟩, trivial⟩ (gri_run_c_1_3_true _ _) rfl trivial
  ·
    rcases (by omega : (x1 % 18446744073709551616) % 4 = 0 ∨ (x1 % 18446744073709551616) % 4 = 1 ∨ (x1 % 18446744073709551616) % 4 = 2 ∨ (x1 % 18446744073709551616) % 4 = 3) with hc1 | hc1 | hc1 | hc1
    ·
      cases x2 with
      | false =>
        exact @ret_of_sym (gri_c_2_0.sy (fun i => match i with | 0 => x0 | _ => x1) ⟨hr0, hr1, hc0, hc1⟩) _ _ _ _ add_ok _ _ (xtabS_ok w hb) hb _ _ [.chan (some 0), .chan (some 1), .bool false] _ 300 _ (by kernel_rfl) ⟨.inl ⟨rfl, rfl⟩, .inl ⟨rfl, rfl⟩, .inl ⟨rfl, rfl⟩, trivial⟩ (gri_run_c_2_0_false _ _) rfl trivial
      | true =>
        exact @ret_of_sym (gri_c_2_0.sy (fun i => match i with | 0 => x0 | _ => x1) ⟨hr0, hr1, hc0, hc1⟩) _ _ _ _ add_ok _ _ (xtabS_ok w hb) hb _ _ [.chan (some 0), .chan (some 1), .bool true] _ 300 _ (by kernel_rfl) ⟨.inl ⟨rfl, rfl⟩, .inl ⟨rfl, rfl⟩, .inl ⟨rfl, rfl⟩, trivial⟩ (gri_run_c_2_0_true _ _) rfl trivial
    ·
      cases x2 with
      | false =>
        exact @ret_of_sym (gri_c_2_1.sy (fun i => match i with | 0 => x0 | _ => x1) ⟨hr0, hr1, hc0, hc1⟩) _ _ _ _ add_ok _ _ (xtabS_ok w hb) hb _ _ [.chan (some 0), .chan (some 1), .bool false] _ 300 _ (by kernel_rfl) ⟨.inl ⟨rfl, rfl⟩, .inl ⟨rfl, rfl⟩, .inl ⟨rfl, rfl⟩, trivial⟩ (gri_run_c_2_1_false _ _) rfl trivial
      | true =>
        exact @ret_of_sym (gri_c_2_1.sy (fun i => match i with | 0 => x0 | _ => x1) ⟨hr0, hr1, hc0, hc1⟩) _ _ _ _ add_ok _ _ (xtabS_ok w hb) hb _ _ [.chan (some 0), .chan (some 1), .bool true] _ 300 _ (by kernel_rfl) ⟨.inl ⟨rfl, rfl⟩, .inl ⟨rfl, rfl⟩, .inl ⟨rfl, rfl⟩, trivial⟩ (gri_run_c_2_1_true _ _) rfl trivial
    ·
      cases x2 with
      | false =>
        exact @ret_of_sym (gri_c_2_2.sy (fun i => match i with | 0 => x0 | _ => x1) ⟨hr0, hr1, hc0, hc1⟩) _ _ _ _ add_ok _ _ (xtabS_ok w hb) hb _ _ [.chan (some 0), .chan (some 1), .bool false] _ 300 _ (by kernel_rfl) ⟨.inl ⟨rfl, rfl⟩, .inl ⟨rfl, rfl⟩, .inl ⟨rfl, rfl⟩, trivial⟩ (gri_run_c_2_2_false _ _) rfl trivial
      | true =>
        exact @ret_of_sym (gri_c_2_2.sy (fun i => match i with | 0 => x0 | _ => x1) ⟨hr0, hr1, hc0, hc1⟩) _ _ _ _ add_ok _ _ (xtabS_ok w hb) hb _ _ [.chan (some 0), .chan (some 1), .bool true] _ 300 _ (by kernel_rfl) ⟨.inl ⟨rfl, rfl⟩, .inl ⟨rfl, rfl⟩, .inl ⟨rfl, rfl⟩, trivial⟩ (gri_run_c_2_2_true _ _) rfl trivial
    ·
      cases x2 with
      | false =>
        exact @ret_of_sym (gri_c_2_3.sy (fun i => match i with | 0 => x0 | _ => x1) ⟨hr0, hr1, hc0, hc1⟩) _ _ _ _ add_ok _ _ (xtabS_ok w hb) hb _ _ [.chan (some 0), .chan (some 1), .bool false] _ 300 _ (by kernel_rfl) ⟨.inl ⟨rfl, rfl⟩, .inl ⟨rfl, rfl⟩, .inl ⟨rfl, rfl⟩, trivial⟩ (gri_run_c_2_3_false _ _) rfl trivial
      | true =>
        exact @ret_of_sym (gri_c_2_3.sy (fun i => match i with | 0 => x0 | _ => x1) ⟨hr0, hr1, hc0, hc1⟩) _ _ _ _ add_ok _ _ (xtabS_ok w hb) hb _ _ [.chan (some 0), .chan (some 1), .bool true] _ 300 _ (by kernel_rfl) ⟨.inl ⟨rfl, rfl⟩, .inl ⟨rfl, rfl⟩, .inl ⟨rfl, rfl⟩, trivial⟩ (gri_run_c_2_3_true _ _) rfl trivial
end Go.Proofs.YtmpgfgemnhbkhaaGreatDoor
