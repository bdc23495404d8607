/- What it tells, whatever it is given (mkrun.py). -/
import Derived.Test.YtmpgfgemnhbkhaaGreatDoorXgfrr0
import Derived.Test.YtmpgfgemnhbkhaaGreatDoorXgfrr1
import Derived.Test.YtmpgfgemnhbkhaaGreatDoorXgfrr2
set_option maxRecDepth 100000
set_option linter.unusedVariables false
namespace Go.Proofs.YtmpgfgemnhbkhaaGreatDoor
open Go Go.Eng
theorem gfr_ret (x0 : Bool) (x1 : Int) (hr1 : -9223372036854775808 ≤ x1 ∧ x1 ≤ 9223372036854775807) (w : World) (hb : Begin 3 hG w) : Ret Tryz.prog 9 [.bool x0, .int .i64 x1] w fun v w' => v = .bool true ∧ Kept none' w w' := by
  have h0_1 := Int.emod_nonneg (x1 % 18446744073709551616) (show (3 : Int) ≠ 0 by decide)
  have h1_1 := Int.emod_lt_of_pos (x1 % 18446744073709551616) (show (0 : Int) < 3 by decide)
  rcases (by omega : (x1 % 18446744073709551616) % 3 = 0 ∨ (x1 % 18446744073709551616) % 3 = 1 ∨ (x1 % 18446744073709551616) % 3 = 2) with hc1 | hc1 | hc1
  ·
    cases x0 with
    | false =>
      exact @ret_of_sym (gfr_c_0.sy (fun i => x1) ⟨hr1, hc1⟩) _ _ _ _ add_ok _ _ (xtabS_ok w hb) hb _ _ [.bool false, .chan (some 0)] _ 300 _ (by kernel_rfl) ⟨.inl ⟨rfl, rfl⟩, .inl ⟨rfl, rfl⟩, trivial⟩ (gfr_run_c_0_false _ _) rfl trivial
    | true =>
      exact @ret_of_sym (gfr_c_0.sy (fun i => x1) ⟨hr1, hc1⟩) _ _ _ _ add_ok _ _ (xtabS_ok w hb) hb _ _ [.bool true, .chan (some 0)] _ 300 _ (by kernel_rfl) ⟨.inl ⟨rfl, rfl⟩, .inl ⟨rfl, rfl⟩, trivial⟩ (gfr_run_c_0_true _ _) rfl trivial
  ·
    cases x0 with
    | false =>
      exact @ret_of_sym (gfr_c_1.sy (fun i => x1) ⟨hr1, hc1⟩) _ _ _ _ add_ok _ _ (xtabS_ok w hb) hb _ _ [.bool false, .chan (some 0)] _ 300 _ (by kernel_rfl) ⟨.inl ⟨rfl, rfl⟩, .inl ⟨rfl, rfl⟩, trivial⟩ (gfr_run_c_1_false _ _) rfl trivial
    | true =>
      exact @ret_of_sym (gfr_c_1.sy (fun i => x1) ⟨hr1, hc1⟩) _ _ _ _ add_ok _ _ (xtabS_ok w hb) hb _ _ [.bool true, .chan (some 0)] _ 300 _ (by kernel_rfl) ⟨.inl ⟨rfl, rfl⟩, .inl ⟨rfl, rfl⟩, trivial⟩ (gfr_run_c_1_true _ _) rfl trivial
  ·
    cases x0 with
    | false =>
      exact @ret_of_sym (gfr_c_2.sy (fun i => x1) ⟨hr1, hc1⟩) _ _ _ _ add_ok _ _ (xtabS_ok w hb) hb _ _ [.bool false, .chan (some 0)] _ 300 _ (by kernel_rfl) ⟨.inl ⟨rfl, rfl⟩, .inl ⟨rfl, rfl⟩, trivial⟩ (gfr_run_c_2_false _ _) rfl trivial
    | true =>
      exact @ret_of_sym (gfr_c_2.sy (fun i => x1) ⟨hr1, hc1⟩) _ _ _ _ add_ok _ _ (xtabS_ok w hb) hb _ _ [.bool true, .chan (some 0)] _ 300 _ (by kernel_rfl) ⟨.inl ⟨rfl, rfl⟩, .inl ⟨rfl, rfl⟩, trivial⟩ (gfr_run_c_2_true _ _) rfl trivial
end Go.Proofs.YtmpgfgemnhbkhaaGreatDoor
