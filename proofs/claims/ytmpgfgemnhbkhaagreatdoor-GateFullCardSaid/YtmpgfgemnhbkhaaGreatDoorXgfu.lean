/- What it tells, whatever it is given (mkrun.py). -/
import Derived.Test.YtmpgfgemnhbkhaaGreatDoorXgfur0
import Derived.Test.YtmpgfgemnhbkhaaGreatDoorXgfur1
set_option maxRecDepth 100000
set_option linter.unusedVariables false
namespace Go.Proofs.YtmpgfgemnhbkhaaGreatDoor
open Go Go.Eng
theorem gfu_ret (x0 : Int) (hr0 : -9223372036854775808 ≤ x0 ∧ x0 ≤ 9223372036854775807) (w : World) (hb : Begin 3 hG w) : Ret Tryz.prog 8 [.int .i64 x0] w fun v w' => v = .bool true ∧ Kept none' w w' := by
  have h0_0 := Int.emod_nonneg (x0 % 18446744073709551616) (show (4 : Int) ≠ 0 by decide)
  have h1_0 := Int.emod_lt_of_pos (x0 % 18446744073709551616) (show (0 : Int) < 4 by decide)
  rcases (by omega : (x0 % 18446744073709551616) % 4 = 0 ∨ (x0 % 18446744073709551616) % 4 = 1 ∨ (x0 % 18446744073709551616) % 4 = 2 ∨ (x0 % 18446744073709551616) % 4 = 3) with hc0 | hc0 | hc0 | hc0
  ·
    exact @ret_of_sym (gfu_c_0.sy (fun i => x0) ⟨hr0, hc0⟩) _ _ _ _ add_ok _ _ (xtabS_ok w hb) hb _ _ [.chan (some 0)] _ 300 _ (by kernel_rfl) ⟨.inl ⟨rfl, rfl⟩, trivial⟩ (gfu_run_c_0 _ _) rfl trivial
  ·
    exact @ret_of_sym (gfu_c_1.sy (fun i => x0) ⟨hr0, hc0⟩) _ _ _ _ add_ok _ _ (xtabS_ok w hb) hb _ _ [.chan (some 0)] _ 300 _ (by kernel_rfl) ⟨.inl ⟨rfl, rfl⟩, trivial⟩ (gfu_run_c_1 _ _) rfl trivial
  ·
    exact @ret_of_sym (gfu_c_2.sy (fun i => x0) ⟨hr0, hc0⟩) _ _ _ _ add_ok _ _ (xtabS_ok w hb) hb _ _ [.chan (some 0)] _ 300 _ (by kernel_rfl) ⟨.inl ⟨rfl, rfl⟩, trivial⟩ (gfu_run_c_2 _ _) rfl trivial
  ·
    exact @ret_of_sym (gfu_c_3.sy (fun i => x0) ⟨hr0, hc0⟩) _ _ _ _ add_ok _ _ (xtabS_ok w hb) hb _ _ [.chan (some 0)] _ 300 _ (by kernel_rfl) ⟨.inl ⟨rfl, rfl⟩, trivial⟩ (gfu_run_c_3 _ _) rfl trivial
end Go.Proofs.YtmpgfgemnhbkhaaGreatDoor
