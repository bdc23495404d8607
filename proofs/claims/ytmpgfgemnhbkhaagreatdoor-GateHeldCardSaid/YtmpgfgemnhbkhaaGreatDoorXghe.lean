/- What it tells, whatever it is given (mkheld.py). -/
import Derived.Test.YtmpgfgemnhbkhaaGreatDoorXgher0
import Derived.Test.YtmpgfgemnhbkhaaGreatDoorXgher1
import Derived.Test.YtmpgfgemnhbkhaaGreatDoorXgher2
import Derived.Test.YtmpgfgemnhbkhaaGreatDoorXgher3
set_option maxRecDepth 100000
set_option linter.unusedVariables false
namespace Go.Proofs.YtmpgfgemnhbkhaaGreatDoor
open Go Go.Eng
variable {w : World}
theorem ghe_ret (a : Option Addr) (n c : Nat) (xs : List Int) (hr : RowAt1 w .i64 a n xs) (hnc : n ≤ c) (hmax : c ≤ maxLen) (hx : ∀ x ∈ xs, -9223372036854775808 ≤ x ∧ x ≤ 9223372036854775807) (hb : Begin 3 hG w) : Ret Tryz.prog 7 [.slice a n c] w fun v w' => v = .bool true ∧ Kept none' w w' := by
  have hm : (maxLen : Int) ≤ 9223372036854775807 := by decide
  have hn := hr.1
  match xs, hr, hx, hn with
  | [], hr, hx, hn =>
    have hf : Fits ghe_e.θ [ghe_e.R] [⟨a, n, c, 0⟩] := fits_one hr rfl (by rw [hn]; rfl) (Nat.zero_le _) hnc (by decide) (fun v hv => nomatch hv) rfl
    exact @ret_of_sym (ghe_e.syR _ hf) _ _ _ _ add_ok _ _ (xtabS_ok w hb) hb _ _ [.chan (some 1000)] _ 300 _ (by kernel_rfl) ⟨.inl ⟨rfl, rfl⟩, trivial⟩ (ghe_run_e _ hf) rfl (rowsIn_one hr (Nat.zero_le _) fun i v hv => by cases i <;> cases hv)
  | [x0], hr, hx, hn =>
    have r0 := hx x0 (by simp)
    have h0x0 := Int.emod_nonneg (x0 % 18446744073709551616) (show (3 : Int) ≠ 0 by decide)
    have h1x0 := Int.emod_lt_of_pos (x0 % 18446744073709551616) (show (0 : Int) < 3 by decide)
    rcases (by omega : (x0 % 18446744073709551616) % 3 = 0 ∨ (x0 % 18446744073709551616) % 3 = 1 ∨ (x0 % 18446744073709551616) % 3 = 2) with q0 | q0 | q0
    ·
      have H0 : ghe_o_0.H (fun _ => x0) := ⟨r0, q0⟩
      have hf : Fits (ghe_o_0.θ (fun _ => x0)) [ghe_o_0.R] [⟨a, n, c, 1⟩] := fits_one hr rfl (by rw [hn]; rfl) (by rw [hn]; simp) hnc (by decide) (fun v hv => by simp at hv; rcases hv with rfl <;> rfl) rfl
      exact @ret_of_sym (ghe_o_0.syR (fun _ => x0) H0 _ hf) _ _ _ _ add_ok _ _ (xtabS_ok w hb) hb _ _ [.chan (some 1000)] _ 300 _ (by kernel_rfl) ⟨.inl ⟨rfl, rfl⟩, trivial⟩ (ghe_run_o_0 _ H0 _ hf) rfl (rowsIn_one hr (by rw [hn]; simp) fun i v hv => match i, hv with | 0, hv => (by cases hv; rfl) | i + 1, hv => (by simp at hv))
    ·
      have H0 : ghe_o_1.H (fun _ => x0) := ⟨r0, q0⟩
      have hf : Fits (ghe_o_1.θ (fun _ => x0)) [ghe_o_1.R] [⟨a, n, c, 1⟩] := fits_one hr rfl (by rw [hn]; rfl) (by rw [hn]; simp) hnc (by decide) (fun v hv => by simp at hv; rcases hv with rfl <;> rfl) rfl
      exact @ret_of_sym (ghe_o_1.syR (fun _ => x0) H0 _ hf) _ _ _ _ add_ok _ _ (xtabS_ok w hb) hb _ _ [.chan (some 1000)] _ 300 _ (by kernel_rfl) ⟨.inl ⟨rfl, rfl⟩, trivial⟩ (ghe_run_o_1 _ H0 _ hf) rfl (rowsIn_one hr (by rw [hn]; simp) fun i v hv => match i, hv with | 0, hv => (by cases hv; rfl) | i + 1, hv => (by simp at hv))
    ·
      have H0 : ghe_o_2.H (fun _ => x0) := ⟨r0, q0⟩
      have hf : Fits (ghe_o_2.θ (fun _ => x0)) [ghe_o_2.R] [⟨a, n, c, 1⟩] := fits_one hr rfl (by rw [hn]; rfl) (by rw [hn]; simp) hnc (by decide) (fun v hv => by simp at hv; rcases hv with rfl <;> rfl) rfl
      exact @ret_of_sym (ghe_o_2.syR (fun _ => x0) H0 _ hf) _ _ _ _ add_ok _ _ (xtabS_ok w hb) hb _ _ [.chan (some 1000)] _ 300 _ (by kernel_rfl) ⟨.inl ⟨rfl, rfl⟩, trivial⟩ (ghe_run_o_2 _ H0 _ hf) rfl (rowsIn_one hr (by rw [hn]; simp) fun i v hv => match i, hv with | 0, hv => (by cases hv; rfl) | i + 1, hv => (by simp at hv))
  | [x0, x1], hr, hx, hn =>
    have r0 := hx x0 (by simp)
    have r1 := hx x1 (by simp)
    have h0x0 := Int.emod_nonneg (x0 % 18446744073709551616) (show (3 : Int) ≠ 0 by decide)
    have h1x0 := Int.emod_lt_of_pos (x0 % 18446744073709551616) (show (0 : Int) < 3 by decide)
    have h0x1 := Int.emod_nonneg (x1 % 18446744073709551616) (show (2 : Int) ≠ 0 by decide)
    have h1x1 := Int.emod_lt_of_pos (x1 % 18446744073709551616) (show (0 : Int) < 2 by decide)
    rcases (by omega : (x0 % 18446744073709551616) % 3 = 0 ∨ (x0 % 18446744073709551616) % 3 = 1 ∨ (x0 % 18446744073709551616) % 3 = 2) with q0 | q0 | q0
    · rcases (by omega : (x1 % 18446744073709551616) % 2 = 0 ∨ (x1 % 18446744073709551616) % 2 = 1) with q1 | q1
      ·
        have H0 : ghe_w_0_0.H (fun i => match i with | 0 => x0 | _ => x1) := ⟨r0, r1, q0, q1⟩
        have hf : Fits (ghe_w_0_0.θ (fun i => match i with | 0 => x0 | _ => x1)) [ghe_w_0_0.R] [⟨a, n, c, 2⟩] := fits_one hr rfl (by rw [hn]; rfl) (by rw [hn]; simp) hnc (by decide) (fun v hv => by simp at hv; rcases hv with rfl | rfl <;> rfl) rfl
        exact @ret_of_sym (ghe_w_0_0.syR (fun i => match i with | 0 => x0 | _ => x1) H0 _ hf) _ _ _ _ add_ok _ _ (xtabS_ok w hb) hb _ _ [.chan (some 1000)] _ 300 _ (by kernel_rfl) ⟨.inl ⟨rfl, rfl⟩, trivial⟩ (ghe_run_w_0_0 _ H0 _ hf) rfl (rowsIn_one hr (by rw [hn]; simp) fun i v hv => match i, hv with | 0, hv => (by cases hv; rfl) | 1, hv => (by cases hv; rfl) | i + 2, hv => (by simp at hv))
      ·
        have H0 : ghe_w_0_1.H (fun i => match i with | 0 => x0 | _ => x1) := ⟨r0, r1, q0, q1⟩
        have hf : Fits (ghe_w_0_1.θ (fun i => match i with | 0 => x0 | _ => x1)) [ghe_w_0_1.R] [⟨a, n, c, 2⟩] := fits_one hr rfl (by rw [hn]; rfl) (by rw [hn]; simp) hnc (by decide) (fun v hv => by simp at hv; rcases hv with rfl | rfl <;> rfl) rfl
        exact @ret_of_sym (ghe_w_0_1.syR (fun i => match i with | 0 => x0 | _ => x1) H0 _ hf) _ _ _ _ add_ok _ _ (xtabS_ok w hb) hb _ _ [.chan (some 1000)] _ 300 _ (by kernel_rfl) ⟨.inl ⟨rfl, rfl⟩, trivial⟩ (ghe_run_w_0_1 _ H0 _ hf) rfl (rowsIn_one hr (by rw [hn]; simp) fun i v hv => match i, hv with | 0, hv => (by cases hv; rfl) | 1, hv => (by cases hv; rfl) | i + 2, hv => (by simp at hv))
    · rcases (by omega : (x1 % 18446744073709551616) % 2 = 0 ∨ (x1 % 18446744073709551616) % 2 = 1) with q1 | q1
      ·
        have H0 : ghe_w_1_0.H (fun i => match i with | 0 => x0 | _ => x1) := ⟨r0, r1, q0, q1⟩
        have hf : Fits (ghe_w_1_0.θ (fun i => match i with | 0 => x0 | _ => x1)) [ghe_w_1_0.R] [⟨a, n, c, 2⟩] := fits_one hr rfl (by rw [hn]; rfl) (by rw [hn]; simp) hnc (by decide) (fun v hv => by simp at hv; rcases hv with rfl | rfl <;> rfl) rfl
        exact @ret_of_sym (ghe_w_1_0.syR (fun i => match i with | 0 => x0 | _ => x1) H0 _ hf) _ _ _ _ add_ok _ _ (xtabS_ok w hb) hb _ _ [.chan (some 1000)] _ 300 _ (by kernel_rfl) ⟨.inl ⟨rfl, rfl⟩, trivial⟩ (ghe_run_w_1_0 _ H0 _ hf) rfl (rowsIn_one hr (by rw [hn]; simp) fun i v hv => match i, hv with | 0, hv => (by cases hv; rfl) | 1, hv => (by cases hv; rfl) | i + 2, hv => (by simp at hv))
      ·
        have H0 : ghe_w_1_1.H (fun i => match i with | 0 => x0 | _ => x1) := ⟨r0, r1, q0, q1⟩
        have hf : Fits (ghe_w_1_1.θ (fun i => match i with | 0 => x0 | _ => x1)) [ghe_w_1_1.R] [⟨a, n, c, 2⟩] := fits_one hr rfl (by rw [hn]; rfl) (by rw [hn]; simp) hnc (by decide) (fun v hv => by simp at hv; rcases hv with rfl | rfl <;> rfl) rfl
        exact @ret_of_sym (ghe_w_1_1.syR (fun i => match i with | 0 => x0 | _ => x1) H0 _ hf) _ _ _ _ add_ok _ _ (xtabS_ok w hb) hb _ _ [.chan (some 1000)] _ 300 _ (by kernel_rfl) ⟨.inl ⟨rfl, rfl⟩, trivial⟩ (ghe_run_w_1_1 _ H0 _ hf) rfl (rowsIn_one hr (by rw [hn]; simp) fun i v hv => match i, hv with | 0, hv => (by cases hv; rfl) | 1, hv => (by cases hv; rfl) | i + 2, hv => (by simp at hv))
    · rcases (by omega : (x1 % 18446744073709551616) % 2 = 0 ∨ (x1 % 18446744073709551616) % 2 = 1) with q1 | q1
      ·
        have H0 : ghe_w_2_0.H (fun i => match i with | 0 => x0 | _ => x1) := ⟨r0, r1, q0, q1⟩
        have hf : Fits (ghe_w_2_0.θ (fun i => match i with | 0 => x0 | _ => x1)) [ghe_w_2_0.R] [⟨a, n, c, 2⟩] := fits_one hr rfl (by rw [hn]; rfl) (by rw [hn]; simp) hnc (by decide) (fun v hv => by simp at hv; rcases hv with rfl | rfl <;> rfl) rfl
        exact @ret_of_sym (ghe_w_2_0.syR (fun i => match i with | 0 => x0 | _ => x1) H0 _ hf) _ _ _ _ add_ok _ _ (xtabS_ok w hb) hb _ _ [.chan (some 1000)] _ 300 _ (by kernel_rfl) ⟨.inl ⟨rfl, rfl⟩, trivial⟩ (ghe_run_w_2_0 _ H0 _ hf) rfl (rowsIn_one hr (by rw [hn]; simp) fun i v hv => match i, hv with | 0, hv => (by cases hv; rfl) | 1, hv => (by cases hv; rfl) | i + 2, hv => (by simp at hv))
      ·
        have H0 : ghe_w_2_1.H (fun i => match i with | 0 => x0 | _ => x1) := ⟨r0, r1, q0, q1⟩
        have hf : Fits (ghe_w_2_1.θ (fun i => match i with | 0 => x0 | _ => x1)) [ghe_w_2_1.R] [⟨a, n, c, 2⟩] := fits_one hr rfl (by rw [hn]; rfl) (by rw [hn]; simp) hnc (by decide) (fun v hv => by simp at hv; rcases hv with rfl | rfl <;> rfl) rfl
        exact @ret_of_sym (ghe_w_2_1.syR (fun i => match i with | 0 => x0 | _ => x1) H0 _ hf) _ _ _ _ add_ok _ _ (xtabS_ok w hb) hb _ _ [.chan (some 1000)] _ 300 _ (by kernel_rfl) ⟨.inl ⟨rfl, rfl⟩, trivial⟩ (ghe_run_w_2_1 _ H0 _ hf) rfl (rowsIn_one hr (by rw [hn]; simp) fun i v hv => match i, hv with | 0, hv => (by cases hv; rfl) | 1, hv => (by cases hv; rfl) | i + 2, hv => (by simp at hv))
  | x0 :: x1 :: x2 :: xs, hr, hx, hn =>
    have r0 := hx x0 (by simp)
    have r1 := hx x1 (by simp)
    have r2 := hx x2 (by simp)
    have r3 : (-9223372036854775808 : Int) ≤ (n : Int) ∧ (n : Int) ≤ 9223372036854775807 := by omega
    have r4 : (3 : Int) ≤ (n : Int) := by simp only [List.length_cons] at hn; omega
    have h0x0 := Int.emod_nonneg (x0 % 18446744073709551616) (show (3 : Int) ≠ 0 by decide)
    have h1x0 := Int.emod_lt_of_pos (x0 % 18446744073709551616) (show (0 : Int) < 3 by decide)
    have h0x1 := Int.emod_nonneg (x1 % 18446744073709551616) (show (2 : Int) ≠ 0 by decide)
    have h1x1 := Int.emod_lt_of_pos (x1 % 18446744073709551616) (show (0 : Int) < 2 by decide)
    rcases (by omega : (x0 % 18446744073709551616) % 3 = 0 ∨ (x0 % 18446744073709551616) % 3 = 1 ∨ (x0 % 18446744073709551616) % 3 = 2) with q0 | q0 | q0
    · rcases (by omega : (x1 % 18446744073709551616) % 2 = 0 ∨ (x1 % 18446744073709551616) % 2 = 1) with q1 | q1
      ·
        have H0 : ghe_m_0_0.H (fun i => match i with | 0 => x0 | 1 => x1 | 2 => x2 | _ => (n : Int)) := ⟨r0, r1, r2, r3, q0, q1, r4⟩
        have hf : Fits (ghe_m_0_0.θ (fun i => match i with | 0 => x0 | 1 => x1 | 2 => x2 | _ => (n : Int))) [ghe_m_0_0.R] [⟨a, n, c, 3⟩] := fits_one hr rfl rfl (by rw [hn]; simp) hnc (by decide) (fun v hv => by simp at hv; rcases hv with rfl | rfl | rfl <;> rfl) rfl
        exact @ret_of_sym (ghe_m_0_0.syR (fun i => match i with | 0 => x0 | 1 => x1 | 2 => x2 | _ => (n : Int)) H0 _ hf) _ _ _ _ add_ok _ _ (xtabS_ok w hb) hb _ _ [.chan (some 1000)] _ 300 _ (by kernel_rfl) ⟨.inl ⟨rfl, rfl⟩, trivial⟩ (ghe_run_m_0_0 _ H0 _ hf) rfl (rowsIn_one hr (by rw [hn]; simp) fun i v hv => match i, hv with | 0, hv => (by cases hv; rfl) | 1, hv => (by cases hv; rfl) | 2, hv => (by cases hv; rfl) | i + 3, hv => (by simp at hv))
      ·
        have H0 : ghe_m_0_1.H (fun i => match i with | 0 => x0 | 1 => x1 | 2 => x2 | _ => (n : Int)) := ⟨r0, r1, r2, r3, q0, q1, r4⟩
        have hf : Fits (ghe_m_0_1.θ (fun i => match i with | 0 => x0 | 1 => x1 | 2 => x2 | _ => (n : Int))) [ghe_m_0_1.R] [⟨a, n, c, 3⟩] := fits_one hr rfl rfl (by rw [hn]; simp) hnc (by decide) (fun v hv => by simp at hv; rcases hv with rfl | rfl | rfl <;> rfl) rfl
        exact @ret_of_sym (ghe_m_0_1.syR (fun i => match i with | 0 => x0 | 1 => x1 | 2 => x2 | _ => (n : Int)) H0 _ hf) _ _ _ _ add_ok _ _ (xtabS_ok w hb) hb _ _ [.chan (some 1000)] _ 300 _ (by kernel_rfl) ⟨.inl ⟨rfl, rfl⟩, trivial⟩ (ghe_run_m_0_1 _ H0 _ hf) rfl (rowsIn_one hr (by rw [hn]; simp) fun i v hv => match i, hv with | 0, hv => (by cases hv; rfl) | 1, hv => (by cases hv; rfl) | 2, hv => (by cases hv; rfl) | i + 3, hv => (by simp at hv))
    · rcases (by omega : (x1 % 18446744073709551616) % 2 = 0 ∨ (x1 % 18446744073709551616) % 2 = 1) with q1 | q1
      ·
        have H0 : ghe_m_1_0.H (fun i => match i with | 0 => x0 | 1 => x1 | 2 => x2 | _ => (n : Int)) := ⟨r0, r1, r2, r3, q0, q1, r4⟩
        have hf : Fits (ghe_m_1_0.θ (fun i => match i with | 0 => x0 | 1 => x1 | 2 => x2 | _ => (n : Int))) [ghe_m_1_0.R] [⟨a, n, c, 3⟩] := fits_one hr rfl rfl (by rw [hn]; simp) hnc (by decide) (fun v hv => by simp at hv; rcases hv with rfl | rfl | rfl <;> rfl) rfl
        exact @ret_of_sym (ghe_m_1_0.syR (fun i => match i with | 0 => x0 | 1 => x1 | 2 => x2 | _ => (n : Int)) H0 _ hf) _ _ _ _ add_ok _ _ (xtabS_ok w hb) hb _ _ [.chan (some 1000)] _ 300 _ (by kernel_rfl) ⟨.inl ⟨rfl, rfl⟩, trivial⟩ (ghe_run_m_1_0 _ H0 _ hf) rfl (rowsIn_one hr (by rw [hn]; simp) fun i v hv => match i, hv with | 0, hv => (by cases hv; rfl) | 1, hv => (by cases hv; rfl) | 2, hv => (by cases hv; rfl) | i + 3, hv => (by simp at hv))
      ·
        have H0 : ghe_m_1_1.H (fun i => match i with | 0 => x0 | 1 => x1 | 2 => x2 | _ => (n : Int)) := ⟨r0, r1, r2, r3, q0, q1, r4⟩
        have hf : Fits (ghe_m_1_1.θ (fun i => match i with | 0 => x0 | 1 => x1 | 2 => x2 | _ => (n : Int))) [ghe_m_1_1.R] [⟨a, n, c, 3⟩] := fits_one hr rfl rfl (by rw [hn]; simp) hnc (by decide) (fun v hv => by simp at hv; rcases hv with rfl | rfl | rfl <;> rfl) rfl
        exact @ret_of_sym (ghe_m_1_1.syR (fun i => match i with | 0 => x0 | 1 => x1 | 2 => x2 | _ => (n : Int)) H0 _ hf) _ _ _ _ add_ok _ _ (xtabS_ok w hb) hb _ _ [.chan (some 1000)] _ 300 _ (by kernel_rfl) ⟨.inl ⟨rfl, rfl⟩, trivial⟩ (ghe_run_m_1_1 _ H0 _ hf) rfl (rowsIn_one hr (by rw [hn]; simp) fun i v hv => match i, hv with | 0, hv => (by cases hv; rfl) | 1, hv => (by cases hv; rfl) | 2, hv => (by cases hv; rfl) | i + 3, hv => (by simp at hv))
    · rcases (by omega : (x1 % 18446744073709551616) % 2 = 0 ∨ (x1 % 18446744073709551616) % 2 = 1) with q1 | q1
      ·
        have H0 : ghe_m_2_0.H (fun i => match i with | 0 => x0 | 1 => x1 | 2 => x2 | _ => (n : Int)) := ⟨r0, r1, r2, r3, q0, q1, r4⟩
        have hf : Fits (ghe_m_2_0.θ (fun i => match i with | 0 => x0 | 1 => x1 | 2 => x2 | _ => (n : Int))) [ghe_m_2_0.R] [⟨a, n, c, 3⟩] := fits_one hr rfl rfl (by rw [hn]; simp) hnc (by decide) (fun v hv => by simp at hv; rcases hv with rfl | rfl | rfl <;> rfl) rfl
        exact @ret_of_sym (ghe_m_2_0.syR (fun i => match i with | 0 => x0 | 1 => x1 | 2 => x2 | _ => (n : Int)) H0 _ hf) _ _ _ _ add_ok _ _ (xtabS_ok w hb) hb _ _ [.chan (some 1000)] _ 300 _ (by kernel_rfl) ⟨.inl ⟨rfl, rfl⟩, trivial⟩ (ghe_run_m_2_0 _ H0 _ hf) rfl (rowsIn_one hr (by rw [hn]; simp) fun i v hv => match i, hv with | 0, hv => (by cases hv; rfl) | 1, hv => (by cases hv; rfl) | 2, hv => (by cases hv; rfl) | i + 3, hv => (by simp at hv))
      ·
        have H0 : ghe_m_2_1.H (fun i => match i with | 0 => x0 | 1 => x1 | 2 => x2 | _ => (n : Int)) := ⟨r0, r1, r2, r3, q0, q1, r4⟩
        have hf : Fits (ghe_m_2_1.θ (fun i => match i with | 0 => x0 | 1 => x1 | 2 => x2 | _ => (n : Int))) [ghe_m_2_1.R] [⟨a, n, c, 3⟩] := fits_one hr rfl rfl (by rw [hn]; simp) hnc (by decide) (fun v hv => by simp at hv; rcases hv with rfl | rfl | rfl <;> rfl) rfl
        exact @ret_of_sym (ghe_m_2_1.syR (fun i => match i with | 0 => x0 | 1 => x1 | 2 => x2 | _ => (n : Int)) H0 _ hf) _ _ _ _ add_ok _ _ (xtabS_ok w hb) hb _ _ [.chan (some 1000)] _ 300 _ (by kernel_rfl) ⟨.inl ⟨rfl, rfl⟩, trivial⟩ (ghe_run_m_2_1 _ H0 _ hf) rfl (rowsIn_one hr (by rw [hn]; simp) fun i v hv => match i, hv with | 0, hv => (by cases hv; rfl) | 1, hv => (by cases hv; rfl) | 2, hv => (by cases hv; rfl) | i + 3, hv => (by simp at hv))
end Go.Proofs.YtmpgfgemnhbkhaaGreatDoor
