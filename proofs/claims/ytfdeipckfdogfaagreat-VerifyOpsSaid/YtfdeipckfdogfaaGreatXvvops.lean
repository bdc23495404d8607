/- tipstaff/tipstafflaw18.VerifyOps: what it tells, whatever it is given (mkx.py). -/
import Derived.Test.YtfdeipckfdogfaaGreatXvvops0
import Derived.Test.YtfdeipckfdogfaaGreatXvvops1
import Derived.Test.YtfdeipckfdogfaaGreatXvvops2
import Derived.Test.YtfdeipckfdogfaaGreatXvvops3
import Derived.Test.YtfdeipckfdogfaaGreatXvvops4
import Derived.Test.YtfdeipckfdogfaaGreatXvvops5
import Derived.Test.YtfdeipckfdogfaaGreatXvvops6
import Derived.Test.YtfdeipckfdogfaaGreatXvvops7
set_option maxRecDepth 100000
set_option linter.unusedVariables false
namespace Go.Proofs.YtfdeipckfdogfaaGreat
open Go.Eng
theorem vops_key : ∀ (r0 : Nat) (r1 : Nat) (r2 : Bool), r0 < 12 → r1 < 4 → tells (.bool true) (xrun xtabS 300 43 (xf11.c.subs (vops_q r0 r1 r2)) xf11.rs .nil 0) = true := by
  intro r0 r1 r2 hr0 hr1
  match r0, hr0 with
  | 0, _ =>
    match r1, hr1 with
    | 0, _ =>
      cases r2 with
      | true =>
        exact vops_0_0_true
      | false =>
        exact vops_0_0_false
    | 1, _ =>
      cases r2 with
      | true =>
        exact vops_0_1_true
      | false =>
        exact vops_0_1_false
    | 2, _ =>
      cases r2 with
      | true =>
        exact vops_0_2_true
      | false =>
        exact vops_0_2_false
    | 3, _ =>
      cases r2 with
      | true =>
        exact vops_0_3_true
      | false =>
        exact vops_0_3_false
    | k + 4, h => exact absurd h (by omega)
  | 1, _ =>
    match r1, hr1 with
    | 0, _ =>
      cases r2 with
      | true =>
        exact vops_1_0_true
      | false =>
        exact vops_1_0_false
    | 1, _ =>
      cases r2 with
      | true =>
        exact vops_1_1_true
      | false =>
        exact vops_1_1_false
    | 2, _ =>
      cases r2 with
      | true =>
        exact vops_1_2_true
      | false =>
        exact vops_1_2_false
    | 3, _ =>
      cases r2 with
      | true =>
        exact vops_1_3_true
      | false =>
        exact vops_1_3_false
    | k + 4, h => exact absurd h (by omega)
  | 2, _ =>
    match r1, hr1 with
    | 0, _ =>
      cases r2 with
      | true =>
        exact vops_2_0_true
      | false =>
        exact vops_2_0_false
    | 1, _ =>
      cases r2 with
      | true =>
        exact vops_2_1_true
      | false =>
        exact vops_2_1_false
    | 2, _ =>
      cases r2 with
      | true =>
        exact vops_2_2_true
      | false =>
        exact vops_2_2_false
    | 3, _ =>
      cases r2 with
      | true =>
        exact vops_2_3_true
      | false =>
        exact vops_2_3_false
    | k + 4, h => exact absurd h (by omega)
  | 3, _ =>
    match r1, hr1 with
    | 0, _ =>
      cases r2 with
      | true =>
        exact vops_3_0_true
      | false =>
        exact vops_3_0_false
    | 1, _ =>
      cases r2 with
      | true =>
        exact vops_3_1_true
      | false =>
        exact vops_3_1_false
    | 2, _ =>
      cases r2 with
      | true =>
        exact vops_3_2_true
      | false =>
        exact vops_3_2_false
    | 3, _ =>
      cases r2 with
      | true =>
        exact vops_3_3_true
      | false =>
        exact vops_3_3_false
    | k + 4, h => exact absurd h (by omega)
  | 4, _ =>
    match r1, hr1 with
    | 0, _ =>
      cases r2 with
      | true =>
        exact vops_4_0_true
      | false =>
        exact vops_4_0_false
    | 1, _ =>
      cases r2 with
      | true =>
        exact vops_4_1_true
      | false =>
        exact vops_4_1_false
    | 2, _ =>
      cases r2 with
      | true =>
        exact vops_4_2_true
      | false =>
        exact vops_4_2_false
    | 3, _ =>
      cases r2 with
      | true =>
        exact vops_4_3_true
      | false =>
        exact vops_4_3_false
    | k + 4, h => exact absurd h (by omega)
  | 5, _ =>
    match r1, hr1 with
    | 0, _ =>
      cases r2 with
      | true =>
        exact vops_5_0_true
      | false =>
        exact vops_5_0_false
    | 1, _ =>
      cases r2 with
      | true =>
        exact vops_5_1_true
      | false =>
        exact vops_5_1_false
    | 2, _ =>
      cases r2 with
      | true =>
        exact vops_5_2_true
      | false =>
        exact vops_5_2_false
    | 3, _ =>
      cases r2 with
      | true =>
        exact vops_5_3_true
      | false =>
        exact vops_5_3_false
    | k + 4, h => exact absurd h (by omega)
  | 6, _ =>
    match r1, hr1 with
    | 0, _ =>
      cases r2 with
      | true =>
        exact vops_6_0_true
      | false =>
        exact vops_6_0_false
    | 1, _ =>
      cases r2 with
      | true =>
        exact vops_6_1_true
      | false =>
        exact vops_6_1_false
    | 2, _ =>
      cases r2 with
      | true =>
        exact vops_6_2_true
      | false =>
        exact vops_6_2_false
    | 3, _ =>
      cases r2 with
      | true =>
        exact vops_6_3_true
      | false =>
        exact vops_6_3_false
    | k + 4, h => exact absurd h (by omega)
  | 7, _ =>
    match r1, hr1 with
    | 0, _ =>
      cases r2 with
      | true =>
        exact vops_7_0_true
      | false =>
        exact vops_7_0_false
    | 1, _ =>
      cases r2 with
      | true =>
        exact vops_7_1_true
      | false =>
        exact vops_7_1_false
    | 2, _ =>
      cases r2 with
      | true =>
        exact vops_7_2_true
      | false =>
        exact vops_7_2_false
    | 3, _ =>
      cases r2 with
      | true =>
        exact vops_7_3_true
      | false =>
        exact vops_7_3_false
    | k + 4, h => exact absurd h (by omega)
  | 8, _ =>
    match r1, hr1 with
    | 0, _ =>
      cases r2 with
      | true =>
        exact vops_8_0_true
      | false =>
        exact vops_8_0_false
    | 1, _ =>
      cases r2 with
      | true =>
        exact vops_8_1_true
      | false =>
        exact vops_8_1_false
    | 2, _ =>
      cases r2 with
      | true =>
        exact vops_8_2_true
      | false =>
        exact vops_8_2_false
    | 3, _ =>
      cases r2 with
      | true =>
        exact vops_8_3_true
      | false =>
        exact vops_8_3_false
    | k + 4, h => exact absurd h (by omega)
  | 9, _ =>
    match r1, hr1 with
    | 0, _ =>
      cases r2 with
      | true =>
        exact vops_9_0_true
      | false =>
        exact vops_9_0_false
    | 1, _ =>
      cases r2 with
      | true =>
        exact vops_9_1_true
      | false =>
        exact vops_9_1_false
    | 2, _ =>
      cases r2 with
      | true =>
        exact vops_9_2_true
      | false =>
        exact vops_9_2_false
    | 3, _ =>
      cases r2 with
      | true =>
        exact vops_9_3_true
      | false =>
        exact vops_9_3_false
    | k + 4, h => exact absurd h (by omega)
  | 10, _ =>
    match r1, hr1 with
    | 0, _ =>
      cases r2 with
      | true =>
        exact vops_10_0_true
      | false =>
        exact vops_10_0_false
    | 1, _ =>
      cases r2 with
      | true =>
        exact vops_10_1_true
      | false =>
        exact vops_10_1_false
    | 2, _ =>
      cases r2 with
      | true =>
        exact vops_10_2_true
      | false =>
        exact vops_10_2_false
    | 3, _ =>
      cases r2 with
      | true =>
        exact vops_10_3_true
      | false =>
        exact vops_10_3_false
    | k + 4, h => exact absurd h (by omega)
  | 11, _ =>
    match r1, hr1 with
    | 0, _ =>
      cases r2 with
      | true =>
        exact vops_11_0_true
      | false =>
        exact vops_11_0_false
    | 1, _ =>
      cases r2 with
      | true =>
        exact vops_11_1_true
      | false =>
        exact vops_11_1_false
    | 2, _ =>
      cases r2 with
      | true =>
        exact vops_11_2_true
      | false =>
        exact vops_11_2_false
    | 3, _ =>
      cases r2 with
      | true =>
        exact vops_11_3_true
      | false =>
        exact vops_11_3_false
    | k + 4, h => exact absurd h (by omega)
  | k + 12, h => exact absurd h (by omega)
theorem vops_tox (r0 : Nat) (r1 : Nat) (r2 : Bool) : toX Tryz.prog 0 125 (cm11.subs (vops_q r0 r1 r2)) = some (xf11.c.subs (vops_q r0 r1 r2)) := by kernel_rfl
theorem vops_ret (x0 : Int) (x1 : Int) (x2 : Bool) (w : World) : Ret Tryz.prog 11 [.int .i64 x0, .int .i64 x1, .bool x2] w fun v w' => v = .bool true ∧ Kept none' w w' := by
  refine ret_of_sub add_ok (xtabS_ok w) (begin0 w) (V := [0, 1, 2, 6, 22, 7, 8, 31, 33, 35, 38, 39, 9, 46, 48, 55, 56, 10, 57, 59, 65, 66, 11, 67, 12, 70, 71, 72, 73, 13, 14, 78, 79, 80, 81, 15, 16, 17, 18, 19, 20, 21, 119]) (ks := []) (n := 300) (l := [(0, .int .i64 x0), (1, .int .i64 x1), (2, .bool x2)]) (q := (vops_q (res64 x0 12) (res64 x1 4) x2)) Tryz.func11 (Nat.le_of_ble_eq_true (by kernel_rfl)) cmp_11 (by kernel_rfl) (by kernel_rfl) ?_ ?_ (vops_tox _ _ _) (vops_key _ _ _ (res64_lt x0 (m := 12) (by decide)) (res64_lt x1 (m := 4) (by decide))) rfl
  · intro p hp
    simp only [List.mem_cons, List.not_mem_nil, or_false] at hp
    rcases hp with rfl | rfl | rfl <;> rfl
  · intro env hl p hp w
    simp only [vops_q, List.mem_cons, List.not_mem_nil, or_false] at hp
    rcases hp with rfl | rfl | rfl
    · exact ev_pMod (m := 12) (hl (0, .int .i64 x0) (by simp)) (by decide) (by decide) w
    · exact ev_pMod (m := 4) (hl (1, .int .i64 x1) (by simp)) (by decide) (by decide) w
    · exact ev_var (hl (2, .bool x2) (by simp)) rfl w
end Go.Proofs.YtfdeipckfdogfaaGreat
