/- tipstaff/tipstafflaw18.VerifyHelpers: what it tells, whatever it is given (mkx.py). -/
import Derived.Test.YtfdeipckfdogfaaGreatXvvhelp0
import Derived.Test.YtfdeipckfdogfaaGreatXvvhelp1
import Derived.Test.YtfdeipckfdogfaaGreatXvvhelp2
import Derived.Test.YtfdeipckfdogfaaGreatXvvhelp3
import Derived.Test.YtfdeipckfdogfaaGreatXvvhelp4
import Derived.Test.YtfdeipckfdogfaaGreatXvvhelp5
set_option maxRecDepth 100000
set_option linter.unusedVariables false
namespace Go.Proofs.YtfdeipckfdogfaaGreat
open Go.Eng
theorem vhelp_key : ∀ (r0 : Nat) (r1 : Nat) (r2 : Bool), r0 < 6 → r1 < 6 → tells (.bool true) (xrun xtabS 300 32 (xf8.c.subs (vhelp_q r0 r1 r2)) xf8.rs .nil 0) = true := by
  intro r0 r1 r2 hr0 hr1
  match r0, hr0 with
  | 0, _ =>
    match r1, hr1 with
    | 0, _ =>
      cases r2 with
      | true =>
        exact vhelp_0_0_true
      | false =>
        exact vhelp_0_0_false
    | 1, _ =>
      cases r2 with
      | true =>
        exact vhelp_0_1_true
      | false =>
        exact vhelp_0_1_false
    | 2, _ =>
      cases r2 with
      | true =>
        exact vhelp_0_2_true
      | false =>
        exact vhelp_0_2_false
    | 3, _ =>
      cases r2 with
      | true =>
        exact vhelp_0_3_true
      | false =>
        exact vhelp_0_3_false
    | 4, _ =>
      cases r2 with
      | true =>
        exact vhelp_0_4_true
      | false =>
        exact vhelp_0_4_false
    | 5, _ =>
      cases r2 with
      | true =>
        exact vhelp_0_5_true
      | false =>
        exact vhelp_0_5_false
    | k + 6, h => exact absurd h (by omega)
  | 1, _ =>
    match r1, hr1 with
    | 0, _ =>
      cases r2 with
      | true =>
        exact vhelp_1_0_true
      | false =>
        exact vhelp_1_0_false
    | 1, _ =>
      cases r2 with
      | true =>
        exact vhelp_1_1_true
      | false =>
        exact vhelp_1_1_false
    | 2, _ =>
      cases r2 with
      | true =>
        exact vhelp_1_2_true
      | false =>
        exact vhelp_1_2_false
    | 3, _ =>
      cases r2 with
      | true =>
        exact vhelp_1_3_true
      | false =>
        exact vhelp_1_3_false
    | 4, _ =>
      cases r2 with
      | true =>
        exact vhelp_1_4_true
      | false =>
        exact vhelp_1_4_false
    | 5, _ =>
      cases r2 with
      | true =>
        exact vhelp_1_5_true
      | false =>
        exact vhelp_1_5_false
    | k + 6, h => exact absurd h (by omega)
  | 2, _ =>
    match r1, hr1 with
    | 0, _ =>
      cases r2 with
      | true =>
        exact vhelp_2_0_true
      | false =>
        exact vhelp_2_0_false
    | 1, _ =>
      cases r2 with
      | true =>
        exact vhelp_2_1_true
      | false =>
        exact vhelp_2_1_false
    | 2, _ =>
      cases r2 with
      | true =>
        exact vhelp_2_2_true
      | false =>
        exact vhelp_2_2_false
    | 3, _ =>
      cases r2 with
      | true =>
        exact vhelp_2_3_true
      | false =>
        exact vhelp_2_3_false
    | 4, _ =>
      cases r2 with
      | true =>
        exact vhelp_2_4_true
      | false =>
        exact vhelp_2_4_false
    | 5, _ =>
      cases r2 with
      | true =>
        exact vhelp_2_5_true
      | false =>
        exact vhelp_2_5_false
    | k + 6, h => exact absurd h (by omega)
  | 3, _ =>
    match r1, hr1 with
    | 0, _ =>
      cases r2 with
      | true =>
        exact vhelp_3_0_true
      | false =>
        exact vhelp_3_0_false
    | 1, _ =>
      cases r2 with
      | true =>
        exact vhelp_3_1_true
      | false =>
        exact vhelp_3_1_false
    | 2, _ =>
      cases r2 with
      | true =>
        exact vhelp_3_2_true
      | false =>
        exact vhelp_3_2_false
    | 3, _ =>
      cases r2 with
      | true =>
        exact vhelp_3_3_true
      | false =>
        exact vhelp_3_3_false
    | 4, _ =>
      cases r2 with
      | true =>
        exact vhelp_3_4_true
      | false =>
        exact vhelp_3_4_false
    | 5, _ =>
      cases r2 with
      | true =>
        exact vhelp_3_5_true
      | false =>
        exact vhelp_3_5_false
    | k + 6, h => exact absurd h (by omega)
  | 4, _ =>
    match r1, hr1 with
    | 0, _ =>
      cases r2 with
      | true =>
        exact vhelp_4_0_true
      | false =>
        exact vhelp_4_0_false
    | 1, _ =>
      cases r2 with
      | true =>
        exact vhelp_4_1_true
      | false =>
        exact vhelp_4_1_false
    | 2, _ =>
      cases r2 with
      | true =>
        exact vhelp_4_2_true
      | false =>
        exact vhelp_4_2_false
    | 3, _ =>
      cases r2 with
      | true =>
        exact vhelp_4_3_true
      | false =>
        exact vhelp_4_3_false
    | 4, _ =>
      cases r2 with
      | true =>
        exact vhelp_4_4_true
      | false =>
        exact vhelp_4_4_false
    | 5, _ =>
      cases r2 with
      | true =>
        exact vhelp_4_5_true
      | false =>
        exact vhelp_4_5_false
    | k + 6, h => exact absurd h (by omega)
  | 5, _ =>
    match r1, hr1 with
    | 0, _ =>
      cases r2 with
      | true =>
        exact vhelp_5_0_true
      | false =>
        exact vhelp_5_0_false
    | 1, _ =>
      cases r2 with
      | true =>
        exact vhelp_5_1_true
      | false =>
        exact vhelp_5_1_false
    | 2, _ =>
      cases r2 with
      | true =>
        exact vhelp_5_2_true
      | false =>
        exact vhelp_5_2_false
    | 3, _ =>
      cases r2 with
      | true =>
        exact vhelp_5_3_true
      | false =>
        exact vhelp_5_3_false
    | 4, _ =>
      cases r2 with
      | true =>
        exact vhelp_5_4_true
      | false =>
        exact vhelp_5_4_false
    | 5, _ =>
      cases r2 with
      | true =>
        exact vhelp_5_5_true
      | false =>
        exact vhelp_5_5_false
    | k + 6, h => exact absurd h (by omega)
  | k + 6, h => exact absurd h (by omega)
theorem vhelp_tox (r0 : Nat) (r1 : Nat) (r2 : Bool) : toX Tryz.prog 0 125 (cm8.subs (vhelp_q r0 r1 r2)) = some (xf8.c.subs (vhelp_q r0 r1 r2)) := by kernel_rfl
theorem vhelp_ret (x0 : Int) (x1 : Int) (x2 : Bool) (w : World) : Ret Tryz.prog 8 [.int .i64 x0, .int .i64 x1, .bool x2] w fun v w' => v = .bool true ∧ Kept none' w w' := by
  refine ret_of_sub add_ok (xtabS_ok w) (begin0 w) (V := [0, 1, 2, 6, 15, 7, 8, 27, 9, 31, 39, 10, 44, 45, 49, 50, 51, 52, 56, 58, 60, 11, 12, 13, 14, 69, 70, 74, 82, 94, 102, 105]) (ks := []) (n := 300) (l := [(0, .int .i64 x0), (1, .int .i64 x1), (2, .bool x2)]) (q := (vhelp_q (res64 x0 6) (res64 x1 6) x2)) Tryz.func8 (Nat.le_of_ble_eq_true (by kernel_rfl)) cmp_8 (by kernel_rfl) (by kernel_rfl) ?_ ?_ (vhelp_tox _ _ _) (vhelp_key _ _ _ (res64_lt x0 (m := 6) (by decide)) (res64_lt x1 (m := 6) (by decide))) rfl
  · intro p hp
    simp only [List.mem_cons, List.not_mem_nil, or_false] at hp
    rcases hp with rfl | rfl | rfl <;> rfl
  · intro env hl p hp w
    simp only [vhelp_q, List.mem_cons, List.not_mem_nil, or_false] at hp
    rcases hp with rfl | rfl | rfl
    · exact ev_pMod (m := 6) (hl (0, .int .i64 x0) (by simp)) (by decide) (by decide) w
    · exact ev_pMod (m := 6) (hl (1, .int .i64 x1) (by simp)) (by decide) (by decide) w
    · exact ev_var (hl (2, .bool x2) (by simp)) rfl w
end Go.Proofs.YtfdeipckfdogfaaGreat
