/- tipstaff/tipstafflaw18.VerifyNull: what it tells, whatever it is given (mkx.py). -/
import Derived.Test.YtfdeipckfdogfaaGreatXvvnull0
import Derived.Test.YtfdeipckfdogfaaGreatXvvnull1
import Derived.Test.YtfdeipckfdogfaaGreatXvvnull2
set_option maxRecDepth 100000
set_option linter.unusedVariables false
namespace Go.Proofs.YtfdeipckfdogfaaGreat
open Go.Eng
theorem vnull_key : ∀ (r0 : Nat) (r1 : Bool) (r2 : Bool), r0 < 3 → tells (.bool true) (xrun xtabS 300 29 (xf6.c.subs (vnull_q r0 r1 r2)) xf6.rs .nil 0) = true := by
  intro r0 r1 r2 hr0
  match r0, hr0 with
  | 0, _ =>
    cases r1 with
    | true =>
      cases r2 with
      | true =>
        exact vnull_0_true_true
      | false =>
        exact vnull_0_true_false
    | false =>
      cases r2 with
      | true =>
        exact vnull_0_false_true
      | false =>
        exact vnull_0_false_false
  | 1, _ =>
    cases r1 with
    | true =>
      cases r2 with
      | true =>
        exact vnull_1_true_true
      | false =>
        exact vnull_1_true_false
    | false =>
      cases r2 with
      | true =>
        exact vnull_1_false_true
      | false =>
        exact vnull_1_false_false
  | 2, _ =>
    cases r1 with
    | true =>
      cases r2 with
      | true =>
        exact vnull_2_true_true
      | false =>
        exact vnull_2_true_false
    | false =>
      cases r2 with
      | true =>
        exact vnull_2_false_true
      | false =>
        exact vnull_2_false_false
  | k + 3, h => exact absurd h (by omega)
theorem vnull_tox (r0 : Nat) (r1 : Bool) (r2 : Bool) : toX Tryz.prog 0 125 (cm6.subs (vnull_q r0 r1 r2)) = some (xf6.c.subs (vnull_q r0 r1 r2)) := by kernel_rfl
theorem vnull_ret (x0 : Int) (x1 : Bool) (x2 : Bool) (w : World) : Ret Tryz.prog 6 [.int .i64 x0, .bool x1, .bool x2] w fun v w' => v = .bool true ∧ Kept none' w w' := by
  refine ret_of_sub add_ok (xtabS_ok w) (begin0 w) (V := [0, 1, 2, 6, 15, 7, 19, 20, 23, 24, 8, 9, 32, 33, 37, 38, 10, 43, 11, 12, 55, 56, 57, 58, 61, 62, 13, 14, 65]) (ks := []) (n := 300) (l := [(0, .int .i64 x0), (1, .bool x1), (2, .bool x2)]) (q := (vnull_q (res64 x0 3) x1 x2)) Tryz.func6 (Nat.le_of_ble_eq_true (by kernel_rfl)) cmp_6 (by kernel_rfl) (by kernel_rfl) ?_ ?_ (vnull_tox _ _ _) (vnull_key _ _ _ (res64_lt x0 (m := 3) (by decide))) rfl
  · intro p hp
    simp only [List.mem_cons, List.not_mem_nil, or_false] at hp
    rcases hp with rfl | rfl | rfl <;> rfl
  · intro env hl p hp w
    simp only [vnull_q, List.mem_cons, List.not_mem_nil, or_false] at hp
    rcases hp with rfl | rfl | rfl
    · exact ev_pMod (m := 3) (hl (0, .int .i64 x0) (by simp)) (by decide) (by decide) w
    · exact ev_var (hl (1, .bool x1) (by simp)) rfl w
    · exact ev_var (hl (2, .bool x2) (by simp)) rfl w
end Go.Proofs.YtfdeipckfdogfaaGreat
