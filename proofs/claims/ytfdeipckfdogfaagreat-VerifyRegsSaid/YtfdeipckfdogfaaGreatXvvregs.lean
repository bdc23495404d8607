/- tipstaff/tipstafflaw18.VerifyRegs: what it tells, whatever it is given (mkx.py). -/
import Derived.Test.YtfdeipckfdogfaaGreatXvvregs0
import Derived.Test.YtfdeipckfdogfaaGreatXvvregs1
import Derived.Test.YtfdeipckfdogfaaGreatXvvregs2
set_option maxRecDepth 100000
set_option linter.unusedVariables false
namespace Go.Proofs.YtfdeipckfdogfaaGreat
open Go.Eng
theorem vregs_key : ∀ (r0 : Nat) (r1 : Bool), r0 < 11 → tells (.bool true) (xrun xtabS 300 19 (xf7.c.subs (vregs_q r0 r1)) xf7.rs .nil 0) = true := by
  intro r0 r1 hr0
  match r0, hr0 with
  | 0, _ =>
    cases r1 with
    | true =>
      exact vregs_0_true
    | false =>
      exact vregs_0_false
  | 1, _ =>
    cases r1 with
    | true =>
      exact vregs_1_true
    | false =>
      exact vregs_1_false
  | 2, _ =>
    cases r1 with
    | true =>
      exact vregs_2_true
    | false =>
      exact vregs_2_false
  | 3, _ =>
    cases r1 with
    | true =>
      exact vregs_3_true
    | false =>
      exact vregs_3_false
  | 4, _ =>
    cases r1 with
    | true =>
      exact vregs_4_true
    | false =>
      exact vregs_4_false
  | 5, _ =>
    cases r1 with
    | true =>
      exact vregs_5_true
    | false =>
      exact vregs_5_false
  | 6, _ =>
    cases r1 with
    | true =>
      exact vregs_6_true
    | false =>
      exact vregs_6_false
  | 7, _ =>
    cases r1 with
    | true =>
      exact vregs_7_true
    | false =>
      exact vregs_7_false
  | 8, _ =>
    cases r1 with
    | true =>
      exact vregs_8_true
    | false =>
      exact vregs_8_false
  | 9, _ =>
    cases r1 with
    | true =>
      exact vregs_9_true
    | false =>
      exact vregs_9_false
  | 10, _ =>
    cases r1 with
    | true =>
      exact vregs_10_true
    | false =>
      exact vregs_10_false
  | k + 11, h => exact absurd h (by omega)
theorem vregs_tox (r0 : Nat) (r1 : Bool) : toX Tryz.prog 0 125 (cm7.subs (vregs_q r0 r1)) = some (xf7.c.subs (vregs_q r0 r1)) := by kernel_rfl
theorem vregs_ret (x0 : Int) (h0 : 0 ≤ x0) (x1 : Bool) (w : World) : Ret Tryz.prog 7 [.int .u8 x0, .bool x1] w fun v w' => v = .bool true ∧ Kept none' w w' := by
  refine ret_of_sub add_ok (xtabS_ok w) (begin0 w) (V := [0, 1, 4, 5, 6, 7, 21, 22, 25, 26, 30, 31, 33, 34, 38, 8, 9, 10, 58]) (ks := [[0, 1, 3, 4, 5]]) (n := 300) (l := [(0, .int .u8 x0), (1, .bool x1)]) (q := (vregs_q ((x0 % 11).toNat) x1)) Tryz.func7 (Nat.le_of_ble_eq_true (by kernel_rfl)) cmp_7 (by kernel_rfl) (by kernel_rfl) ?_ ?_ (vregs_tox _ _) (vregs_key _ _ (by omega)) rfl
  · intro p hp
    simp only [List.mem_cons, List.not_mem_nil, or_false] at hp
    rcases hp with rfl | rfl <;> rfl
  · intro env hl p hp w
    simp only [vregs_q, List.mem_cons, List.not_mem_nil, or_false] at hp
    rcases hp with rfl | rfl
    · exact ev_pMod8 (m := 11) (hl (0, .int .u8 x0) (by simp)) h0 (by decide) w
    · exact ev_var (hl (1, .bool x1) (by simp)) rfl w
end Go.Proofs.YtfdeipckfdogfaaGreat
