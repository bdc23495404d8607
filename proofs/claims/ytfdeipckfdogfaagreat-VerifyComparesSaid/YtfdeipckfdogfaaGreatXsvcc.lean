/- VerifyCompares: symbols (mkvcomp.py). -/
import Derived.Test.YtfdeipckfdogfaaGreatEngXV
import Derived.Test.YtfdeipckfdogfaaGreatEngXN
import Derived.Test.YtfdeipckfdogfaaGreatXtab
set_option maxRecDepth 100000
set_option linter.unusedVariables false
namespace Go.Proofs.YtfdeipckfdogfaaGreat
open Go Go.Eng
def vc_neg_t0 (n : Int) : Int := n
def vc_neg_t1 (n : Int) : Int := (IntKind.i64.wrap (vc_neg_t0 n))
def vc_neg_t2 (n : Int) : Int := (IntKind.u64.wrap (vc_neg_t1 n))
def vc_neg_t3 (n : Int) : Int := (IntKind.u32.wrap (vc_neg_t2 n))
def vc_neg_t4 (n : Int) : Int := (IntKind.u64.wrap (vc_neg_t3 n))
def vc_neg_θ (n : Int) : Nat → Value := fun j => match j with
  | 0 => .int .i32 (vc_neg_t0 n)
  | 1 => .int .i64 (vc_neg_t1 n)
  | 2 => .int .u64 (vc_neg_t2 n)
  | 3 => .int .u32 (vc_neg_t3 n)
  | 4 => .int .u64 (vc_neg_t4 n)
  | _ => .bool false
theorem vc_neg_plain (n : Int) : ∀ j, plainV (vc_neg_θ n j) = true := by intro j; unfold vc_neg_θ; split <;> rfl
def vc_neg_r1 : List (U1 × Value × Value) := [((.conv .i64), (.chan (some 0)), (.chan (some 1))), ((.conv .u64), (.chan (some 1)), (.chan (some 2))), ((.conv .i64), (.chan (some 2)), (.chan (some 1))), ((.conv .i32), (.chan (some 2)), (.chan (some 0))), ((.conv .u32), (.chan (some 2)), (.chan (some 3))), ((.conv .u64), (.chan (some 3)), (.chan (some 4)))]
theorem vc_neg_hr1 (n : Int) (hr_n : -2147483648 ≤ n ∧ n ≤ 2147483647) (hc0 : n < 0) : ∀ p ∈ vc_neg_r1, Rule1 (vc_neg_θ n) p := by
  have f0 : vc_neg_t0 n = n := rfl
  have f1 : -9223372036854775808 ≤ vc_neg_t1 n ∧ vc_neg_t1 n < 9223372036854775808 ∧ ((vc_neg_t0 n) - vc_neg_t1 n) % 18446744073709551616 = 0 := w_i64 _
  have f2 : vc_neg_t2 n = (vc_neg_t1 n) % 18446744073709551616 := w_u64 _
  have f3 : vc_neg_t3 n = (vc_neg_t2 n) % 4294967296 := w_u32 _
  have f4 : vc_neg_t4 n = (vc_neg_t3 n) % 18446744073709551616 := w_u64 _
  intro p hp
  simp only [vc_neg_r1, List.mem_cons, List.not_mem_nil, or_false] at hp
  rcases hp with rfl | rfl | rfl | rfl | rfl | rfl
  · exact ⟨rfl, rfl, congrArg (fun z => some (Value.int .i64 z)) (show IntKind.i64.wrap (vc_neg_t0 n) = (vc_neg_t1 n) from (by have g := w_i64 ((vc_neg_t0 n)); omega))⟩
  · exact ⟨rfl, rfl, congrArg (fun z => some (Value.int .u64 z)) (show IntKind.u64.wrap (vc_neg_t1 n) = (vc_neg_t2 n) from ((w_u64 _).trans (by omega)))⟩
  · exact ⟨rfl, rfl, congrArg (fun z => some (Value.int .i64 z)) (show IntKind.i64.wrap (vc_neg_t2 n) = (vc_neg_t1 n) from (by have g := w_i64 ((vc_neg_t2 n)); omega))⟩
  · exact ⟨rfl, rfl, congrArg (fun z => some (Value.int .i32 z)) (show IntKind.i32.wrap (vc_neg_t2 n) = (vc_neg_t0 n) from (by have g := w_i32 ((vc_neg_t2 n)); omega))⟩
  · exact ⟨rfl, rfl, congrArg (fun z => some (Value.int .u32 z)) (show IntKind.u32.wrap (vc_neg_t2 n) = (vc_neg_t3 n) from ((w_u32 _).trans (by omega)))⟩
  · exact ⟨rfl, rfl, congrArg (fun z => some (Value.int .u64 z)) (show IntKind.u64.wrap (vc_neg_t3 n) = (vc_neg_t4 n) from ((w_u64 _).trans (by omega)))⟩
def vc_neg_r2 : List (U2 × Value × Value × Value) := [((.bin .and), (.chan (some 2)), (.int .u64 0), (.int .u64 0)), ((.bin .gtr), (.chan (some 2)), (.chan (some 2)), (.bool false)), ((.bin .gtr), (.chan (some 1)), (.chan (some 1)), (.bool false)), (.mx, (.chan (some 2)), (.chan (some 2)), (.chan (some 2))), ((.bin .or), (.chan (some 2)), (.int .u64 0), (.chan (some 2))), (.mn, (.chan (some 2)), (.chan (some 2)), (.chan (some 2))), ((.bin .leq), (.chan (some 1)), (.chan (some 1)), (.bool true)), (.mx, (.chan (some 1)), (.chan (some 1)), (.chan (some 1))), (.mn, (.chan (some 1)), (.chan (some 1)), (.chan (some 1))), ((.bin .geq), (.chan (some 1)), (.int .i64 0), (.bool false)), ((.bin .lss), (.chan (some 1)), (.int .i64 0), (.bool true)), ((.bin .xor), (.chan (some 2)), (.chan (some 2)), (.int .u64 0)), ((.bin .andNot), (.chan (some 2)), (.int .u64 0), (.chan (some 2))), ((.bin .or), (.chan (some 2)), (.chan (some 2)), (.chan (some 2))), ((.bin .eql), (.int .u64 9), (.chan (some 2)), (.bool false)), ((.bin .eql), (.int .u64 9), (.chan (some 4)), (.bool false)), ((.bin .gtr), (.int .u64 9), (.chan (some 2)), (.bool false)), ((.bin .gtr), (.int .u64 9), (.chan (some 4)), (.bool false)), ((.bin .geq), (.int .u64 9), (.chan (some 2)), (.bool false)), ((.bin .geq), (.int .u64 9), (.chan (some 4)), (.bool false)), ((.bin .neq), (.int .u64 9), (.chan (some 2)), (.bool true)), ((.bin .neq), (.int .u64 9), (.chan (some 4)), (.bool true)), ((.bin .gtr), (.int .i64 9), (.chan (some 1)), (.bool true)), ((.bin .geq), (.int .i64 9), (.chan (some 1)), (.bool true)), ((.bin .lss), (.int .u64 9), (.chan (some 2)), (.bool true)), ((.bin .lss), (.int .u64 9), (.chan (some 4)), (.bool true)), ((.bin .leq), (.int .u64 9), (.chan (some 2)), (.bool true)), ((.bin .leq), (.int .u64 9), (.chan (some 4)), (.bool true)), ((.bin .lss), (.int .i64 9), (.chan (some 1)), (.bool false)), ((.bin .leq), (.int .i64 9), (.chan (some 1)), (.bool false))]
theorem vc_neg_hr2 (n : Int) (hr_n : -2147483648 ≤ n ∧ n ≤ 2147483647) (hc0 : n < 0) : ∀ p ∈ vc_neg_r2, Rule2 (vc_neg_θ n) p := by
  have f0 : vc_neg_t0 n = n := rfl
  have f1 : -9223372036854775808 ≤ vc_neg_t1 n ∧ vc_neg_t1 n < 9223372036854775808 ∧ ((vc_neg_t0 n) - vc_neg_t1 n) % 18446744073709551616 = 0 := w_i64 _
  have f2 : vc_neg_t2 n = (vc_neg_t1 n) % 18446744073709551616 := w_u64 _
  have f3 : vc_neg_t3 n = (vc_neg_t2 n) % 4294967296 := w_u32 _
  have f4 : vc_neg_t4 n = (vc_neg_t3 n) % 18446744073709551616 := w_u64 _
  intro p hp
  simp only [vc_neg_r2, List.mem_cons, List.not_mem_nil, or_false] at hp
  rcases hp with rfl | rfl | rfl | rfl | rfl | rfl | rfl | rfl | rfl | rfl | rfl | rfl | rfl | rfl | rfl | rfl | rfl | rfl | rfl | rfl | rfl | rfl | rfl | rfl | rfl | rfl | rfl | rfl | rfl | rfl
  · exact ⟨rfl, rfl, rfl, congrArg (fun z => some (Value.int .u64 z)) (show IntKind.u64.wrap (BitVec.ofInt 64 (vc_neg_t2 n) &&& BitVec.ofInt 64 (0)).toNat = (0) from b_and0 _)⟩
  · exact ⟨rfl, rfl, rfl, congrArg (fun z => some (Value.bool z)) (decide_eq_false (show ¬ ((vc_neg_t2 n) > (vc_neg_t2 n)) from by omega))⟩
  · exact ⟨rfl, rfl, rfl, congrArg (fun z => some (Value.bool z)) (decide_eq_false (show ¬ ((vc_neg_t1 n) > (vc_neg_t1 n)) from by omega))⟩
  · exact ⟨rfl, rfl, rfl, congrArg (fun z => some (Value.int .u64 z)) (show (if (vc_neg_t2 n) > (vc_neg_t2 n) then (vc_neg_t2 n) else (vc_neg_t2 n)) = (vc_neg_t2 n) from by split <;> omega)⟩
  · exact ⟨rfl, rfl, rfl, congrArg (fun z => some (Value.int .u64 z)) (show IntKind.u64.wrap (BitVec.ofInt 64 (vc_neg_t2 n) ||| BitVec.ofInt 64 (0)).toNat = (vc_neg_t2 n) from b_or0 (by omega) (by omega))⟩
  · exact ⟨rfl, rfl, rfl, congrArg (fun z => some (Value.int .u64 z)) (show (if (vc_neg_t2 n) < (vc_neg_t2 n) then (vc_neg_t2 n) else (vc_neg_t2 n)) = (vc_neg_t2 n) from by split <;> omega)⟩
  · exact ⟨rfl, rfl, rfl, congrArg (fun z => some (Value.bool z)) (decide_eq_true (show ((vc_neg_t1 n) ≤ (vc_neg_t1 n)) from by omega))⟩
  · exact ⟨rfl, rfl, rfl, congrArg (fun z => some (Value.int .i64 z)) (show (if (vc_neg_t1 n) > (vc_neg_t1 n) then (vc_neg_t1 n) else (vc_neg_t1 n)) = (vc_neg_t1 n) from by split <;> omega)⟩
  · exact ⟨rfl, rfl, rfl, congrArg (fun z => some (Value.int .i64 z)) (show (if (vc_neg_t1 n) < (vc_neg_t1 n) then (vc_neg_t1 n) else (vc_neg_t1 n)) = (vc_neg_t1 n) from by split <;> omega)⟩
  · exact ⟨rfl, rfl, rfl, congrArg (fun z => some (Value.bool z)) (decide_eq_false (show ¬ ((vc_neg_t1 n) ≥ (0)) from by omega))⟩
  · exact ⟨rfl, rfl, rfl, congrArg (fun z => some (Value.bool z)) (decide_eq_true (show ((vc_neg_t1 n) < (0)) from by omega))⟩
  · exact ⟨rfl, rfl, rfl, congrArg (fun z => some (Value.int .u64 z)) (show IntKind.u64.wrap (BitVec.ofInt 64 (vc_neg_t2 n) ^^^ BitVec.ofInt 64 (vc_neg_t2 n)).toNat = (0) from b_xoro _)⟩
  · exact ⟨rfl, rfl, rfl, congrArg (fun z => some (Value.int .u64 z)) (show IntKind.u64.wrap (BitVec.ofInt 64 (vc_neg_t2 n) &&& ~~~BitVec.ofInt 64 (0)).toNat = (vc_neg_t2 n) from b_andNot0 (by omega) (by omega))⟩
  · exact ⟨rfl, rfl, rfl, congrArg (fun z => some (Value.int .u64 z)) (show IntKind.u64.wrap (BitVec.ofInt 64 (vc_neg_t2 n) ||| BitVec.ofInt 64 (vc_neg_t2 n)).toNat = (vc_neg_t2 n) from b_oro (by omega) (by omega))⟩
  · exact ⟨rfl, rfl, rfl, congrArg (fun z => some (Value.bool z)) (show ((9) == (vc_neg_t2 n)) = false from beq_eq_false_iff_ne.2 (by omega))⟩
  · exact ⟨rfl, rfl, rfl, congrArg (fun z => some (Value.bool z)) (show ((9) == (vc_neg_t4 n)) = false from beq_eq_false_iff_ne.2 (by omega))⟩
  · exact ⟨rfl, rfl, rfl, congrArg (fun z => some (Value.bool z)) (decide_eq_false (show ¬ ((9) > (vc_neg_t2 n)) from by omega))⟩
  · exact ⟨rfl, rfl, rfl, congrArg (fun z => some (Value.bool z)) (decide_eq_false (show ¬ ((9) > (vc_neg_t4 n)) from by omega))⟩
  · exact ⟨rfl, rfl, rfl, congrArg (fun z => some (Value.bool z)) (decide_eq_false (show ¬ ((9) ≥ (vc_neg_t2 n)) from by omega))⟩
  · exact ⟨rfl, rfl, rfl, congrArg (fun z => some (Value.bool z)) (decide_eq_false (show ¬ ((9) ≥ (vc_neg_t4 n)) from by omega))⟩
  · exact ⟨rfl, rfl, rfl, congrArg (fun z => some (Value.bool z)) (show (!((9) == (vc_neg_t2 n))) = true from by rw [show ((9) == (vc_neg_t2 n)) = false from beq_eq_false_iff_ne.2 (by omega)]; rfl)⟩
  · exact ⟨rfl, rfl, rfl, congrArg (fun z => some (Value.bool z)) (show (!((9) == (vc_neg_t4 n))) = true from by rw [show ((9) == (vc_neg_t4 n)) = false from beq_eq_false_iff_ne.2 (by omega)]; rfl)⟩
  · exact ⟨rfl, rfl, rfl, congrArg (fun z => some (Value.bool z)) (decide_eq_true (show ((9) > (vc_neg_t1 n)) from by omega))⟩
  · exact ⟨rfl, rfl, rfl, congrArg (fun z => some (Value.bool z)) (decide_eq_true (show ((9) ≥ (vc_neg_t1 n)) from by omega))⟩
  · exact ⟨rfl, rfl, rfl, congrArg (fun z => some (Value.bool z)) (decide_eq_true (show ((9) < (vc_neg_t2 n)) from by omega))⟩
  · exact ⟨rfl, rfl, rfl, congrArg (fun z => some (Value.bool z)) (decide_eq_true (show ((9) < (vc_neg_t4 n)) from by omega))⟩
  · exact ⟨rfl, rfl, rfl, congrArg (fun z => some (Value.bool z)) (decide_eq_true (show ((9) ≤ (vc_neg_t2 n)) from by omega))⟩
  · exact ⟨rfl, rfl, rfl, congrArg (fun z => some (Value.bool z)) (decide_eq_true (show ((9) ≤ (vc_neg_t4 n)) from by omega))⟩
  · exact ⟨rfl, rfl, rfl, congrArg (fun z => some (Value.bool z)) (decide_eq_false (show ¬ ((9) < (vc_neg_t1 n)) from by omega))⟩
  · exact ⟨rfl, rfl, rfl, congrArg (fun z => some (Value.bool z)) (decide_eq_false (show ¬ ((9) ≤ (vc_neg_t1 n)) from by omega))⟩
def vc_neg_re : List (Value × Value × Bool) := [((.chan (some 2)), (.chan (some 2)), true), ((.chan (some 1)), (.chan (some 1)), true)]
theorem vc_neg_hre (n : Int) (hr_n : -2147483648 ≤ n ∧ n ≤ 2147483647) (hc0 : n < 0) : ∀ p ∈ vc_neg_re, RuleE (vc_neg_θ n) p := by
  have f0 : vc_neg_t0 n = n := rfl
  have f1 : -9223372036854775808 ≤ vc_neg_t1 n ∧ vc_neg_t1 n < 9223372036854775808 ∧ ((vc_neg_t0 n) - vc_neg_t1 n) % 18446744073709551616 = 0 := w_i64 _
  have f2 : vc_neg_t2 n = (vc_neg_t1 n) % 18446744073709551616 := w_u64 _
  have f3 : vc_neg_t3 n = (vc_neg_t2 n) % 4294967296 := w_u32 _
  have f4 : vc_neg_t4 n = (vc_neg_t3 n) % 18446744073709551616 := w_u64 _
  intro p hp
  simp only [vc_neg_re, List.mem_cons, List.not_mem_nil, or_false] at hp
  rcases hp with rfl | rfl
  · exact ⟨rfl, rfl, .u64, (vc_neg_t2 n), (vc_neg_t2 n), rfl, rfl, (show ((vc_neg_t2 n) == (vc_neg_t2 n)) = true from beq_iff_eq.2 (by omega)).symm⟩
  · exact ⟨rfl, rfl, .i64, (vc_neg_t1 n), (vc_neg_t1 n), rfl, rfl, (show ((vc_neg_t1 n) == (vc_neg_t1 n)) = true from beq_iff_eq.2 (by omega)).symm⟩
abbrev vc_neg_sy (n : Int) (hr_n : -2147483648 ≤ n ∧ n ≤ 2147483647) (hc0 : n < 0) : Sy := syOf (vc_neg_θ n) (vc_neg_plain n) vc_neg_r1 vc_neg_r2 vc_neg_re (vc_neg_hr1 n hr_n hc0) (vc_neg_hr2 n hr_n hc0) (vc_neg_hre n hr_n hc0)
def vc_low_t0 (n : Int) : Int := n
def vc_low_t1 (n : Int) : Int := (IntKind.i64.wrap (vc_low_t0 n))
def vc_low_t2 (n : Int) : Int := (IntKind.u64.wrap (vc_low_t1 n))
def vc_low_t3 (n : Int) : Int := (IntKind.u32.wrap (vc_low_t2 n))
def vc_low_θ (n : Int) : Nat → Value := fun j => match j with
  | 0 => .int .i32 (vc_low_t0 n)
  | 1 => .int .i64 (vc_low_t1 n)
  | 2 => .int .u64 (vc_low_t2 n)
  | 3 => .int .u32 (vc_low_t3 n)
  | _ => .bool false
theorem vc_low_plain (n : Int) : ∀ j, plainV (vc_low_θ n j) = true := by intro j; unfold vc_low_θ; split <;> rfl
def vc_low_r1 : List (U1 × Value × Value) := [((.conv .i64), (.chan (some 0)), (.chan (some 1))), ((.conv .u64), (.chan (some 1)), (.chan (some 2))), ((.conv .i64), (.chan (some 2)), (.chan (some 1))), ((.conv .i32), (.chan (some 2)), (.chan (some 0))), ((.conv .u32), (.chan (some 2)), (.chan (some 3))), ((.conv .u64), (.chan (some 3)), (.chan (some 2)))]
theorem vc_low_hr1 (n : Int) (hr_n : -2147483648 ≤ n ∧ n ≤ 2147483647) (hc0 : 0 ≤ n ∧ n < 9) : ∀ p ∈ vc_low_r1, Rule1 (vc_low_θ n) p := by
  have f0 : vc_low_t0 n = n := rfl
  have f1 : -9223372036854775808 ≤ vc_low_t1 n ∧ vc_low_t1 n < 9223372036854775808 ∧ ((vc_low_t0 n) - vc_low_t1 n) % 18446744073709551616 = 0 := w_i64 _
  have f2 : vc_low_t2 n = (vc_low_t1 n) % 18446744073709551616 := w_u64 _
  have f3 : vc_low_t3 n = (vc_low_t2 n) % 4294967296 := w_u32 _
  intro p hp
  simp only [vc_low_r1, List.mem_cons, List.not_mem_nil, or_false] at hp
  rcases hp with rfl | rfl | rfl | rfl | rfl | rfl
  · exact ⟨rfl, rfl, congrArg (fun z => some (Value.int .i64 z)) (show IntKind.i64.wrap (vc_low_t0 n) = (vc_low_t1 n) from (by have g := w_i64 ((vc_low_t0 n)); omega))⟩
  · exact ⟨rfl, rfl, congrArg (fun z => some (Value.int .u64 z)) (show IntKind.u64.wrap (vc_low_t1 n) = (vc_low_t2 n) from ((w_u64 _).trans (by omega)))⟩
  · exact ⟨rfl, rfl, congrArg (fun z => some (Value.int .i64 z)) (show IntKind.i64.wrap (vc_low_t2 n) = (vc_low_t1 n) from (by have g := w_i64 ((vc_low_t2 n)); omega))⟩
  · exact ⟨rfl, rfl, congrArg (fun z => some (Value.int .i32 z)) (show IntKind.i32.wrap (vc_low_t2 n) = (vc_low_t0 n) from (by have g := w_i32 ((vc_low_t2 n)); omega))⟩
  · exact ⟨rfl, rfl, congrArg (fun z => some (Value.int .u32 z)) (show IntKind.u32.wrap (vc_low_t2 n) = (vc_low_t3 n) from ((w_u32 _).trans (by omega)))⟩
  · exact ⟨rfl, rfl, congrArg (fun z => some (Value.int .u64 z)) (show IntKind.u64.wrap (vc_low_t3 n) = (vc_low_t2 n) from ((w_u64 _).trans (by omega)))⟩
def vc_low_r2 : List (U2 × Value × Value × Value) := [((.bin .and), (.chan (some 2)), (.int .u64 0), (.int .u64 0)), ((.bin .gtr), (.chan (some 2)), (.chan (some 2)), (.bool false)), ((.bin .gtr), (.chan (some 1)), (.chan (some 1)), (.bool false)), (.mx, (.chan (some 2)), (.chan (some 2)), (.chan (some 2))), ((.bin .or), (.chan (some 2)), (.int .u64 0), (.chan (some 2))), (.mn, (.chan (some 2)), (.chan (some 2)), (.chan (some 2))), ((.bin .leq), (.chan (some 1)), (.chan (some 1)), (.bool true)), (.mx, (.chan (some 1)), (.chan (some 1)), (.chan (some 1))), (.mn, (.chan (some 1)), (.chan (some 1)), (.chan (some 1))), ((.bin .geq), (.chan (some 1)), (.int .i64 0), (.bool true)), ((.bin .xor), (.chan (some 2)), (.chan (some 2)), (.int .u64 0)), ((.bin .andNot), (.chan (some 2)), (.int .u64 0), (.chan (some 2))), ((.bin .or), (.chan (some 2)), (.chan (some 2)), (.chan (some 2))), ((.bin .eql), (.int .u64 9), (.chan (some 2)), (.bool false)), ((.bin .gtr), (.int .u64 9), (.chan (some 2)), (.bool true)), ((.bin .geq), (.int .u64 9), (.chan (some 2)), (.bool true)), ((.bin .neq), (.int .u64 9), (.chan (some 2)), (.bool true)), ((.bin .gtr), (.int .i64 9), (.chan (some 1)), (.bool true)), ((.bin .geq), (.int .i64 9), (.chan (some 1)), (.bool true)), ((.bin .lss), (.int .u64 9), (.chan (some 2)), (.bool false)), ((.bin .leq), (.int .u64 9), (.chan (some 2)), (.bool false)), ((.bin .lss), (.int .i64 9), (.chan (some 1)), (.bool false)), ((.bin .leq), (.int .i64 9), (.chan (some 1)), (.bool false))]
theorem vc_low_hr2 (n : Int) (hr_n : -2147483648 ≤ n ∧ n ≤ 2147483647) (hc0 : 0 ≤ n ∧ n < 9) : ∀ p ∈ vc_low_r2, Rule2 (vc_low_θ n) p := by
  have f0 : vc_low_t0 n = n := rfl
  have f1 : -9223372036854775808 ≤ vc_low_t1 n ∧ vc_low_t1 n < 9223372036854775808 ∧ ((vc_low_t0 n) - vc_low_t1 n) % 18446744073709551616 = 0 := w_i64 _
  have f2 : vc_low_t2 n = (vc_low_t1 n) % 18446744073709551616 := w_u64 _
  have f3 : vc_low_t3 n = (vc_low_t2 n) % 4294967296 := w_u32 _
  intro p hp
  simp only [vc_low_r2, List.mem_cons, List.not_mem_nil, or_false] at hp
  rcases hp with rfl | rfl | rfl | rfl | rfl | rfl | rfl | rfl | rfl | rfl | rfl | rfl | rfl | rfl | rfl | rfl | rfl | rfl | rfl | rfl | rfl | rfl | rfl
  · exact ⟨rfl, rfl, rfl, congrArg (fun z => some (Value.int .u64 z)) (show IntKind.u64.wrap (BitVec.ofInt 64 (vc_low_t2 n) &&& BitVec.ofInt 64 (0)).toNat = (0) from b_and0 _)⟩
  · exact ⟨rfl, rfl, rfl, congrArg (fun z => some (Value.bool z)) (decide_eq_false (show ¬ ((vc_low_t2 n) > (vc_low_t2 n)) from by omega))⟩
  · exact ⟨rfl, rfl, rfl, congrArg (fun z => some (Value.bool z)) (decide_eq_false (show ¬ ((vc_low_t1 n) > (vc_low_t1 n)) from by omega))⟩
  · exact ⟨rfl, rfl, rfl, congrArg (fun z => some (Value.int .u64 z)) (show (if (vc_low_t2 n) > (vc_low_t2 n) then (vc_low_t2 n) else (vc_low_t2 n)) = (vc_low_t2 n) from by split <;> omega)⟩
  · exact ⟨rfl, rfl, rfl, congrArg (fun z => some (Value.int .u64 z)) (show IntKind.u64.wrap (BitVec.ofInt 64 (vc_low_t2 n) ||| BitVec.ofInt 64 (0)).toNat = (vc_low_t2 n) from b_or0 (by omega) (by omega))⟩
  · exact ⟨rfl, rfl, rfl, congrArg (fun z => some (Value.int .u64 z)) (show (if (vc_low_t2 n) < (vc_low_t2 n) then (vc_low_t2 n) else (vc_low_t2 n)) = (vc_low_t2 n) from by split <;> omega)⟩
  · exact ⟨rfl, rfl, rfl, congrArg (fun z => some (Value.bool z)) (decide_eq_true (show ((vc_low_t1 n) ≤ (vc_low_t1 n)) from by omega))⟩
  · exact ⟨rfl, rfl, rfl, congrArg (fun z => some (Value.int .i64 z)) (show (if (vc_low_t1 n) > (vc_low_t1 n) then (vc_low_t1 n) else (vc_low_t1 n)) = (vc_low_t1 n) from by split <;> omega)⟩
  · exact ⟨rfl, rfl, rfl, congrArg (fun z => some (Value.int .i64 z)) (show (if (vc_low_t1 n) < (vc_low_t1 n) then (vc_low_t1 n) else (vc_low_t1 n)) = (vc_low_t1 n) from by split <;> omega)⟩
  · exact ⟨rfl, rfl, rfl, congrArg (fun z => some (Value.bool z)) (decide_eq_true (show ((vc_low_t1 n) ≥ (0)) from by omega))⟩
  · exact ⟨rfl, rfl, rfl, congrArg (fun z => some (Value.int .u64 z)) (show IntKind.u64.wrap (BitVec.ofInt 64 (vc_low_t2 n) ^^^ BitVec.ofInt 64 (vc_low_t2 n)).toNat = (0) from b_xoro _)⟩
  · exact ⟨rfl, rfl, rfl, congrArg (fun z => some (Value.int .u64 z)) (show IntKind.u64.wrap (BitVec.ofInt 64 (vc_low_t2 n) &&& ~~~BitVec.ofInt 64 (0)).toNat = (vc_low_t2 n) from b_andNot0 (by omega) (by omega))⟩
  · exact ⟨rfl, rfl, rfl, congrArg (fun z => some (Value.int .u64 z)) (show IntKind.u64.wrap (BitVec.ofInt 64 (vc_low_t2 n) ||| BitVec.ofInt 64 (vc_low_t2 n)).toNat = (vc_low_t2 n) from b_oro (by omega) (by omega))⟩
  · exact ⟨rfl, rfl, rfl, congrArg (fun z => some (Value.bool z)) (show ((9) == (vc_low_t2 n)) = false from beq_eq_false_iff_ne.2 (by omega))⟩
  · exact ⟨rfl, rfl, rfl, congrArg (fun z => some (Value.bool z)) (decide_eq_true (show ((9) > (vc_low_t2 n)) from by omega))⟩
  · exact ⟨rfl, rfl, rfl, congrArg (fun z => some (Value.bool z)) (decide_eq_true (show ((9) ≥ (vc_low_t2 n)) from by omega))⟩
  · exact ⟨rfl, rfl, rfl, congrArg (fun z => some (Value.bool z)) (show (!((9) == (vc_low_t2 n))) = true from by rw [show ((9) == (vc_low_t2 n)) = false from beq_eq_false_iff_ne.2 (by omega)]; rfl)⟩
  · exact ⟨rfl, rfl, rfl, congrArg (fun z => some (Value.bool z)) (decide_eq_true (show ((9) > (vc_low_t1 n)) from by omega))⟩
  · exact ⟨rfl, rfl, rfl, congrArg (fun z => some (Value.bool z)) (decide_eq_true (show ((9) ≥ (vc_low_t1 n)) from by omega))⟩
  · exact ⟨rfl, rfl, rfl, congrArg (fun z => some (Value.bool z)) (decide_eq_false (show ¬ ((9) < (vc_low_t2 n)) from by omega))⟩
  · exact ⟨rfl, rfl, rfl, congrArg (fun z => some (Value.bool z)) (decide_eq_false (show ¬ ((9) ≤ (vc_low_t2 n)) from by omega))⟩
  · exact ⟨rfl, rfl, rfl, congrArg (fun z => some (Value.bool z)) (decide_eq_false (show ¬ ((9) < (vc_low_t1 n)) from by omega))⟩
  · exact ⟨rfl, rfl, rfl, congrArg (fun z => some (Value.bool z)) (decide_eq_false (show ¬ ((9) ≤ (vc_low_t1 n)) from by omega))⟩
def vc_low_re : List (Value × Value × Bool) := [((.chan (some 2)), (.chan (some 2)), true), ((.chan (some 1)), (.chan (some 1)), true)]
theorem vc_low_hre (n : Int) (hr_n : -2147483648 ≤ n ∧ n ≤ 2147483647) (hc0 : 0 ≤ n ∧ n < 9) : ∀ p ∈ vc_low_re, RuleE (vc_low_θ n) p := by
  have f0 : vc_low_t0 n = n := rfl
  have f1 : -9223372036854775808 ≤ vc_low_t1 n ∧ vc_low_t1 n < 9223372036854775808 ∧ ((vc_low_t0 n) - vc_low_t1 n) % 18446744073709551616 = 0 := w_i64 _
  have f2 : vc_low_t2 n = (vc_low_t1 n) % 18446744073709551616 := w_u64 _
  have f3 : vc_low_t3 n = (vc_low_t2 n) % 4294967296 := w_u32 _
  intro p hp
  simp only [vc_low_re, List.mem_cons, List.not_mem_nil, or_false] at hp
  rcases hp with rfl | rfl
  · exact ⟨rfl, rfl, .u64, (vc_low_t2 n), (vc_low_t2 n), rfl, rfl, (show ((vc_low_t2 n) == (vc_low_t2 n)) = true from beq_iff_eq.2 (by omega)).symm⟩
  · exact ⟨rfl, rfl, .i64, (vc_low_t1 n), (vc_low_t1 n), rfl, rfl, (show ((vc_low_t1 n) == (vc_low_t1 n)) = true from beq_iff_eq.2 (by omega)).symm⟩
abbrev vc_low_sy (n : Int) (hr_n : -2147483648 ≤ n ∧ n ≤ 2147483647) (hc0 : 0 ≤ n ∧ n < 9) : Sy := syOf (vc_low_θ n) (vc_low_plain n) vc_low_r1 vc_low_r2 vc_low_re (vc_low_hr1 n hr_n hc0) (vc_low_hr2 n hr_n hc0) (vc_low_hre n hr_n hc0)
def vc_high_t0 (n : Int) : Int := n
def vc_high_t1 (n : Int) : Int := (IntKind.i64.wrap (vc_high_t0 n))
def vc_high_t2 (n : Int) : Int := (IntKind.u64.wrap (vc_high_t1 n))
def vc_high_t3 (n : Int) : Int := (IntKind.u32.wrap (vc_high_t2 n))
def vc_high_θ (n : Int) : Nat → Value := fun j => match j with
  | 0 => .int .i32 (vc_high_t0 n)
  | 1 => .int .i64 (vc_high_t1 n)
  | 2 => .int .u64 (vc_high_t2 n)
  | 3 => .int .u32 (vc_high_t3 n)
  | _ => .bool false
theorem vc_high_plain (n : Int) : ∀ j, plainV (vc_high_θ n j) = true := by intro j; unfold vc_high_θ; split <;> rfl
def vc_high_r1 : List (U1 × Value × Value) := [((.conv .i64), (.chan (some 0)), (.chan (some 1))), ((.conv .u64), (.chan (some 1)), (.chan (some 2))), ((.conv .i64), (.chan (some 2)), (.chan (some 1))), ((.conv .i32), (.chan (some 2)), (.chan (some 0))), ((.conv .u32), (.chan (some 2)), (.chan (some 3))), ((.conv .u64), (.chan (some 3)), (.chan (some 2)))]
theorem vc_high_hr1 (n : Int) (hr_n : -2147483648 ≤ n ∧ n ≤ 2147483647) (hc0 : 9 < n) : ∀ p ∈ vc_high_r1, Rule1 (vc_high_θ n) p := by
  have f0 : vc_high_t0 n = n := rfl
  have f1 : -9223372036854775808 ≤ vc_high_t1 n ∧ vc_high_t1 n < 9223372036854775808 ∧ ((vc_high_t0 n) - vc_high_t1 n) % 18446744073709551616 = 0 := w_i64 _
  have f2 : vc_high_t2 n = (vc_high_t1 n) % 18446744073709551616 := w_u64 _
  have f3 : vc_high_t3 n = (vc_high_t2 n) % 4294967296 := w_u32 _
  intro p hp
  simp only [vc_high_r1, List.mem_cons, List.not_mem_nil, or_false] at hp
  rcases hp with rfl | rfl | rfl | rfl | rfl | rfl
  · exact ⟨rfl, rfl, congrArg (fun z => some (Value.int .i64 z)) (show IntKind.i64.wrap (vc_high_t0 n) = (vc_high_t1 n) from (by have g := w_i64 ((vc_high_t0 n)); omega))⟩
  · exact ⟨rfl, rfl, congrArg (fun z => some (Value.int .u64 z)) (show IntKind.u64.wrap (vc_high_t1 n) = (vc_high_t2 n) from ((w_u64 _).trans (by omega)))⟩
  · exact ⟨rfl, rfl, congrArg (fun z => some (Value.int .i64 z)) (show IntKind.i64.wrap (vc_high_t2 n) = (vc_high_t1 n) from (by have g := w_i64 ((vc_high_t2 n)); omega))⟩
  · exact ⟨rfl, rfl, congrArg (fun z => some (Value.int .i32 z)) (show IntKind.i32.wrap (vc_high_t2 n) = (vc_high_t0 n) from (by have g := w_i32 ((vc_high_t2 n)); omega))⟩
  · exact ⟨rfl, rfl, congrArg (fun z => some (Value.int .u32 z)) (show IntKind.u32.wrap (vc_high_t2 n) = (vc_high_t3 n) from ((w_u32 _).trans (by omega)))⟩
  · exact ⟨rfl, rfl, congrArg (fun z => some (Value.int .u64 z)) (show IntKind.u64.wrap (vc_high_t3 n) = (vc_high_t2 n) from ((w_u64 _).trans (by omega)))⟩
def vc_high_r2 : List (U2 × Value × Value × Value) := [((.bin .and), (.chan (some 2)), (.int .u64 0), (.int .u64 0)), ((.bin .gtr), (.chan (some 2)), (.chan (some 2)), (.bool false)), ((.bin .gtr), (.chan (some 1)), (.chan (some 1)), (.bool false)), (.mx, (.chan (some 2)), (.chan (some 2)), (.chan (some 2))), ((.bin .or), (.chan (some 2)), (.int .u64 0), (.chan (some 2))), (.mn, (.chan (some 2)), (.chan (some 2)), (.chan (some 2))), ((.bin .leq), (.chan (some 1)), (.chan (some 1)), (.bool true)), (.mx, (.chan (some 1)), (.chan (some 1)), (.chan (some 1))), (.mn, (.chan (some 1)), (.chan (some 1)), (.chan (some 1))), ((.bin .geq), (.chan (some 1)), (.int .i64 0), (.bool true)), ((.bin .xor), (.chan (some 2)), (.chan (some 2)), (.int .u64 0)), ((.bin .andNot), (.chan (some 2)), (.int .u64 0), (.chan (some 2))), ((.bin .or), (.chan (some 2)), (.chan (some 2)), (.chan (some 2))), ((.bin .eql), (.int .u64 9), (.chan (some 2)), (.bool false)), ((.bin .gtr), (.int .u64 9), (.chan (some 2)), (.bool false)), ((.bin .geq), (.int .u64 9), (.chan (some 2)), (.bool false)), ((.bin .neq), (.int .u64 9), (.chan (some 2)), (.bool true)), ((.bin .gtr), (.int .i64 9), (.chan (some 1)), (.bool false)), ((.bin .geq), (.int .i64 9), (.chan (some 1)), (.bool false)), ((.bin .lss), (.int .u64 9), (.chan (some 2)), (.bool true)), ((.bin .leq), (.int .u64 9), (.chan (some 2)), (.bool true)), ((.bin .lss), (.int .i64 9), (.chan (some 1)), (.bool true)), ((.bin .leq), (.int .i64 9), (.chan (some 1)), (.bool true))]
theorem vc_high_hr2 (n : Int) (hr_n : -2147483648 ≤ n ∧ n ≤ 2147483647) (hc0 : 9 < n) : ∀ p ∈ vc_high_r2, Rule2 (vc_high_θ n) p := by
  have f0 : vc_high_t0 n = n := rfl
  have f1 : -9223372036854775808 ≤ vc_high_t1 n ∧ vc_high_t1 n < 9223372036854775808 ∧ ((vc_high_t0 n) - vc_high_t1 n) % 18446744073709551616 = 0 := w_i64 _
  have f2 : vc_high_t2 n = (vc_high_t1 n) % 18446744073709551616 := w_u64 _
  have f3 : vc_high_t3 n = (vc_high_t2 n) % 4294967296 := w_u32 _
  intro p hp
  simp only [vc_high_r2, List.mem_cons, List.not_mem_nil, or_false] at hp
  rcases hp with rfl | rfl | rfl | rfl | rfl | rfl | rfl | rfl | rfl | rfl | rfl | rfl | rfl | rfl | rfl | rfl | rfl | rfl | rfl | rfl | rfl | rfl | rfl
  · exact ⟨rfl, rfl, rfl, congrArg (fun z => some (Value.int .u64 z)) (show IntKind.u64.wrap (BitVec.ofInt 64 (vc_high_t2 n) &&& BitVec.ofInt 64 (0)).toNat = (0) from b_and0 _)⟩
  · exact ⟨rfl, rfl, rfl, congrArg (fun z => some (Value.bool z)) (decide_eq_false (show ¬ ((vc_high_t2 n) > (vc_high_t2 n)) from by omega))⟩
  · exact ⟨rfl, rfl, rfl, congrArg (fun z => some (Value.bool z)) (decide_eq_false (show ¬ ((vc_high_t1 n) > (vc_high_t1 n)) from by omega))⟩
  · exact ⟨rfl, rfl, rfl, congrArg (fun z => some (Value.int .u64 z)) (show (if (vc_high_t2 n) > (vc_high_t2 n) then (vc_high_t2 n) else (vc_high_t2 n)) = (vc_high_t2 n) from by split <;> omega)⟩
  · exact ⟨rfl, rfl, rfl, congrArg (fun z => some (Value.int .u64 z)) (show IntKind.u64.wrap (BitVec.ofInt 64 (vc_high_t2 n) ||| BitVec.ofInt 64 (0)).toNat = (vc_high_t2 n) from b_or0 (by omega) (by omega))⟩
  · exact ⟨rfl, rfl, rfl, congrArg (fun z => some (Value.int .u64 z)) (show (if (vc_high_t2 n) < (vc_high_t2 n) then (vc_high_t2 n) else (vc_high_t2 n)) = (vc_high_t2 n) from by split <;> omega)⟩
  · exact ⟨rfl, rfl, rfl, congrArg (fun z => some (Value.bool z)) (decide_eq_true (show ((vc_high_t1 n) ≤ (vc_high_t1 n)) from by omega))⟩
  · exact ⟨rfl, rfl, rfl, congrArg (fun z => some (Value.int .i64 z)) (show (if (vc_high_t1 n) > (vc_high_t1 n) then (vc_high_t1 n) else (vc_high_t1 n)) = (vc_high_t1 n) from by split <;> omega)⟩
  · exact ⟨rfl, rfl, rfl, congrArg (fun z => some (Value.int .i64 z)) (show (if (vc_high_t1 n) < (vc_high_t1 n) then (vc_high_t1 n) else (vc_high_t1 n)) = (vc_high_t1 n) from by split <;> omega)⟩
  · exact ⟨rfl, rfl, rfl, congrArg (fun z => some (Value.bool z)) (decide_eq_true (show ((vc_high_t1 n) ≥ (0)) from by omega))⟩
  · exact ⟨rfl, rfl, rfl, congrArg (fun z => some (Value.int .u64 z)) (show IntKind.u64.wrap (BitVec.ofInt 64 (vc_high_t2 n) ^^^ BitVec.ofInt 64 (vc_high_t2 n)).toNat = (0) from b_xoro _)⟩
  · exact ⟨rfl, rfl, rfl, congrArg (fun z => some (Value.int .u64 z)) (show IntKind.u64.wrap (BitVec.ofInt 64 (vc_high_t2 n) &&& ~~~BitVec.ofInt 64 (0)).toNat = (vc_high_t2 n) from b_andNot0 (by omega) (by omega))⟩
  · exact ⟨rfl, rfl, rfl, congrArg (fun z => some (Value.int .u64 z)) (show IntKind.u64.wrap (BitVec.ofInt 64 (vc_high_t2 n) ||| BitVec.ofInt 64 (vc_high_t2 n)).toNat = (vc_high_t2 n) from b_oro (by omega) (by omega))⟩
  · exact ⟨rfl, rfl, rfl, congrArg (fun z => some (Value.bool z)) (show ((9) == (vc_high_t2 n)) = false from beq_eq_false_iff_ne.2 (by omega))⟩
  · exact ⟨rfl, rfl, rfl, congrArg (fun z => some (Value.bool z)) (decide_eq_false (show ¬ ((9) > (vc_high_t2 n)) from by omega))⟩
  · exact ⟨rfl, rfl, rfl, congrArg (fun z => some (Value.bool z)) (decide_eq_false (show ¬ ((9) ≥ (vc_high_t2 n)) from by omega))⟩
  · exact ⟨rfl, rfl, rfl, congrArg (fun z => some (Value.bool z)) (show (!((9) == (vc_high_t2 n))) = true from by rw [show ((9) == (vc_high_t2 n)) = false from beq_eq_false_iff_ne.2 (by omega)]; rfl)⟩
  · exact ⟨rfl, rfl, rfl, congrArg (fun z => some (Value.bool z)) (decide_eq_false (show ¬ ((9) > (vc_high_t1 n)) from by omega))⟩
  · exact ⟨rfl, rfl, rfl, congrArg (fun z => some (Value.bool z)) (decide_eq_false (show ¬ ((9) ≥ (vc_high_t1 n)) from by omega))⟩
  · exact ⟨rfl, rfl, rfl, congrArg (fun z => some (Value.bool z)) (decide_eq_true (show ((9) < (vc_high_t2 n)) from by omega))⟩
  · exact ⟨rfl, rfl, rfl, congrArg (fun z => some (Value.bool z)) (decide_eq_true (show ((9) ≤ (vc_high_t2 n)) from by omega))⟩
  · exact ⟨rfl, rfl, rfl, congrArg (fun z => some (Value.bool z)) (decide_eq_true (show ((9) < (vc_high_t1 n)) from by omega))⟩
  · exact ⟨rfl, rfl, rfl, congrArg (fun z => some (Value.bool z)) (decide_eq_true (show ((9) ≤ (vc_high_t1 n)) from by omega))⟩
def vc_high_re : List (Value × Value × Bool) := [((.chan (some 2)), (.chan (some 2)), true), ((.chan (some 1)), (.chan (some 1)), true)]
theorem vc_high_hre (n : Int) (hr_n : -2147483648 ≤ n ∧ n ≤ 2147483647) (hc0 : 9 < n) : ∀ p ∈ vc_high_re, RuleE (vc_high_θ n) p := by
  have f0 : vc_high_t0 n = n := rfl
  have f1 : -9223372036854775808 ≤ vc_high_t1 n ∧ vc_high_t1 n < 9223372036854775808 ∧ ((vc_high_t0 n) - vc_high_t1 n) % 18446744073709551616 = 0 := w_i64 _
  have f2 : vc_high_t2 n = (vc_high_t1 n) % 18446744073709551616 := w_u64 _
  have f3 : vc_high_t3 n = (vc_high_t2 n) % 4294967296 := w_u32 _
  intro p hp
  simp only [vc_high_re, List.mem_cons, List.not_mem_nil, or_false] at hp
  rcases hp with rfl | rfl
  · exact ⟨rfl, rfl, .u64, (vc_high_t2 n), (vc_high_t2 n), rfl, rfl, (show ((vc_high_t2 n) == (vc_high_t2 n)) = true from beq_iff_eq.2 (by omega)).symm⟩
  · exact ⟨rfl, rfl, .i64, (vc_high_t1 n), (vc_high_t1 n), rfl, rfl, (show ((vc_high_t1 n) == (vc_high_t1 n)) = true from beq_iff_eq.2 (by omega)).symm⟩
abbrev vc_high_sy (n : Int) (hr_n : -2147483648 ≤ n ∧ n ≤ 2147483647) (hc0 : 9 < n) : Sy := syOf (vc_high_θ n) (vc_high_plain n) vc_high_r1 vc_high_r2 vc_high_re (vc_high_hr1 n hr_n hc0) (vc_high_hr2 n hr_n hc0) (vc_high_hre n hr_n hc0)
def vc_nz_t0 (n : Int) : Int := n
def vc_nz_t1 (n : Int) : Int := (IntKind.i64.wrap (vc_nz_t0 n))
def vc_nz_t2 (n : Int) : Int := (IntKind.u64.wrap (vc_nz_t1 n))
def vc_nz_θ (n : Int) : Nat → Value := fun j => match j with
  | 0 => .int .i32 (vc_nz_t0 n)
  | 1 => .int .i64 (vc_nz_t1 n)
  | 2 => .int .u64 (vc_nz_t2 n)
  | _ => .bool false
theorem vc_nz_plain (n : Int) : ∀ j, plainV (vc_nz_θ n j) = true := by intro j; unfold vc_nz_θ; split <;> rfl
def vc_nz_r1 : List (U1 × Value × Value) := [((.conv .i64), (.chan (some 0)), (.chan (some 1))), ((.conv .u64), (.chan (some 1)), (.chan (some 2))), ((.conv .i64), (.chan (some 2)), (.chan (some 1)))]
theorem vc_nz_hr1 (n : Int) (hr_n : -2147483648 ≤ n ∧ n ≤ 2147483647) (hc0 : n ≠ 0) : ∀ p ∈ vc_nz_r1, Rule1 (vc_nz_θ n) p := by
  have f0 : vc_nz_t0 n = n := rfl
  have f1 : -9223372036854775808 ≤ vc_nz_t1 n ∧ vc_nz_t1 n < 9223372036854775808 ∧ ((vc_nz_t0 n) - vc_nz_t1 n) % 18446744073709551616 = 0 := w_i64 _
  have f2 : vc_nz_t2 n = (vc_nz_t1 n) % 18446744073709551616 := w_u64 _
  intro p hp
  simp only [vc_nz_r1, List.mem_cons, List.not_mem_nil, or_false] at hp
  rcases hp with rfl | rfl | rfl
  · exact ⟨rfl, rfl, congrArg (fun z => some (Value.int .i64 z)) (show IntKind.i64.wrap (vc_nz_t0 n) = (vc_nz_t1 n) from (by have g := w_i64 ((vc_nz_t0 n)); omega))⟩
  · exact ⟨rfl, rfl, congrArg (fun z => some (Value.int .u64 z)) (show IntKind.u64.wrap (vc_nz_t1 n) = (vc_nz_t2 n) from ((w_u64 _).trans (by omega)))⟩
  · exact ⟨rfl, rfl, congrArg (fun z => some (Value.int .i64 z)) (show IntKind.i64.wrap (vc_nz_t2 n) = (vc_nz_t1 n) from (by have g := w_i64 ((vc_nz_t2 n)); omega))⟩
def vc_nz_r2 : List (U2 × Value × Value × Value) := [((.bin .neq), (.chan (some 0)), (.int .i32 0), (.bool true)), ((.bin .eql), (.chan (some 0)), (.int .i32 0), (.bool false))]
theorem vc_nz_hr2 (n : Int) (hr_n : -2147483648 ≤ n ∧ n ≤ 2147483647) (hc0 : n ≠ 0) : ∀ p ∈ vc_nz_r2, Rule2 (vc_nz_θ n) p := by
  have f0 : vc_nz_t0 n = n := rfl
  have f1 : -9223372036854775808 ≤ vc_nz_t1 n ∧ vc_nz_t1 n < 9223372036854775808 ∧ ((vc_nz_t0 n) - vc_nz_t1 n) % 18446744073709551616 = 0 := w_i64 _
  have f2 : vc_nz_t2 n = (vc_nz_t1 n) % 18446744073709551616 := w_u64 _
  intro p hp
  simp only [vc_nz_r2, List.mem_cons, List.not_mem_nil, or_false] at hp
  rcases hp with rfl | rfl
  · exact ⟨rfl, rfl, rfl, congrArg (fun z => some (Value.bool z)) (show (!((vc_nz_t0 n) == (0))) = true from by rw [show ((vc_nz_t0 n) == (0)) = false from beq_eq_false_iff_ne.2 (by omega)]; rfl)⟩
  · exact ⟨rfl, rfl, rfl, congrArg (fun z => some (Value.bool z)) (show ((vc_nz_t0 n) == (0)) = false from beq_eq_false_iff_ne.2 (by omega))⟩
def vc_nz_re : List (Value × Value × Bool) := []
theorem vc_nz_hre (n : Int) (hr_n : -2147483648 ≤ n ∧ n ≤ 2147483647) (hc0 : n ≠ 0) : ∀ p ∈ vc_nz_re, RuleE (vc_nz_θ n) p := fun p hp => nomatch hp
abbrev vc_nz_sy (n : Int) (hr_n : -2147483648 ≤ n ∧ n ≤ 2147483647) (hc0 : n ≠ 0) : Sy := syOf (vc_nz_θ n) (vc_nz_plain n) vc_nz_r1 vc_nz_r2 vc_nz_re (vc_nz_hr1 n hr_n hc0) (vc_nz_hr2 n hr_n hc0) (vc_nz_hre n hr_n hc0)
def vc_nand0_t0 (n : Int) : Int := n
def vc_nand0_t1 (n : Int) : Int := (IntKind.i64.wrap (vc_nand0_t0 n))
def vc_nand0_t2 (n : Int) : Int := (IntKind.u64.wrap (vc_nand0_t1 n))
def vc_nand0_t3 (n : Int) : Int := (IntKind.u32.wrap (vc_nand0_t2 n))
def vc_nand0_t4 (n : Int) : Int := (IntKind.u64.wrap (vc_nand0_t3 n))
def vc_nand0_θ (n : Int) : Nat → Value := fun j => match j with
  | 0 => .int .i32 (vc_nand0_t0 n)
  | 1 => .int .i64 (vc_nand0_t1 n)
  | 2 => .int .u64 (vc_nand0_t2 n)
  | 3 => .int .u32 (vc_nand0_t3 n)
  | 4 => .int .u64 (vc_nand0_t4 n)
  | _ => .bool false
theorem vc_nand0_plain (n : Int) : ∀ j, plainV (vc_nand0_θ n j) = true := by intro j; unfold vc_nand0_θ; split <;> rfl
def vc_nand0_r1 : List (U1 × Value × Value) := [((.conv .i64), (.chan (some 0)), (.chan (some 1))), ((.conv .u64), (.chan (some 1)), (.chan (some 2))), ((.conv .i64), (.chan (some 2)), (.chan (some 1))), ((.conv .i32), (.chan (some 2)), (.chan (some 0))), ((.conv .u32), (.chan (some 2)), (.chan (some 3))), ((.conv .u64), (.chan (some 3)), (.chan (some 4)))]
theorem vc_nand0_hr1 (n : Int) (hr_n : -2147483648 ≤ n ∧ n ≤ 2147483647) (hc0 : n < 0) (hc1 : BitVec.ofInt 64 9 &&& BitVec.ofInt 64 n = 0) : ∀ p ∈ vc_nand0_r1, Rule1 (vc_nand0_θ n) p := by
  have f0 : vc_nand0_t0 n = n := rfl
  have f1 : -9223372036854775808 ≤ vc_nand0_t1 n ∧ vc_nand0_t1 n < 9223372036854775808 ∧ ((vc_nand0_t0 n) - vc_nand0_t1 n) % 18446744073709551616 = 0 := w_i64 _
  have f2 : vc_nand0_t2 n = (vc_nand0_t1 n) % 18446744073709551616 := w_u64 _
  have f3 : vc_nand0_t3 n = (vc_nand0_t2 n) % 4294967296 := w_u32 _
  have f4 : vc_nand0_t4 n = (vc_nand0_t3 n) % 18446744073709551616 := w_u64 _
  intro p hp
  simp only [vc_nand0_r1, List.mem_cons, List.not_mem_nil, or_false] at hp
  rcases hp with rfl | rfl | rfl | rfl | rfl | rfl
  · exact ⟨rfl, rfl, congrArg (fun z => some (Value.int .i64 z)) (show IntKind.i64.wrap (vc_nand0_t0 n) = (vc_nand0_t1 n) from (by have g := w_i64 ((vc_nand0_t0 n)); omega))⟩
  · exact ⟨rfl, rfl, congrArg (fun z => some (Value.int .u64 z)) (show IntKind.u64.wrap (vc_nand0_t1 n) = (vc_nand0_t2 n) from ((w_u64 _).trans (by omega)))⟩
  · exact ⟨rfl, rfl, congrArg (fun z => some (Value.int .i64 z)) (show IntKind.i64.wrap (vc_nand0_t2 n) = (vc_nand0_t1 n) from (by have g := w_i64 ((vc_nand0_t2 n)); omega))⟩
  · exact ⟨rfl, rfl, congrArg (fun z => some (Value.int .i32 z)) (show IntKind.i32.wrap (vc_nand0_t2 n) = (vc_nand0_t0 n) from (by have g := w_i32 ((vc_nand0_t2 n)); omega))⟩
  · exact ⟨rfl, rfl, congrArg (fun z => some (Value.int .u32 z)) (show IntKind.u32.wrap (vc_nand0_t2 n) = (vc_nand0_t3 n) from ((w_u32 _).trans (by omega)))⟩
  · exact ⟨rfl, rfl, congrArg (fun z => some (Value.int .u64 z)) (show IntKind.u64.wrap (vc_nand0_t3 n) = (vc_nand0_t4 n) from ((w_u64 _).trans (by omega)))⟩
def vc_nand0_r2 : List (U2 × Value × Value × Value) := [((.bin .and), (.chan (some 2)), (.int .u64 0), (.int .u64 0)), ((.bin .gtr), (.chan (some 2)), (.chan (some 2)), (.bool false)), ((.bin .gtr), (.chan (some 1)), (.chan (some 1)), (.bool false)), (.mx, (.chan (some 2)), (.chan (some 2)), (.chan (some 2))), ((.bin .or), (.chan (some 2)), (.int .u64 0), (.chan (some 2))), (.mn, (.chan (some 2)), (.chan (some 2)), (.chan (some 2))), ((.bin .leq), (.chan (some 1)), (.chan (some 1)), (.bool true)), (.mx, (.chan (some 1)), (.chan (some 1)), (.chan (some 1))), (.mn, (.chan (some 1)), (.chan (some 1)), (.chan (some 1))), ((.bin .geq), (.chan (some 1)), (.int .i64 0), (.bool false)), ((.bin .lss), (.chan (some 1)), (.int .i64 0), (.bool true)), ((.bin .xor), (.chan (some 2)), (.chan (some 2)), (.int .u64 0)), ((.bin .andNot), (.chan (some 2)), (.int .u64 0), (.chan (some 2))), ((.bin .or), (.chan (some 2)), (.chan (some 2)), (.chan (some 2))), ((.bin .and), (.int .u64 9), (.chan (some 2)), (.int .u64 0)), ((.bin .and), (.int .u64 9), (.chan (some 4)), (.int .u64 0))]
theorem vc_nand0_hr2 (n : Int) (hr_n : -2147483648 ≤ n ∧ n ≤ 2147483647) (hc0 : n < 0) (hc1 : BitVec.ofInt 64 9 &&& BitVec.ofInt 64 n = 0) : ∀ p ∈ vc_nand0_r2, Rule2 (vc_nand0_θ n) p := by
  have f0 : vc_nand0_t0 n = n := rfl
  have f1 : -9223372036854775808 ≤ vc_nand0_t1 n ∧ vc_nand0_t1 n < 9223372036854775808 ∧ ((vc_nand0_t0 n) - vc_nand0_t1 n) % 18446744073709551616 = 0 := w_i64 _
  have f2 : vc_nand0_t2 n = (vc_nand0_t1 n) % 18446744073709551616 := w_u64 _
  have f3 : vc_nand0_t3 n = (vc_nand0_t2 n) % 4294967296 := w_u32 _
  have f4 : vc_nand0_t4 n = (vc_nand0_t3 n) % 18446744073709551616 := w_u64 _
  intro p hp
  simp only [vc_nand0_r2, List.mem_cons, List.not_mem_nil, or_false] at hp
  rcases hp with rfl | rfl | rfl | rfl | rfl | rfl | rfl | rfl | rfl | rfl | rfl | rfl | rfl | rfl | rfl | rfl
  · exact ⟨rfl, rfl, rfl, congrArg (fun z => some (Value.int .u64 z)) (show IntKind.u64.wrap (BitVec.ofInt 64 (vc_nand0_t2 n) &&& BitVec.ofInt 64 (0)).toNat = (0) from b_and0 _)⟩
  · exact ⟨rfl, rfl, rfl, congrArg (fun z => some (Value.bool z)) (decide_eq_false (show ¬ ((vc_nand0_t2 n) > (vc_nand0_t2 n)) from by omega))⟩
  · exact ⟨rfl, rfl, rfl, congrArg (fun z => some (Value.bool z)) (decide_eq_false (show ¬ ((vc_nand0_t1 n) > (vc_nand0_t1 n)) from by omega))⟩
  · exact ⟨rfl, rfl, rfl, congrArg (fun z => some (Value.int .u64 z)) (show (if (vc_nand0_t2 n) > (vc_nand0_t2 n) then (vc_nand0_t2 n) else (vc_nand0_t2 n)) = (vc_nand0_t2 n) from by split <;> omega)⟩
  · exact ⟨rfl, rfl, rfl, congrArg (fun z => some (Value.int .u64 z)) (show IntKind.u64.wrap (BitVec.ofInt 64 (vc_nand0_t2 n) ||| BitVec.ofInt 64 (0)).toNat = (vc_nand0_t2 n) from b_or0 (by omega) (by omega))⟩
  · exact ⟨rfl, rfl, rfl, congrArg (fun z => some (Value.int .u64 z)) (show (if (vc_nand0_t2 n) < (vc_nand0_t2 n) then (vc_nand0_t2 n) else (vc_nand0_t2 n)) = (vc_nand0_t2 n) from by split <;> omega)⟩
  · exact ⟨rfl, rfl, rfl, congrArg (fun z => some (Value.bool z)) (decide_eq_true (show ((vc_nand0_t1 n) ≤ (vc_nand0_t1 n)) from by omega))⟩
  · exact ⟨rfl, rfl, rfl, congrArg (fun z => some (Value.int .i64 z)) (show (if (vc_nand0_t1 n) > (vc_nand0_t1 n) then (vc_nand0_t1 n) else (vc_nand0_t1 n)) = (vc_nand0_t1 n) from by split <;> omega)⟩
  · exact ⟨rfl, rfl, rfl, congrArg (fun z => some (Value.int .i64 z)) (show (if (vc_nand0_t1 n) < (vc_nand0_t1 n) then (vc_nand0_t1 n) else (vc_nand0_t1 n)) = (vc_nand0_t1 n) from by split <;> omega)⟩
  · exact ⟨rfl, rfl, rfl, congrArg (fun z => some (Value.bool z)) (decide_eq_false (show ¬ ((vc_nand0_t1 n) ≥ (0)) from by omega))⟩
  · exact ⟨rfl, rfl, rfl, congrArg (fun z => some (Value.bool z)) (decide_eq_true (show ((vc_nand0_t1 n) < (0)) from by omega))⟩
  · exact ⟨rfl, rfl, rfl, congrArg (fun z => some (Value.int .u64 z)) (show IntKind.u64.wrap (BitVec.ofInt 64 (vc_nand0_t2 n) ^^^ BitVec.ofInt 64 (vc_nand0_t2 n)).toNat = (0) from b_xoro _)⟩
  · exact ⟨rfl, rfl, rfl, congrArg (fun z => some (Value.int .u64 z)) (show IntKind.u64.wrap (BitVec.ofInt 64 (vc_nand0_t2 n) &&& ~~~BitVec.ofInt 64 (0)).toNat = (vc_nand0_t2 n) from b_andNot0 (by omega) (by omega))⟩
  · exact ⟨rfl, rfl, rfl, congrArg (fun z => some (Value.int .u64 z)) (show IntKind.u64.wrap (BitVec.ofInt 64 (vc_nand0_t2 n) ||| BitVec.ofInt 64 (vc_nand0_t2 n)).toNat = (vc_nand0_t2 n) from b_oro (by omega) (by omega))⟩
  · exact ⟨rfl, rfl, rfl, congrArg (fun z => some (Value.int .u64 z)) (show IntKind.u64.wrap (BitVec.ofInt 64 (9) &&& BitVec.ofInt 64 (vc_nand0_t2 n)).toNat = (0) from and9_rule hc1 (by omega) rfl)⟩
  · exact ⟨rfl, rfl, rfl, congrArg (fun z => some (Value.int .u64 z)) (show IntKind.u64.wrap (BitVec.ofInt 64 (9) &&& BitVec.ofInt 64 (vc_nand0_t4 n)).toNat = (0) from and9_rule hc1 (by omega) rfl)⟩
def vc_nand0_re : List (Value × Value × Bool) := [((.chan (some 2)), (.chan (some 2)), true), ((.chan (some 1)), (.chan (some 1)), true)]
theorem vc_nand0_hre (n : Int) (hr_n : -2147483648 ≤ n ∧ n ≤ 2147483647) (hc0 : n < 0) (hc1 : BitVec.ofInt 64 9 &&& BitVec.ofInt 64 n = 0) : ∀ p ∈ vc_nand0_re, RuleE (vc_nand0_θ n) p := by
  have f0 : vc_nand0_t0 n = n := rfl
  have f1 : -9223372036854775808 ≤ vc_nand0_t1 n ∧ vc_nand0_t1 n < 9223372036854775808 ∧ ((vc_nand0_t0 n) - vc_nand0_t1 n) % 18446744073709551616 = 0 := w_i64 _
  have f2 : vc_nand0_t2 n = (vc_nand0_t1 n) % 18446744073709551616 := w_u64 _
  have f3 : vc_nand0_t3 n = (vc_nand0_t2 n) % 4294967296 := w_u32 _
  have f4 : vc_nand0_t4 n = (vc_nand0_t3 n) % 18446744073709551616 := w_u64 _
  intro p hp
  simp only [vc_nand0_re, List.mem_cons, List.not_mem_nil, or_false] at hp
  rcases hp with rfl | rfl
  · exact ⟨rfl, rfl, .u64, (vc_nand0_t2 n), (vc_nand0_t2 n), rfl, rfl, (show ((vc_nand0_t2 n) == (vc_nand0_t2 n)) = true from beq_iff_eq.2 (by omega)).symm⟩
  · exact ⟨rfl, rfl, .i64, (vc_nand0_t1 n), (vc_nand0_t1 n), rfl, rfl, (show ((vc_nand0_t1 n) == (vc_nand0_t1 n)) = true from beq_iff_eq.2 (by omega)).symm⟩
abbrev vc_nand0_sy (n : Int) (hr_n : -2147483648 ≤ n ∧ n ≤ 2147483647) (hc0 : n < 0) (hc1 : BitVec.ofInt 64 9 &&& BitVec.ofInt 64 n = 0) : Sy := syOf (vc_nand0_θ n) (vc_nand0_plain n) vc_nand0_r1 vc_nand0_r2 vc_nand0_re (vc_nand0_hr1 n hr_n hc0 hc1) (vc_nand0_hr2 n hr_n hc0 hc1) (vc_nand0_hre n hr_n hc0 hc1)
def vc_pand0_t0 (n : Int) : Int := n
def vc_pand0_t1 (n : Int) : Int := (IntKind.i64.wrap (vc_pand0_t0 n))
def vc_pand0_t2 (n : Int) : Int := (IntKind.u64.wrap (vc_pand0_t1 n))
def vc_pand0_t3 (n : Int) : Int := (IntKind.u32.wrap (vc_pand0_t2 n))
def vc_pand0_θ (n : Int) : Nat → Value := fun j => match j with
  | 0 => .int .i32 (vc_pand0_t0 n)
  | 1 => .int .i64 (vc_pand0_t1 n)
  | 2 => .int .u64 (vc_pand0_t2 n)
  | 3 => .int .u32 (vc_pand0_t3 n)
  | _ => .bool false
theorem vc_pand0_plain (n : Int) : ∀ j, plainV (vc_pand0_θ n j) = true := by intro j; unfold vc_pand0_θ; split <;> rfl
def vc_pand0_r1 : List (U1 × Value × Value) := [((.conv .i64), (.chan (some 0)), (.chan (some 1))), ((.conv .u64), (.chan (some 1)), (.chan (some 2))), ((.conv .i64), (.chan (some 2)), (.chan (some 1))), ((.conv .i32), (.chan (some 2)), (.chan (some 0))), ((.conv .u32), (.chan (some 2)), (.chan (some 3))), ((.conv .u64), (.chan (some 3)), (.chan (some 2)))]
theorem vc_pand0_hr1 (n : Int) (hr_n : -2147483648 ≤ n ∧ n ≤ 2147483647) (hc0 : 0 ≤ n) (hc1 : BitVec.ofInt 64 9 &&& BitVec.ofInt 64 n = 0) : ∀ p ∈ vc_pand0_r1, Rule1 (vc_pand0_θ n) p := by
  have f0 : vc_pand0_t0 n = n := rfl
  have f1 : -9223372036854775808 ≤ vc_pand0_t1 n ∧ vc_pand0_t1 n < 9223372036854775808 ∧ ((vc_pand0_t0 n) - vc_pand0_t1 n) % 18446744073709551616 = 0 := w_i64 _
  have f2 : vc_pand0_t2 n = (vc_pand0_t1 n) % 18446744073709551616 := w_u64 _
  have f3 : vc_pand0_t3 n = (vc_pand0_t2 n) % 4294967296 := w_u32 _
  intro p hp
  simp only [vc_pand0_r1, List.mem_cons, List.not_mem_nil, or_false] at hp
  rcases hp with rfl | rfl | rfl | rfl | rfl | rfl
  · exact ⟨rfl, rfl, congrArg (fun z => some (Value.int .i64 z)) (show IntKind.i64.wrap (vc_pand0_t0 n) = (vc_pand0_t1 n) from (by have g := w_i64 ((vc_pand0_t0 n)); omega))⟩
  · exact ⟨rfl, rfl, congrArg (fun z => some (Value.int .u64 z)) (show IntKind.u64.wrap (vc_pand0_t1 n) = (vc_pand0_t2 n) from ((w_u64 _).trans (by omega)))⟩
  · exact ⟨rfl, rfl, congrArg (fun z => some (Value.int .i64 z)) (show IntKind.i64.wrap (vc_pand0_t2 n) = (vc_pand0_t1 n) from (by have g := w_i64 ((vc_pand0_t2 n)); omega))⟩
  · exact ⟨rfl, rfl, congrArg (fun z => some (Value.int .i32 z)) (show IntKind.i32.wrap (vc_pand0_t2 n) = (vc_pand0_t0 n) from (by have g := w_i32 ((vc_pand0_t2 n)); omega))⟩
  · exact ⟨rfl, rfl, congrArg (fun z => some (Value.int .u32 z)) (show IntKind.u32.wrap (vc_pand0_t2 n) = (vc_pand0_t3 n) from ((w_u32 _).trans (by omega)))⟩
  · exact ⟨rfl, rfl, congrArg (fun z => some (Value.int .u64 z)) (show IntKind.u64.wrap (vc_pand0_t3 n) = (vc_pand0_t2 n) from ((w_u64 _).trans (by omega)))⟩
def vc_pand0_r2 : List (U2 × Value × Value × Value) := [((.bin .and), (.chan (some 2)), (.int .u64 0), (.int .u64 0)), ((.bin .gtr), (.chan (some 2)), (.chan (some 2)), (.bool false)), ((.bin .gtr), (.chan (some 1)), (.chan (some 1)), (.bool false)), (.mx, (.chan (some 2)), (.chan (some 2)), (.chan (some 2))), ((.bin .or), (.chan (some 2)), (.int .u64 0), (.chan (some 2))), (.mn, (.chan (some 2)), (.chan (some 2)), (.chan (some 2))), ((.bin .leq), (.chan (some 1)), (.chan (some 1)), (.bool true)), (.mx, (.chan (some 1)), (.chan (some 1)), (.chan (some 1))), (.mn, (.chan (some 1)), (.chan (some 1)), (.chan (some 1))), ((.bin .geq), (.chan (some 1)), (.int .i64 0), (.bool true)), ((.bin .xor), (.chan (some 2)), (.chan (some 2)), (.int .u64 0)), ((.bin .andNot), (.chan (some 2)), (.int .u64 0), (.chan (some 2))), ((.bin .or), (.chan (some 2)), (.chan (some 2)), (.chan (some 2))), ((.bin .and), (.int .u64 9), (.chan (some 2)), (.int .u64 0))]
theorem vc_pand0_hr2 (n : Int) (hr_n : -2147483648 ≤ n ∧ n ≤ 2147483647) (hc0 : 0 ≤ n) (hc1 : BitVec.ofInt 64 9 &&& BitVec.ofInt 64 n = 0) : ∀ p ∈ vc_pand0_r2, Rule2 (vc_pand0_θ n) p := by
  have f0 : vc_pand0_t0 n = n := rfl
  have f1 : -9223372036854775808 ≤ vc_pand0_t1 n ∧ vc_pand0_t1 n < 9223372036854775808 ∧ ((vc_pand0_t0 n) - vc_pand0_t1 n) % 18446744073709551616 = 0 := w_i64 _
  have f2 : vc_pand0_t2 n = (vc_pand0_t1 n) % 18446744073709551616 := w_u64 _
  have f3 : vc_pand0_t3 n = (vc_pand0_t2 n) % 4294967296 := w_u32 _
  intro p hp
  simp only [vc_pand0_r2, List.mem_cons, List.not_mem_nil, or_false] at hp
  rcases hp with rfl | rfl | rfl | rfl | rfl | rfl | rfl | rfl | rfl | rfl | rfl | rfl | rfl | rfl
  · exact ⟨rfl, rfl, rfl, congrArg (fun z => some (Value.int .u64 z)) (show IntKind.u64.wrap (BitVec.ofInt 64 (vc_pand0_t2 n) &&& BitVec.ofInt 64 (0)).toNat = (0) from b_and0 _)⟩
  · exact ⟨rfl, rfl, rfl, congrArg (fun z => some (Value.bool z)) (decide_eq_false (show ¬ ((vc_pand0_t2 n) > (vc_pand0_t2 n)) from by omega))⟩
  · exact ⟨rfl, rfl, rfl, congrArg (fun z => some (Value.bool z)) (decide_eq_false (show ¬ ((vc_pand0_t1 n) > (vc_pand0_t1 n)) from by omega))⟩
  · exact ⟨rfl, rfl, rfl, congrArg (fun z => some (Value.int .u64 z)) (show (if (vc_pand0_t2 n) > (vc_pand0_t2 n) then (vc_pand0_t2 n) else (vc_pand0_t2 n)) = (vc_pand0_t2 n) from by split <;> omega)⟩
  · exact ⟨rfl, rfl, rfl, congrArg (fun z => some (Value.int .u64 z)) (show IntKind.u64.wrap (BitVec.ofInt 64 (vc_pand0_t2 n) ||| BitVec.ofInt 64 (0)).toNat = (vc_pand0_t2 n) from b_or0 (by omega) (by omega))⟩
  · exact ⟨rfl, rfl, rfl, congrArg (fun z => some (Value.int .u64 z)) (show (if (vc_pand0_t2 n) < (vc_pand0_t2 n) then (vc_pand0_t2 n) else (vc_pand0_t2 n)) = (vc_pand0_t2 n) from by split <;> omega)⟩
  · exact ⟨rfl, rfl, rfl, congrArg (fun z => some (Value.bool z)) (decide_eq_true (show ((vc_pand0_t1 n) ≤ (vc_pand0_t1 n)) from by omega))⟩
  · exact ⟨rfl, rfl, rfl, congrArg (fun z => some (Value.int .i64 z)) (show (if (vc_pand0_t1 n) > (vc_pand0_t1 n) then (vc_pand0_t1 n) else (vc_pand0_t1 n)) = (vc_pand0_t1 n) from by split <;> omega)⟩
  · exact ⟨rfl, rfl, rfl, congrArg (fun z => some (Value.int .i64 z)) (show (if (vc_pand0_t1 n) < (vc_pand0_t1 n) then (vc_pand0_t1 n) else (vc_pand0_t1 n)) = (vc_pand0_t1 n) from by split <;> omega)⟩
  · exact ⟨rfl, rfl, rfl, congrArg (fun z => some (Value.bool z)) (decide_eq_true (show ((vc_pand0_t1 n) ≥ (0)) from by omega))⟩
  · exact ⟨rfl, rfl, rfl, congrArg (fun z => some (Value.int .u64 z)) (show IntKind.u64.wrap (BitVec.ofInt 64 (vc_pand0_t2 n) ^^^ BitVec.ofInt 64 (vc_pand0_t2 n)).toNat = (0) from b_xoro _)⟩
  · exact ⟨rfl, rfl, rfl, congrArg (fun z => some (Value.int .u64 z)) (show IntKind.u64.wrap (BitVec.ofInt 64 (vc_pand0_t2 n) &&& ~~~BitVec.ofInt 64 (0)).toNat = (vc_pand0_t2 n) from b_andNot0 (by omega) (by omega))⟩
  · exact ⟨rfl, rfl, rfl, congrArg (fun z => some (Value.int .u64 z)) (show IntKind.u64.wrap (BitVec.ofInt 64 (vc_pand0_t2 n) ||| BitVec.ofInt 64 (vc_pand0_t2 n)).toNat = (vc_pand0_t2 n) from b_oro (by omega) (by omega))⟩
  · exact ⟨rfl, rfl, rfl, congrArg (fun z => some (Value.int .u64 z)) (show IntKind.u64.wrap (BitVec.ofInt 64 (9) &&& BitVec.ofInt 64 (vc_pand0_t2 n)).toNat = (0) from and9_rule hc1 (by omega) rfl)⟩
def vc_pand0_re : List (Value × Value × Bool) := [((.chan (some 2)), (.chan (some 2)), true), ((.chan (some 1)), (.chan (some 1)), true)]
theorem vc_pand0_hre (n : Int) (hr_n : -2147483648 ≤ n ∧ n ≤ 2147483647) (hc0 : 0 ≤ n) (hc1 : BitVec.ofInt 64 9 &&& BitVec.ofInt 64 n = 0) : ∀ p ∈ vc_pand0_re, RuleE (vc_pand0_θ n) p := by
  have f0 : vc_pand0_t0 n = n := rfl
  have f1 : -9223372036854775808 ≤ vc_pand0_t1 n ∧ vc_pand0_t1 n < 9223372036854775808 ∧ ((vc_pand0_t0 n) - vc_pand0_t1 n) % 18446744073709551616 = 0 := w_i64 _
  have f2 : vc_pand0_t2 n = (vc_pand0_t1 n) % 18446744073709551616 := w_u64 _
  have f3 : vc_pand0_t3 n = (vc_pand0_t2 n) % 4294967296 := w_u32 _
  intro p hp
  simp only [vc_pand0_re, List.mem_cons, List.not_mem_nil, or_false] at hp
  rcases hp with rfl | rfl
  · exact ⟨rfl, rfl, .u64, (vc_pand0_t2 n), (vc_pand0_t2 n), rfl, rfl, (show ((vc_pand0_t2 n) == (vc_pand0_t2 n)) = true from beq_iff_eq.2 (by omega)).symm⟩
  · exact ⟨rfl, rfl, .i64, (vc_pand0_t1 n), (vc_pand0_t1 n), rfl, rfl, (show ((vc_pand0_t1 n) == (vc_pand0_t1 n)) = true from beq_iff_eq.2 (by omega)).symm⟩
abbrev vc_pand0_sy (n : Int) (hr_n : -2147483648 ≤ n ∧ n ≤ 2147483647) (hc0 : 0 ≤ n) (hc1 : BitVec.ofInt 64 9 &&& BitVec.ofInt 64 n = 0) : Sy := syOf (vc_pand0_θ n) (vc_pand0_plain n) vc_pand0_r1 vc_pand0_r2 vc_pand0_re (vc_pand0_hr1 n hr_n hc0 hc1) (vc_pand0_hr2 n hr_n hc0 hc1) (vc_pand0_hre n hr_n hc0 hc1)
def vc_nand1_t0 (n : Int) : Int := n
def vc_nand1_t1 (n : Int) : Int := (IntKind.i64.wrap (vc_nand1_t0 n))
def vc_nand1_t2 (n : Int) : Int := (IntKind.u64.wrap (vc_nand1_t1 n))
def vc_nand1_t3 (n : Int) : Int := (IntKind.u32.wrap (vc_nand1_t2 n))
def vc_nand1_t4 (n : Int) : Int := (IntKind.u64.wrap (vc_nand1_t3 n))
def vc_nand1_θ (n : Int) : Nat → Value := fun j => match j with
  | 0 => .int .i32 (vc_nand1_t0 n)
  | 1 => .int .i64 (vc_nand1_t1 n)
  | 2 => .int .u64 (vc_nand1_t2 n)
  | 3 => .int .u32 (vc_nand1_t3 n)
  | 4 => .int .u64 (vc_nand1_t4 n)
  | _ => .bool false
theorem vc_nand1_plain (n : Int) : ∀ j, plainV (vc_nand1_θ n j) = true := by intro j; unfold vc_nand1_θ; split <;> rfl
def vc_nand1_r1 : List (U1 × Value × Value) := [((.conv .i64), (.chan (some 0)), (.chan (some 1))), ((.conv .u64), (.chan (some 1)), (.chan (some 2))), ((.conv .i64), (.chan (some 2)), (.chan (some 1))), ((.conv .i32), (.chan (some 2)), (.chan (some 0))), ((.conv .u32), (.chan (some 2)), (.chan (some 3))), ((.conv .u64), (.chan (some 3)), (.chan (some 4)))]
theorem vc_nand1_hr1 (n : Int) (hr_n : -2147483648 ≤ n ∧ n ≤ 2147483647) (hc0 : n < 0) (hc1 : BitVec.ofInt 64 9 &&& BitVec.ofInt 64 n = 1) : ∀ p ∈ vc_nand1_r1, Rule1 (vc_nand1_θ n) p := by
  have f0 : vc_nand1_t0 n = n := rfl
  have f1 : -9223372036854775808 ≤ vc_nand1_t1 n ∧ vc_nand1_t1 n < 9223372036854775808 ∧ ((vc_nand1_t0 n) - vc_nand1_t1 n) % 18446744073709551616 = 0 := w_i64 _
  have f2 : vc_nand1_t2 n = (vc_nand1_t1 n) % 18446744073709551616 := w_u64 _
  have f3 : vc_nand1_t3 n = (vc_nand1_t2 n) % 4294967296 := w_u32 _
  have f4 : vc_nand1_t4 n = (vc_nand1_t3 n) % 18446744073709551616 := w_u64 _
  intro p hp
  simp only [vc_nand1_r1, List.mem_cons, List.not_mem_nil, or_false] at hp
  rcases hp with rfl | rfl | rfl | rfl | rfl | rfl
  · exact ⟨rfl, rfl, congrArg (fun z => some (Value.int .i64 z)) (show IntKind.i64.wrap (vc_nand1_t0 n) = (vc_nand1_t1 n) from (by have g := w_i64 ((vc_nand1_t0 n)); omega))⟩
  · exact ⟨rfl, rfl, congrArg (fun z => some (Value.int .u64 z)) (show IntKind.u64.wrap (vc_nand1_t1 n) = (vc_nand1_t2 n) from ((w_u64 _).trans (by omega)))⟩
  · exact ⟨rfl, rfl, congrArg (fun z => some (Value.int .i64 z)) (show IntKind.i64.wrap (vc_nand1_t2 n) = (vc_nand1_t1 n) from (by have g := w_i64 ((vc_nand1_t2 n)); omega))⟩
  · exact ⟨rfl, rfl, congrArg (fun z => some (Value.int .i32 z)) (show IntKind.i32.wrap (vc_nand1_t2 n) = (vc_nand1_t0 n) from (by have g := w_i32 ((vc_nand1_t2 n)); omega))⟩
  · exact ⟨rfl, rfl, congrArg (fun z => some (Value.int .u32 z)) (show IntKind.u32.wrap (vc_nand1_t2 n) = (vc_nand1_t3 n) from ((w_u32 _).trans (by omega)))⟩
  · exact ⟨rfl, rfl, congrArg (fun z => some (Value.int .u64 z)) (show IntKind.u64.wrap (vc_nand1_t3 n) = (vc_nand1_t4 n) from ((w_u64 _).trans (by omega)))⟩
def vc_nand1_r2 : List (U2 × Value × Value × Value) := [((.bin .and), (.chan (some 2)), (.int .u64 0), (.int .u64 0)), ((.bin .gtr), (.chan (some 2)), (.chan (some 2)), (.bool false)), ((.bin .gtr), (.chan (some 1)), (.chan (some 1)), (.bool false)), (.mx, (.chan (some 2)), (.chan (some 2)), (.chan (some 2))), ((.bin .or), (.chan (some 2)), (.int .u64 0), (.chan (some 2))), (.mn, (.chan (some 2)), (.chan (some 2)), (.chan (some 2))), ((.bin .leq), (.chan (some 1)), (.chan (some 1)), (.bool true)), (.mx, (.chan (some 1)), (.chan (some 1)), (.chan (some 1))), (.mn, (.chan (some 1)), (.chan (some 1)), (.chan (some 1))), ((.bin .geq), (.chan (some 1)), (.int .i64 0), (.bool false)), ((.bin .lss), (.chan (some 1)), (.int .i64 0), (.bool true)), ((.bin .xor), (.chan (some 2)), (.chan (some 2)), (.int .u64 0)), ((.bin .andNot), (.chan (some 2)), (.int .u64 0), (.chan (some 2))), ((.bin .or), (.chan (some 2)), (.chan (some 2)), (.chan (some 2))), ((.bin .and), (.int .u64 9), (.chan (some 2)), (.int .u64 1)), ((.bin .and), (.int .u64 9), (.chan (some 4)), (.int .u64 1))]
theorem vc_nand1_hr2 (n : Int) (hr_n : -2147483648 ≤ n ∧ n ≤ 2147483647) (hc0 : n < 0) (hc1 : BitVec.ofInt 64 9 &&& BitVec.ofInt 64 n = 1) : ∀ p ∈ vc_nand1_r2, Rule2 (vc_nand1_θ n) p := by
  have f0 : vc_nand1_t0 n = n := rfl
  have f1 : -9223372036854775808 ≤ vc_nand1_t1 n ∧ vc_nand1_t1 n < 9223372036854775808 ∧ ((vc_nand1_t0 n) - vc_nand1_t1 n) % 18446744073709551616 = 0 := w_i64 _
  have f2 : vc_nand1_t2 n = (vc_nand1_t1 n) % 18446744073709551616 := w_u64 _
  have f3 : vc_nand1_t3 n = (vc_nand1_t2 n) % 4294967296 := w_u32 _
  have f4 : vc_nand1_t4 n = (vc_nand1_t3 n) % 18446744073709551616 := w_u64 _
  intro p hp
  simp only [vc_nand1_r2, List.mem_cons, List.not_mem_nil, or_false] at hp
  rcases hp with rfl | rfl | rfl | rfl | rfl | rfl | rfl | rfl | rfl | rfl | rfl | rfl | rfl | rfl | rfl | rfl
  · exact ⟨rfl, rfl, rfl, congrArg (fun z => some (Value.int .u64 z)) (show IntKind.u64.wrap (BitVec.ofInt 64 (vc_nand1_t2 n) &&& BitVec.ofInt 64 (0)).toNat = (0) from b_and0 _)⟩
  · exact ⟨rfl, rfl, rfl, congrArg (fun z => some (Value.bool z)) (decide_eq_false (show ¬ ((vc_nand1_t2 n) > (vc_nand1_t2 n)) from by omega))⟩
  · exact ⟨rfl, rfl, rfl, congrArg (fun z => some (Value.bool z)) (decide_eq_false (show ¬ ((vc_nand1_t1 n) > (vc_nand1_t1 n)) from by omega))⟩
  · exact ⟨rfl, rfl, rfl, congrArg (fun z => some (Value.int .u64 z)) (show (if (vc_nand1_t2 n) > (vc_nand1_t2 n) then (vc_nand1_t2 n) else (vc_nand1_t2 n)) = (vc_nand1_t2 n) from by split <;> omega)⟩
  · exact ⟨rfl, rfl, rfl, congrArg (fun z => some (Value.int .u64 z)) (show IntKind.u64.wrap (BitVec.ofInt 64 (vc_nand1_t2 n) ||| BitVec.ofInt 64 (0)).toNat = (vc_nand1_t2 n) from b_or0 (by omega) (by omega))⟩
  · exact ⟨rfl, rfl, rfl, congrArg (fun z => some (Value.int .u64 z)) (show (if (vc_nand1_t2 n) < (vc_nand1_t2 n) then (vc_nand1_t2 n) else (vc_nand1_t2 n)) = (vc_nand1_t2 n) from by split <;> omega)⟩
  · exact ⟨rfl, rfl, rfl, congrArg (fun z => some (Value.bool z)) (decide_eq_true (show ((vc_nand1_t1 n) ≤ (vc_nand1_t1 n)) from by omega))⟩
  · exact ⟨rfl, rfl, rfl, congrArg (fun z => some (Value.int .i64 z)) (show (if (vc_nand1_t1 n) > (vc_nand1_t1 n) then (vc_nand1_t1 n) else (vc_nand1_t1 n)) = (vc_nand1_t1 n) from by split <;> omega)⟩
  · exact ⟨rfl, rfl, rfl, congrArg (fun z => some (Value.int .i64 z)) (show (if (vc_nand1_t1 n) < (vc_nand1_t1 n) then (vc_nand1_t1 n) else (vc_nand1_t1 n)) = (vc_nand1_t1 n) from by split <;> omega)⟩
  · exact ⟨rfl, rfl, rfl, congrArg (fun z => some (Value.bool z)) (decide_eq_false (show ¬ ((vc_nand1_t1 n) ≥ (0)) from by omega))⟩
  · exact ⟨rfl, rfl, rfl, congrArg (fun z => some (Value.bool z)) (decide_eq_true (show ((vc_nand1_t1 n) < (0)) from by omega))⟩
  · exact ⟨rfl, rfl, rfl, congrArg (fun z => some (Value.int .u64 z)) (show IntKind.u64.wrap (BitVec.ofInt 64 (vc_nand1_t2 n) ^^^ BitVec.ofInt 64 (vc_nand1_t2 n)).toNat = (0) from b_xoro _)⟩
  · exact ⟨rfl, rfl, rfl, congrArg (fun z => some (Value.int .u64 z)) (show IntKind.u64.wrap (BitVec.ofInt 64 (vc_nand1_t2 n) &&& ~~~BitVec.ofInt 64 (0)).toNat = (vc_nand1_t2 n) from b_andNot0 (by omega) (by omega))⟩
  · exact ⟨rfl, rfl, rfl, congrArg (fun z => some (Value.int .u64 z)) (show IntKind.u64.wrap (BitVec.ofInt 64 (vc_nand1_t2 n) ||| BitVec.ofInt 64 (vc_nand1_t2 n)).toNat = (vc_nand1_t2 n) from b_oro (by omega) (by omega))⟩
  · exact ⟨rfl, rfl, rfl, congrArg (fun z => some (Value.int .u64 z)) (show IntKind.u64.wrap (BitVec.ofInt 64 (9) &&& BitVec.ofInt 64 (vc_nand1_t2 n)).toNat = (1) from and9_rule hc1 (by omega) rfl)⟩
  · exact ⟨rfl, rfl, rfl, congrArg (fun z => some (Value.int .u64 z)) (show IntKind.u64.wrap (BitVec.ofInt 64 (9) &&& BitVec.ofInt 64 (vc_nand1_t4 n)).toNat = (1) from and9_rule hc1 (by omega) rfl)⟩
def vc_nand1_re : List (Value × Value × Bool) := [((.chan (some 2)), (.chan (some 2)), true), ((.chan (some 1)), (.chan (some 1)), true)]
theorem vc_nand1_hre (n : Int) (hr_n : -2147483648 ≤ n ∧ n ≤ 2147483647) (hc0 : n < 0) (hc1 : BitVec.ofInt 64 9 &&& BitVec.ofInt 64 n = 1) : ∀ p ∈ vc_nand1_re, RuleE (vc_nand1_θ n) p := by
  have f0 : vc_nand1_t0 n = n := rfl
  have f1 : -9223372036854775808 ≤ vc_nand1_t1 n ∧ vc_nand1_t1 n < 9223372036854775808 ∧ ((vc_nand1_t0 n) - vc_nand1_t1 n) % 18446744073709551616 = 0 := w_i64 _
  have f2 : vc_nand1_t2 n = (vc_nand1_t1 n) % 18446744073709551616 := w_u64 _
  have f3 : vc_nand1_t3 n = (vc_nand1_t2 n) % 4294967296 := w_u32 _
  have f4 : vc_nand1_t4 n = (vc_nand1_t3 n) % 18446744073709551616 := w_u64 _
  intro p hp
  simp only [vc_nand1_re, List.mem_cons, List.not_mem_nil, or_false] at hp
  rcases hp with rfl | rfl
  · exact ⟨rfl, rfl, .u64, (vc_nand1_t2 n), (vc_nand1_t2 n), rfl, rfl, (show ((vc_nand1_t2 n) == (vc_nand1_t2 n)) = true from beq_iff_eq.2 (by omega)).symm⟩
  · exact ⟨rfl, rfl, .i64, (vc_nand1_t1 n), (vc_nand1_t1 n), rfl, rfl, (show ((vc_nand1_t1 n) == (vc_nand1_t1 n)) = true from beq_iff_eq.2 (by omega)).symm⟩
abbrev vc_nand1_sy (n : Int) (hr_n : -2147483648 ≤ n ∧ n ≤ 2147483647) (hc0 : n < 0) (hc1 : BitVec.ofInt 64 9 &&& BitVec.ofInt 64 n = 1) : Sy := syOf (vc_nand1_θ n) (vc_nand1_plain n) vc_nand1_r1 vc_nand1_r2 vc_nand1_re (vc_nand1_hr1 n hr_n hc0 hc1) (vc_nand1_hr2 n hr_n hc0 hc1) (vc_nand1_hre n hr_n hc0 hc1)
def vc_pand1_t0 (n : Int) : Int := n
def vc_pand1_t1 (n : Int) : Int := (IntKind.i64.wrap (vc_pand1_t0 n))
def vc_pand1_t2 (n : Int) : Int := (IntKind.u64.wrap (vc_pand1_t1 n))
def vc_pand1_t3 (n : Int) : Int := (IntKind.u32.wrap (vc_pand1_t2 n))
def vc_pand1_θ (n : Int) : Nat → Value := fun j => match j with
  | 0 => .int .i32 (vc_pand1_t0 n)
  | 1 => .int .i64 (vc_pand1_t1 n)
  | 2 => .int .u64 (vc_pand1_t2 n)
  | 3 => .int .u32 (vc_pand1_t3 n)
  | _ => .bool false
theorem vc_pand1_plain (n : Int) : ∀ j, plainV (vc_pand1_θ n j) = true := by intro j; unfold vc_pand1_θ; split <;> rfl
def vc_pand1_r1 : List (U1 × Value × Value) := [((.conv .i64), (.chan (some 0)), (.chan (some 1))), ((.conv .u64), (.chan (some 1)), (.chan (some 2))), ((.conv .i64), (.chan (some 2)), (.chan (some 1))), ((.conv .i32), (.chan (some 2)), (.chan (some 0))), ((.conv .u32), (.chan (some 2)), (.chan (some 3))), ((.conv .u64), (.chan (some 3)), (.chan (some 2)))]
theorem vc_pand1_hr1 (n : Int) (hr_n : -2147483648 ≤ n ∧ n ≤ 2147483647) (hc0 : 0 ≤ n) (hc1 : BitVec.ofInt 64 9 &&& BitVec.ofInt 64 n = 1) : ∀ p ∈ vc_pand1_r1, Rule1 (vc_pand1_θ n) p := by
  have f0 : vc_pand1_t0 n = n := rfl
  have f1 : -9223372036854775808 ≤ vc_pand1_t1 n ∧ vc_pand1_t1 n < 9223372036854775808 ∧ ((vc_pand1_t0 n) - vc_pand1_t1 n) % 18446744073709551616 = 0 := w_i64 _
  have f2 : vc_pand1_t2 n = (vc_pand1_t1 n) % 18446744073709551616 := w_u64 _
  have f3 : vc_pand1_t3 n = (vc_pand1_t2 n) % 4294967296 := w_u32 _
  intro p hp
  simp only [vc_pand1_r1, List.mem_cons, List.not_mem_nil, or_false] at hp
  rcases hp with rfl | rfl | rfl | rfl | rfl | rfl
  · exact ⟨rfl, rfl, congrArg (fun z => some (Value.int .i64 z)) (show IntKind.i64.wrap (vc_pand1_t0 n) = (vc_pand1_t1 n) from (by have g := w_i64 ((vc_pand1_t0 n)); omega))⟩
  · exact ⟨rfl, rfl, congrArg (fun z => some (Value.int .u64 z)) (show IntKind.u64.wrap (vc_pand1_t1 n) = (vc_pand1_t2 n) from ((w_u64 _).trans (by omega)))⟩
  · exact ⟨rfl, rfl, congrArg (fun z => some (Value.int .i64 z)) (show IntKind.i64.wrap (vc_pand1_t2 n) = (vc_pand1_t1 n) from (by have g := w_i64 ((vc_pand1_t2 n)); omega))⟩
  · exact ⟨rfl, rfl, congrArg (fun z => some (Value.int .i32 z)) (show IntKind.i32.wrap (vc_pand1_t2 n) = (vc_pand1_t0 n) from (by have g := w_i32 ((vc_pand1_t2 n)); omega))⟩
  · exact ⟨rfl, rfl, congrArg (fun z => some (Value.int .u32 z)) (show IntKind.u32.wrap (vc_pand1_t2 n) = (vc_pand1_t3 n) from ((w_u32 _).trans (by omega)))⟩
  · exact ⟨rfl, rfl, congrArg (fun z => some (Value.int .u64 z)) (show IntKind.u64.wrap (vc_pand1_t3 n) = (vc_pand1_t2 n) from ((w_u64 _).trans (by omega)))⟩
def vc_pand1_r2 : List (U2 × Value × Value × Value) := [((.bin .and), (.chan (some 2)), (.int .u64 0), (.int .u64 0)), ((.bin .gtr), (.chan (some 2)), (.chan (some 2)), (.bool false)), ((.bin .gtr), (.chan (some 1)), (.chan (some 1)), (.bool false)), (.mx, (.chan (some 2)), (.chan (some 2)), (.chan (some 2))), ((.bin .or), (.chan (some 2)), (.int .u64 0), (.chan (some 2))), (.mn, (.chan (some 2)), (.chan (some 2)), (.chan (some 2))), ((.bin .leq), (.chan (some 1)), (.chan (some 1)), (.bool true)), (.mx, (.chan (some 1)), (.chan (some 1)), (.chan (some 1))), (.mn, (.chan (some 1)), (.chan (some 1)), (.chan (some 1))), ((.bin .geq), (.chan (some 1)), (.int .i64 0), (.bool true)), ((.bin .xor), (.chan (some 2)), (.chan (some 2)), (.int .u64 0)), ((.bin .andNot), (.chan (some 2)), (.int .u64 0), (.chan (some 2))), ((.bin .or), (.chan (some 2)), (.chan (some 2)), (.chan (some 2))), ((.bin .and), (.int .u64 9), (.chan (some 2)), (.int .u64 1))]
theorem vc_pand1_hr2 (n : Int) (hr_n : -2147483648 ≤ n ∧ n ≤ 2147483647) (hc0 : 0 ≤ n) (hc1 : BitVec.ofInt 64 9 &&& BitVec.ofInt 64 n = 1) : ∀ p ∈ vc_pand1_r2, Rule2 (vc_pand1_θ n) p := by
  have f0 : vc_pand1_t0 n = n := rfl
  have f1 : -9223372036854775808 ≤ vc_pand1_t1 n ∧ vc_pand1_t1 n < 9223372036854775808 ∧ ((vc_pand1_t0 n) - vc_pand1_t1 n) % 18446744073709551616 = 0 := w_i64 _
  have f2 : vc_pand1_t2 n = (vc_pand1_t1 n) % 18446744073709551616 := w_u64 _
  have f3 : vc_pand1_t3 n = (vc_pand1_t2 n) % 4294967296 := w_u32 _
  intro p hp
  simp only [vc_pand1_r2, List.mem_cons, List.not_mem_nil, or_false] at hp
  rcases hp with rfl | rfl | rfl | rfl | rfl | rfl | rfl | rfl | rfl | rfl | rfl | rfl | rfl | rfl
  · exact ⟨rfl, rfl, rfl, congrArg (fun z => some (Value.int .u64 z)) (show IntKind.u64.wrap (BitVec.ofInt 64 (vc_pand1_t2 n) &&& BitVec.ofInt 64 (0)).toNat = (0) from b_and0 _)⟩
  · exact ⟨rfl, rfl, rfl, congrArg (fun z => some (Value.bool z)) (decide_eq_false (show ¬ ((vc_pand1_t2 n) > (vc_pand1_t2 n)) from by omega))⟩
  · exact ⟨rfl, rfl, rfl, congrArg (fun z => some (Value.bool z)) (decide_eq_false (show ¬ ((vc_pand1_t1 n) > (vc_pand1_t1 n)) from by omega))⟩
  · exact ⟨rfl, rfl, rfl, congrArg (fun z => some (Value.int .u64 z)) (show (if (vc_pand1_t2 n) > (vc_pand1_t2 n) then (vc_pand1_t2 n) else (vc_pand1_t2 n)) = (vc_pand1_t2 n) from by split <;> omega)⟩
  · exact ⟨rfl, rfl, rfl, congrArg (fun z => some (Value.int .u64 z)) (show IntKind.u64.wrap (BitVec.ofInt 64 (vc_pand1_t2 n) ||| BitVec.ofInt 64 (0)).toNat = (vc_pand1_t2 n) from b_or0 (by omega) (by omega))⟩
  · exact ⟨rfl, rfl, rfl, congrArg (fun z => some (Value.int .u64 z)) (show (if (vc_pand1_t2 n) < (vc_pand1_t2 n) then (vc_pand1_t2 n) else (vc_pand1_t2 n)) = (vc_pand1_t2 n) from by split <;> omega)⟩
  · exact ⟨rfl, rfl, rfl, congrArg (fun z => some (Value.bool z)) (decide_eq_true (show ((vc_pand1_t1 n) ≤ (vc_pand1_t1 n)) from by omega))⟩
  · exact ⟨rfl, rfl, rfl, congrArg (fun z => some (Value.int .i64 z)) (show (if (vc_pand1_t1 n) > (vc_pand1_t1 n) then (vc_pand1_t1 n) else (vc_pand1_t1 n)) = (vc_pand1_t1 n) from by split <;> omega)⟩
  · exact ⟨rfl, rfl, rfl, congrArg (fun z => some (Value.int .i64 z)) (show (if (vc_pand1_t1 n) < (vc_pand1_t1 n) then (vc_pand1_t1 n) else (vc_pand1_t1 n)) = (vc_pand1_t1 n) from by split <;> omega)⟩
  · exact ⟨rfl, rfl, rfl, congrArg (fun z => some (Value.bool z)) (decide_eq_true (show ((vc_pand1_t1 n) ≥ (0)) from by omega))⟩
  · exact ⟨rfl, rfl, rfl, congrArg (fun z => some (Value.int .u64 z)) (show IntKind.u64.wrap (BitVec.ofInt 64 (vc_pand1_t2 n) ^^^ BitVec.ofInt 64 (vc_pand1_t2 n)).toNat = (0) from b_xoro _)⟩
  · exact ⟨rfl, rfl, rfl, congrArg (fun z => some (Value.int .u64 z)) (show IntKind.u64.wrap (BitVec.ofInt 64 (vc_pand1_t2 n) &&& ~~~BitVec.ofInt 64 (0)).toNat = (vc_pand1_t2 n) from b_andNot0 (by omega) (by omega))⟩
  · exact ⟨rfl, rfl, rfl, congrArg (fun z => some (Value.int .u64 z)) (show IntKind.u64.wrap (BitVec.ofInt 64 (vc_pand1_t2 n) ||| BitVec.ofInt 64 (vc_pand1_t2 n)).toNat = (vc_pand1_t2 n) from b_oro (by omega) (by omega))⟩
  · exact ⟨rfl, rfl, rfl, congrArg (fun z => some (Value.int .u64 z)) (show IntKind.u64.wrap (BitVec.ofInt 64 (9) &&& BitVec.ofInt 64 (vc_pand1_t2 n)).toNat = (1) from and9_rule hc1 (by omega) rfl)⟩
def vc_pand1_re : List (Value × Value × Bool) := [((.chan (some 2)), (.chan (some 2)), true), ((.chan (some 1)), (.chan (some 1)), true)]
theorem vc_pand1_hre (n : Int) (hr_n : -2147483648 ≤ n ∧ n ≤ 2147483647) (hc0 : 0 ≤ n) (hc1 : BitVec.ofInt 64 9 &&& BitVec.ofInt 64 n = 1) : ∀ p ∈ vc_pand1_re, RuleE (vc_pand1_θ n) p := by
  have f0 : vc_pand1_t0 n = n := rfl
  have f1 : -9223372036854775808 ≤ vc_pand1_t1 n ∧ vc_pand1_t1 n < 9223372036854775808 ∧ ((vc_pand1_t0 n) - vc_pand1_t1 n) % 18446744073709551616 = 0 := w_i64 _
  have f2 : vc_pand1_t2 n = (vc_pand1_t1 n) % 18446744073709551616 := w_u64 _
  have f3 : vc_pand1_t3 n = (vc_pand1_t2 n) % 4294967296 := w_u32 _
  intro p hp
  simp only [vc_pand1_re, List.mem_cons, List.not_mem_nil, or_false] at hp
  rcases hp with rfl | rfl
  · exact ⟨rfl, rfl, .u64, (vc_pand1_t2 n), (vc_pand1_t2 n), rfl, rfl, (show ((vc_pand1_t2 n) == (vc_pand1_t2 n)) = true from beq_iff_eq.2 (by omega)).symm⟩
  · exact ⟨rfl, rfl, .i64, (vc_pand1_t1 n), (vc_pand1_t1 n), rfl, rfl, (show ((vc_pand1_t1 n) == (vc_pand1_t1 n)) = true from beq_iff_eq.2 (by omega)).symm⟩
abbrev vc_pand1_sy (n : Int) (hr_n : -2147483648 ≤ n ∧ n ≤ 2147483647) (hc0 : 0 ≤ n) (hc1 : BitVec.ofInt 64 9 &&& BitVec.ofInt 64 n = 1) : Sy := syOf (vc_pand1_θ n) (vc_pand1_plain n) vc_pand1_r1 vc_pand1_r2 vc_pand1_re (vc_pand1_hr1 n hr_n hc0 hc1) (vc_pand1_hr2 n hr_n hc0 hc1) (vc_pand1_hre n hr_n hc0 hc1)
def vc_nand8_t0 (n : Int) : Int := n
def vc_nand8_t1 (n : Int) : Int := (IntKind.i64.wrap (vc_nand8_t0 n))
def vc_nand8_t2 (n : Int) : Int := (IntKind.u64.wrap (vc_nand8_t1 n))
def vc_nand8_t3 (n : Int) : Int := (IntKind.u32.wrap (vc_nand8_t2 n))
def vc_nand8_t4 (n : Int) : Int := (IntKind.u64.wrap (vc_nand8_t3 n))
def vc_nand8_θ (n : Int) : Nat → Value := fun j => match j with
  | 0 => .int .i32 (vc_nand8_t0 n)
  | 1 => .int .i64 (vc_nand8_t1 n)
  | 2 => .int .u64 (vc_nand8_t2 n)
  | 3 => .int .u32 (vc_nand8_t3 n)
  | 4 => .int .u64 (vc_nand8_t4 n)
  | _ => .bool false
theorem vc_nand8_plain (n : Int) : ∀ j, plainV (vc_nand8_θ n j) = true := by intro j; unfold vc_nand8_θ; split <;> rfl
def vc_nand8_r1 : List (U1 × Value × Value) := [((.conv .i64), (.chan (some 0)), (.chan (some 1))), ((.conv .u64), (.chan (some 1)), (.chan (some 2))), ((.conv .i64), (.chan (some 2)), (.chan (some 1))), ((.conv .i32), (.chan (some 2)), (.chan (some 0))), ((.conv .u32), (.chan (some 2)), (.chan (some 3))), ((.conv .u64), (.chan (some 3)), (.chan (some 4)))]
theorem vc_nand8_hr1 (n : Int) (hr_n : -2147483648 ≤ n ∧ n ≤ 2147483647) (hc0 : n < 0) (hc1 : BitVec.ofInt 64 9 &&& BitVec.ofInt 64 n = 8) : ∀ p ∈ vc_nand8_r1, Rule1 (vc_nand8_θ n) p := by
  have f0 : vc_nand8_t0 n = n := rfl
  have f1 : -9223372036854775808 ≤ vc_nand8_t1 n ∧ vc_nand8_t1 n < 9223372036854775808 ∧ ((vc_nand8_t0 n) - vc_nand8_t1 n) % 18446744073709551616 = 0 := w_i64 _
  have f2 : vc_nand8_t2 n = (vc_nand8_t1 n) % 18446744073709551616 := w_u64 _
  have f3 : vc_nand8_t3 n = (vc_nand8_t2 n) % 4294967296 := w_u32 _
  have f4 : vc_nand8_t4 n = (vc_nand8_t3 n) % 18446744073709551616 := w_u64 _
  intro p hp
  simp only [vc_nand8_r1, List.mem_cons, List.not_mem_nil, or_false] at hp
  rcases hp with rfl | rfl | rfl | rfl | rfl | rfl
  · exact ⟨rfl, rfl, congrArg (fun z => some (Value.int .i64 z)) (show IntKind.i64.wrap (vc_nand8_t0 n) = (vc_nand8_t1 n) from (by have g := w_i64 ((vc_nand8_t0 n)); omega))⟩
  · exact ⟨rfl, rfl, congrArg (fun z => some (Value.int .u64 z)) (show IntKind.u64.wrap (vc_nand8_t1 n) = (vc_nand8_t2 n) from ((w_u64 _).trans (by omega)))⟩
  · exact ⟨rfl, rfl, congrArg (fun z => some (Value.int .i64 z)) (show IntKind.i64.wrap (vc_nand8_t2 n) = (vc_nand8_t1 n) from (by have g := w_i64 ((vc_nand8_t2 n)); omega))⟩
  · exact ⟨rfl, rfl, congrArg (fun z => some (Value.int .i32 z)) (show IntKind.i32.wrap (vc_nand8_t2 n) = (vc_nand8_t0 n) from (by have g := w_i32 ((vc_nand8_t2 n)); omega))⟩
  · exact ⟨rfl, rfl, congrArg (fun z => some (Value.int .u32 z)) (show IntKind.u32.wrap (vc_nand8_t2 n) = (vc_nand8_t3 n) from ((w_u32 _).trans (by omega)))⟩
  · exact ⟨rfl, rfl, congrArg (fun z => some (Value.int .u64 z)) (show IntKind.u64.wrap (vc_nand8_t3 n) = (vc_nand8_t4 n) from ((w_u64 _).trans (by omega)))⟩
def vc_nand8_r2 : List (U2 × Value × Value × Value) := [((.bin .and), (.chan (some 2)), (.int .u64 0), (.int .u64 0)), ((.bin .gtr), (.chan (some 2)), (.chan (some 2)), (.bool false)), ((.bin .gtr), (.chan (some 1)), (.chan (some 1)), (.bool false)), (.mx, (.chan (some 2)), (.chan (some 2)), (.chan (some 2))), ((.bin .or), (.chan (some 2)), (.int .u64 0), (.chan (some 2))), (.mn, (.chan (some 2)), (.chan (some 2)), (.chan (some 2))), ((.bin .leq), (.chan (some 1)), (.chan (some 1)), (.bool true)), (.mx, (.chan (some 1)), (.chan (some 1)), (.chan (some 1))), (.mn, (.chan (some 1)), (.chan (some 1)), (.chan (some 1))), ((.bin .geq), (.chan (some 1)), (.int .i64 0), (.bool false)), ((.bin .lss), (.chan (some 1)), (.int .i64 0), (.bool true)), ((.bin .xor), (.chan (some 2)), (.chan (some 2)), (.int .u64 0)), ((.bin .andNot), (.chan (some 2)), (.int .u64 0), (.chan (some 2))), ((.bin .or), (.chan (some 2)), (.chan (some 2)), (.chan (some 2))), ((.bin .and), (.int .u64 9), (.chan (some 2)), (.int .u64 8)), ((.bin .and), (.int .u64 9), (.chan (some 4)), (.int .u64 8))]
theorem vc_nand8_hr2 (n : Int) (hr_n : -2147483648 ≤ n ∧ n ≤ 2147483647) (hc0 : n < 0) (hc1 : BitVec.ofInt 64 9 &&& BitVec.ofInt 64 n = 8) : ∀ p ∈ vc_nand8_r2, Rule2 (vc_nand8_θ n) p := by
  have f0 : vc_nand8_t0 n = n := rfl
  have f1 : -9223372036854775808 ≤ vc_nand8_t1 n ∧ vc_nand8_t1 n < 9223372036854775808 ∧ ((vc_nand8_t0 n) - vc_nand8_t1 n) % 18446744073709551616 = 0 := w_i64 _
  have f2 : vc_nand8_t2 n = (vc_nand8_t1 n) % 18446744073709551616 := w_u64 _
  have f3 : vc_nand8_t3 n = (vc_nand8_t2 n) % 4294967296 := w_u32 _
  have f4 : vc_nand8_t4 n = (vc_nand8_t3 n) % 18446744073709551616 := w_u64 _
  intro p hp
  simp only [vc_nand8_r2, List.mem_cons, List.not_mem_nil, or_false] at hp
  rcases hp with rfl | rfl | rfl | rfl | rfl | rfl | rfl | rfl | rfl | rfl | rfl | rfl | rfl | rfl | rfl | rfl
  · exact ⟨rfl, rfl, rfl, congrArg (fun z => some (Value.int .u64 z)) (show IntKind.u64.wrap (BitVec.ofInt 64 (vc_nand8_t2 n) &&& BitVec.ofInt 64 (0)).toNat = (0) from b_and0 _)⟩
  · exact ⟨rfl, rfl, rfl, congrArg (fun z => some (Value.bool z)) (decide_eq_false (show ¬ ((vc_nand8_t2 n) > (vc_nand8_t2 n)) from by omega))⟩
  · exact ⟨rfl, rfl, rfl, congrArg (fun z => some (Value.bool z)) (decide_eq_false (show ¬ ((vc_nand8_t1 n) > (vc_nand8_t1 n)) from by omega))⟩
  · exact ⟨rfl, rfl, rfl, congrArg (fun z => some (Value.int .u64 z)) (show (if (vc_nand8_t2 n) > (vc_nand8_t2 n) then (vc_nand8_t2 n) else (vc_nand8_t2 n)) = (vc_nand8_t2 n) from by split <;> omega)⟩
  · exact ⟨rfl, rfl, rfl, congrArg (fun z => some (Value.int .u64 z)) (show IntKind.u64.wrap (BitVec.ofInt 64 (vc_nand8_t2 n) ||| BitVec.ofInt 64 (0)).toNat = (vc_nand8_t2 n) from b_or0 (by omega) (by omega))⟩
  · exact ⟨rfl, rfl, rfl, congrArg (fun z => some (Value.int .u64 z)) (show (if (vc_nand8_t2 n) < (vc_nand8_t2 n) then (vc_nand8_t2 n) else (vc_nand8_t2 n)) = (vc_nand8_t2 n) from by split <;> omega)⟩
  · exact ⟨rfl, rfl, rfl, congrArg (fun z => some (Value.bool z)) (decide_eq_true (show ((vc_nand8_t1 n) ≤ (vc_nand8_t1 n)) from by omega))⟩
  · exact ⟨rfl, rfl, rfl, congrArg (fun z => some (Value.int .i64 z)) (show (if (vc_nand8_t1 n) > (vc_nand8_t1 n) then (vc_nand8_t1 n) else (vc_nand8_t1 n)) = (vc_nand8_t1 n) from by split <;> omega)⟩
  · exact ⟨rfl, rfl, rfl, congrArg (fun z => some (Value.int .i64 z)) (show (if (vc_nand8_t1 n) < (vc_nand8_t1 n) then (vc_nand8_t1 n) else (vc_nand8_t1 n)) = (vc_nand8_t1 n) from by split <;> omega)⟩
  · exact ⟨rfl, rfl, rfl, congrArg (fun z => some (Value.bool z)) (decide_eq_false (show ¬ ((vc_nand8_t1 n) ≥ (0)) from by omega))⟩
  · exact ⟨rfl, rfl, rfl, congrArg (fun z => some (Value.bool z)) (decide_eq_true (show ((vc_nand8_t1 n) < (0)) from by omega))⟩
  · exact ⟨rfl, rfl, rfl, congrArg (fun z => some (Value.int .u64 z)) (show IntKind.u64.wrap (BitVec.ofInt 64 (vc_nand8_t2 n) ^^^ BitVec.ofInt 64 (vc_nand8_t2 n)).toNat = (0) from b_xoro _)⟩
  · exact ⟨rfl, rfl, rfl, congrArg (fun z => some (Value.int .u64 z)) (show IntKind.u64.wrap (BitVec.ofInt 64 (vc_nand8_t2 n) &&& ~~~BitVec.ofInt 64 (0)).toNat = (vc_nand8_t2 n) from b_andNot0 (by omega) (by omega))⟩
  · exact ⟨rfl, rfl, rfl, congrArg (fun z => some (Value.int .u64 z)) (show IntKind.u64.wrap (BitVec.ofInt 64 (vc_nand8_t2 n) ||| BitVec.ofInt 64 (vc_nand8_t2 n)).toNat = (vc_nand8_t2 n) from b_oro (by omega) (by omega))⟩
  · exact ⟨rfl, rfl, rfl, congrArg (fun z => some (Value.int .u64 z)) (show IntKind.u64.wrap (BitVec.ofInt 64 (9) &&& BitVec.ofInt 64 (vc_nand8_t2 n)).toNat = (8) from and9_rule hc1 (by omega) rfl)⟩
  · exact ⟨rfl, rfl, rfl, congrArg (fun z => some (Value.int .u64 z)) (show IntKind.u64.wrap (BitVec.ofInt 64 (9) &&& BitVec.ofInt 64 (vc_nand8_t4 n)).toNat = (8) from and9_rule hc1 (by omega) rfl)⟩
def vc_nand8_re : List (Value × Value × Bool) := [((.chan (some 2)), (.chan (some 2)), true), ((.chan (some 1)), (.chan (some 1)), true)]
theorem vc_nand8_hre (n : Int) (hr_n : -2147483648 ≤ n ∧ n ≤ 2147483647) (hc0 : n < 0) (hc1 : BitVec.ofInt 64 9 &&& BitVec.ofInt 64 n = 8) : ∀ p ∈ vc_nand8_re, RuleE (vc_nand8_θ n) p := by
  have f0 : vc_nand8_t0 n = n := rfl
  have f1 : -9223372036854775808 ≤ vc_nand8_t1 n ∧ vc_nand8_t1 n < 9223372036854775808 ∧ ((vc_nand8_t0 n) - vc_nand8_t1 n) % 18446744073709551616 = 0 := w_i64 _
  have f2 : vc_nand8_t2 n = (vc_nand8_t1 n) % 18446744073709551616 := w_u64 _
  have f3 : vc_nand8_t3 n = (vc_nand8_t2 n) % 4294967296 := w_u32 _
  have f4 : vc_nand8_t4 n = (vc_nand8_t3 n) % 18446744073709551616 := w_u64 _
  intro p hp
  simp only [vc_nand8_re, List.mem_cons, List.not_mem_nil, or_false] at hp
  rcases hp with rfl | rfl
  · exact ⟨rfl, rfl, .u64, (vc_nand8_t2 n), (vc_nand8_t2 n), rfl, rfl, (show ((vc_nand8_t2 n) == (vc_nand8_t2 n)) = true from beq_iff_eq.2 (by omega)).symm⟩
  · exact ⟨rfl, rfl, .i64, (vc_nand8_t1 n), (vc_nand8_t1 n), rfl, rfl, (show ((vc_nand8_t1 n) == (vc_nand8_t1 n)) = true from beq_iff_eq.2 (by omega)).symm⟩
abbrev vc_nand8_sy (n : Int) (hr_n : -2147483648 ≤ n ∧ n ≤ 2147483647) (hc0 : n < 0) (hc1 : BitVec.ofInt 64 9 &&& BitVec.ofInt 64 n = 8) : Sy := syOf (vc_nand8_θ n) (vc_nand8_plain n) vc_nand8_r1 vc_nand8_r2 vc_nand8_re (vc_nand8_hr1 n hr_n hc0 hc1) (vc_nand8_hr2 n hr_n hc0 hc1) (vc_nand8_hre n hr_n hc0 hc1)
def vc_pand8_t0 (n : Int) : Int := n
def vc_pand8_t1 (n : Int) : Int := (IntKind.i64.wrap (vc_pand8_t0 n))
def vc_pand8_t2 (n : Int) : Int := (IntKind.u64.wrap (vc_pand8_t1 n))
def vc_pand8_t3 (n : Int) : Int := (IntKind.u32.wrap (vc_pand8_t2 n))
def vc_pand8_θ (n : Int) : Nat → Value := fun j => match j with
  | 0 => .int .i32 (vc_pand8_t0 n)
  | 1 => .int .i64 (vc_pand8_t1 n)
  | 2 => .int .u64 (vc_pand8_t2 n)
  | 3 => .int .u32 (vc_pand8_t3 n)
  | _ => .bool false
theorem vc_pand8_plain (n : Int) : ∀ j, plainV (vc_pand8_θ n j) = true := by intro j; unfold vc_pand8_θ; split <;> rfl
def vc_pand8_r1 : List (U1 × Value × Value) := [((.conv .i64), (.chan (some 0)), (.chan (some 1))), ((.conv .u64), (.chan (some 1)), (.chan (some 2))), ((.conv .i64), (.chan (some 2)), (.chan (some 1))), ((.conv .i32), (.chan (some 2)), (.chan (some 0))), ((.conv .u32), (.chan (some 2)), (.chan (some 3))), ((.conv .u64), (.chan (some 3)), (.chan (some 2)))]
theorem vc_pand8_hr1 (n : Int) (hr_n : -2147483648 ≤ n ∧ n ≤ 2147483647) (hc0 : 0 ≤ n) (hc1 : BitVec.ofInt 64 9 &&& BitVec.ofInt 64 n = 8) : ∀ p ∈ vc_pand8_r1, Rule1 (vc_pand8_θ n) p := by
  have f0 : vc_pand8_t0 n = n := rfl
  have f1 : -9223372036854775808 ≤ vc_pand8_t1 n ∧ vc_pand8_t1 n < 9223372036854775808 ∧ ((vc_pand8_t0 n) - vc_pand8_t1 n) % 18446744073709551616 = 0 := w_i64 _
  have f2 : vc_pand8_t2 n = (vc_pand8_t1 n) % 18446744073709551616 := w_u64 _
  have f3 : vc_pand8_t3 n = (vc_pand8_t2 n) % 4294967296 := w_u32 _
  intro p hp
  simp only [vc_pand8_r1, List.mem_cons, List.not_mem_nil, or_false] at hp
  rcases hp with rfl | rfl | rfl | rfl | rfl | rfl
  · exact ⟨rfl, rfl, congrArg (fun z => some (Value.int .i64 z)) (show IntKind.i64.wrap (vc_pand8_t0 n) = (vc_pand8_t1 n) from (by have g := w_i64 ((vc_pand8_t0 n)); omega))⟩
  · exact ⟨rfl, rfl, congrArg (fun z => some (Value.int .u64 z)) (show IntKind.u64.wrap (vc_pand8_t1 n) = (vc_pand8_t2 n) from ((w_u64 _).trans (by omega)))⟩
  · exact ⟨rfl, rfl, congrArg (fun z => some (Value.int .i64 z)) (show IntKind.i64.wrap (vc_pand8_t2 n) = (vc_pand8_t1 n) from (by have g := w_i64 ((vc_pand8_t2 n)); omega))⟩
  · exact ⟨rfl, rfl, congrArg (fun z => some (Value.int .i32 z)) (show IntKind.i32.wrap (vc_pand8_t2 n) = (vc_pand8_t0 n) from (by have g := w_i32 ((vc_pand8_t2 n)); omega))⟩
  · exact ⟨rfl, rfl, congrArg (fun z => some (Value.int .u32 z)) (show IntKind.u32.wrap (vc_pand8_t2 n) = (vc_pand8_t3 n) from ((w_u32 _).trans (by omega)))⟩
  · exact ⟨rfl, rfl, congrArg (fun z => some (Value.int .u64 z)) (show IntKind.u64.wrap (vc_pand8_t3 n) = (vc_pand8_t2 n) from ((w_u64 _).trans (by omega)))⟩
def vc_pand8_r2 : List (U2 × Value × Value × Value) := [((.bin .and), (.chan (some 2)), (.int .u64 0), (.int .u64 0)), ((.bin .gtr), (.chan (some 2)), (.chan (some 2)), (.bool false)), ((.bin .gtr), (.chan (some 1)), (.chan (some 1)), (.bool false)), (.mx, (.chan (some 2)), (.chan (some 2)), (.chan (some 2))), ((.bin .or), (.chan (some 2)), (.int .u64 0), (.chan (some 2))), (.mn, (.chan (some 2)), (.chan (some 2)), (.chan (some 2))), ((.bin .leq), (.chan (some 1)), (.chan (some 1)), (.bool true)), (.mx, (.chan (some 1)), (.chan (some 1)), (.chan (some 1))), (.mn, (.chan (some 1)), (.chan (some 1)), (.chan (some 1))), ((.bin .geq), (.chan (some 1)), (.int .i64 0), (.bool true)), ((.bin .xor), (.chan (some 2)), (.chan (some 2)), (.int .u64 0)), ((.bin .andNot), (.chan (some 2)), (.int .u64 0), (.chan (some 2))), ((.bin .or), (.chan (some 2)), (.chan (some 2)), (.chan (some 2))), ((.bin .and), (.int .u64 9), (.chan (some 2)), (.int .u64 8))]
theorem vc_pand8_hr2 (n : Int) (hr_n : -2147483648 ≤ n ∧ n ≤ 2147483647) (hc0 : 0 ≤ n) (hc1 : BitVec.ofInt 64 9 &&& BitVec.ofInt 64 n = 8) : ∀ p ∈ vc_pand8_r2, Rule2 (vc_pand8_θ n) p := by
  have f0 : vc_pand8_t0 n = n := rfl
  have f1 : -9223372036854775808 ≤ vc_pand8_t1 n ∧ vc_pand8_t1 n < 9223372036854775808 ∧ ((vc_pand8_t0 n) - vc_pand8_t1 n) % 18446744073709551616 = 0 := w_i64 _
  have f2 : vc_pand8_t2 n = (vc_pand8_t1 n) % 18446744073709551616 := w_u64 _
  have f3 : vc_pand8_t3 n = (vc_pand8_t2 n) % 4294967296 := w_u32 _
  intro p hp
  simp only [vc_pand8_r2, List.mem_cons, List.not_mem_nil, or_false] at hp
  rcases hp with rfl | rfl | rfl | rfl | rfl | rfl | rfl | rfl | rfl | rfl | rfl | rfl | rfl | rfl
  · exact ⟨rfl, rfl, rfl, congrArg (fun z => some (Value.int .u64 z)) (show IntKind.u64.wrap (BitVec.ofInt 64 (vc_pand8_t2 n) &&& BitVec.ofInt 64 (0)).toNat = (0) from b_and0 _)⟩
  · exact ⟨rfl, rfl, rfl, congrArg (fun z => some (Value.bool z)) (decide_eq_false (show ¬ ((vc_pand8_t2 n) > (vc_pand8_t2 n)) from by omega))⟩
  · exact ⟨rfl, rfl, rfl, congrArg (fun z => some (Value.bool z)) (decide_eq_false (show ¬ ((vc_pand8_t1 n) > (vc_pand8_t1 n)) from by omega))⟩
  · exact ⟨rfl, rfl, rfl, congrArg (fun z => some (Value.int .u64 z)) (show (if (vc_pand8_t2 n) > (vc_pand8_t2 n) then (vc_pand8_t2 n) else (vc_pand8_t2 n)) = (vc_pand8_t2 n) from by split <;> omega)⟩
  · exact ⟨rfl, rfl, rfl, congrArg (fun z => some (Value.int .u64 z)) (show IntKind.u64.wrap (BitVec.ofInt 64 (vc_pand8_t2 n) ||| BitVec.ofInt 64 (0)).toNat = (vc_pand8_t2 n) from b_or0 (by omega) (by omega))⟩
  · exact ⟨rfl, rfl, rfl, congrArg (fun z => some (Value.int .u64 z)) (show (if (vc_pand8_t2 n) < (vc_pand8_t2 n) then (vc_pand8_t2 n) else (vc_pand8_t2 n)) = (vc_pand8_t2 n) from by split <;> omega)⟩
  · exact ⟨rfl, rfl, rfl, congrArg (fun z => some (Value.bool z)) (decide_eq_true (show ((vc_pand8_t1 n) ≤ (vc_pand8_t1 n)) from by omega))⟩
  · exact ⟨rfl, rfl, rfl, congrArg (fun z => some (Value.int .i64 z)) (show (if (vc_pand8_t1 n) > (vc_pand8_t1 n) then (vc_pand8_t1 n) else (vc_pand8_t1 n)) = (vc_pand8_t1 n) from by split <;> omega)⟩
  · exact ⟨rfl, rfl, rfl, congrArg (fun z => some (Value.int .i64 z)) (show (if (vc_pand8_t1 n) < (vc_pand8_t1 n) then (vc_pand8_t1 n) else (vc_pand8_t1 n)) = (vc_pand8_t1 n) from by split <;> omega)⟩
  · exact ⟨rfl, rfl, rfl, congrArg (fun z => some (Value.bool z)) (decide_eq_true (show ((vc_pand8_t1 n) ≥ (0)) from by omega))⟩
  · exact ⟨rfl, rfl, rfl, congrArg (fun z => some (Value.int .u64 z)) (show IntKind.u64.wrap (BitVec.ofInt 64 (vc_pand8_t2 n) ^^^ BitVec.ofInt 64 (vc_pand8_t2 n)).toNat = (0) from b_xoro _)⟩
  · exact ⟨rfl, rfl, rfl, congrArg (fun z => some (Value.int .u64 z)) (show IntKind.u64.wrap (BitVec.ofInt 64 (vc_pand8_t2 n) &&& ~~~BitVec.ofInt 64 (0)).toNat = (vc_pand8_t2 n) from b_andNot0 (by omega) (by omega))⟩
  · exact ⟨rfl, rfl, rfl, congrArg (fun z => some (Value.int .u64 z)) (show IntKind.u64.wrap (BitVec.ofInt 64 (vc_pand8_t2 n) ||| BitVec.ofInt 64 (vc_pand8_t2 n)).toNat = (vc_pand8_t2 n) from b_oro (by omega) (by omega))⟩
  · exact ⟨rfl, rfl, rfl, congrArg (fun z => some (Value.int .u64 z)) (show IntKind.u64.wrap (BitVec.ofInt 64 (9) &&& BitVec.ofInt 64 (vc_pand8_t2 n)).toNat = (8) from and9_rule hc1 (by omega) rfl)⟩
def vc_pand8_re : List (Value × Value × Bool) := [((.chan (some 2)), (.chan (some 2)), true), ((.chan (some 1)), (.chan (some 1)), true)]
theorem vc_pand8_hre (n : Int) (hr_n : -2147483648 ≤ n ∧ n ≤ 2147483647) (hc0 : 0 ≤ n) (hc1 : BitVec.ofInt 64 9 &&& BitVec.ofInt 64 n = 8) : ∀ p ∈ vc_pand8_re, RuleE (vc_pand8_θ n) p := by
  have f0 : vc_pand8_t0 n = n := rfl
  have f1 : -9223372036854775808 ≤ vc_pand8_t1 n ∧ vc_pand8_t1 n < 9223372036854775808 ∧ ((vc_pand8_t0 n) - vc_pand8_t1 n) % 18446744073709551616 = 0 := w_i64 _
  have f2 : vc_pand8_t2 n = (vc_pand8_t1 n) % 18446744073709551616 := w_u64 _
  have f3 : vc_pand8_t3 n = (vc_pand8_t2 n) % 4294967296 := w_u32 _
  intro p hp
  simp only [vc_pand8_re, List.mem_cons, List.not_mem_nil, or_false] at hp
  rcases hp with rfl | rfl
  · exact ⟨rfl, rfl, .u64, (vc_pand8_t2 n), (vc_pand8_t2 n), rfl, rfl, (show ((vc_pand8_t2 n) == (vc_pand8_t2 n)) = true from beq_iff_eq.2 (by omega)).symm⟩
  · exact ⟨rfl, rfl, .i64, (vc_pand8_t1 n), (vc_pand8_t1 n), rfl, rfl, (show ((vc_pand8_t1 n) == (vc_pand8_t1 n)) = true from beq_iff_eq.2 (by omega)).symm⟩
abbrev vc_pand8_sy (n : Int) (hr_n : -2147483648 ≤ n ∧ n ≤ 2147483647) (hc0 : 0 ≤ n) (hc1 : BitVec.ofInt 64 9 &&& BitVec.ofInt 64 n = 8) : Sy := syOf (vc_pand8_θ n) (vc_pand8_plain n) vc_pand8_r1 vc_pand8_r2 vc_pand8_re (vc_pand8_hr1 n hr_n hc0 hc1) (vc_pand8_hr2 n hr_n hc0 hc1) (vc_pand8_hre n hr_n hc0 hc1)
def vc_nand9_t0 (n : Int) : Int := n
def vc_nand9_t1 (n : Int) : Int := (IntKind.i64.wrap (vc_nand9_t0 n))
def vc_nand9_t2 (n : Int) : Int := (IntKind.u64.wrap (vc_nand9_t1 n))
def vc_nand9_t3 (n : Int) : Int := (IntKind.u32.wrap (vc_nand9_t2 n))
def vc_nand9_t4 (n : Int) : Int := (IntKind.u64.wrap (vc_nand9_t3 n))
def vc_nand9_θ (n : Int) : Nat → Value := fun j => match j with
  | 0 => .int .i32 (vc_nand9_t0 n)
  | 1 => .int .i64 (vc_nand9_t1 n)
  | 2 => .int .u64 (vc_nand9_t2 n)
  | 3 => .int .u32 (vc_nand9_t3 n)
  | 4 => .int .u64 (vc_nand9_t4 n)
  | _ => .bool false
theorem vc_nand9_plain (n : Int) : ∀ j, plainV (vc_nand9_θ n j) = true := by intro j; unfold vc_nand9_θ; split <;> rfl
def vc_nand9_r1 : List (U1 × Value × Value) := [((.conv .i64), (.chan (some 0)), (.chan (some 1))), ((.conv .u64), (.chan (some 1)), (.chan (some 2))), ((.conv .i64), (.chan (some 2)), (.chan (some 1))), ((.conv .i32), (.chan (some 2)), (.chan (some 0))), ((.conv .u32), (.chan (some 2)), (.chan (some 3))), ((.conv .u64), (.chan (some 3)), (.chan (some 4)))]
theorem vc_nand9_hr1 (n : Int) (hr_n : -2147483648 ≤ n ∧ n ≤ 2147483647) (hc0 : n < 0) (hc1 : BitVec.ofInt 64 9 &&& BitVec.ofInt 64 n = 9) : ∀ p ∈ vc_nand9_r1, Rule1 (vc_nand9_θ n) p := by
  have f0 : vc_nand9_t0 n = n := rfl
  have f1 : -9223372036854775808 ≤ vc_nand9_t1 n ∧ vc_nand9_t1 n < 9223372036854775808 ∧ ((vc_nand9_t0 n) - vc_nand9_t1 n) % 18446744073709551616 = 0 := w_i64 _
  have f2 : vc_nand9_t2 n = (vc_nand9_t1 n) % 18446744073709551616 := w_u64 _
  have f3 : vc_nand9_t3 n = (vc_nand9_t2 n) % 4294967296 := w_u32 _
  have f4 : vc_nand9_t4 n = (vc_nand9_t3 n) % 18446744073709551616 := w_u64 _
  intro p hp
  simp only [vc_nand9_r1, List.mem_cons, List.not_mem_nil, or_false] at hp
  rcases hp with rfl | rfl | rfl | rfl | rfl | rfl
  · exact ⟨rfl, rfl, congrArg (fun z => some (Value.int .i64 z)) (show IntKind.i64.wrap (vc_nand9_t0 n) = (vc_nand9_t1 n) from (by have g := w_i64 ((vc_nand9_t0 n)); omega))⟩
  · exact ⟨rfl, rfl, congrArg (fun z => some (Value.int .u64 z)) (show IntKind.u64.wrap (vc_nand9_t1 n) = (vc_nand9_t2 n) from ((w_u64 _).trans (by omega)))⟩
  · exact ⟨rfl, rfl, congrArg (fun z => some (Value.int .i64 z)) (show IntKind.i64.wrap (vc_nand9_t2 n) = (vc_nand9_t1 n) from (by have g := w_i64 ((vc_nand9_t2 n)); omega))⟩
  · exact ⟨rfl, rfl, congrArg (fun z => some (Value.int .i32 z)) (show IntKind.i32.wrap (vc_nand9_t2 n) = (vc_nand9_t0 n) from (by have g := w_i32 ((vc_nand9_t2 n)); omega))⟩
  · exact ⟨rfl, rfl, congrArg (fun z => some (Value.int .u32 z)) (show IntKind.u32.wrap (vc_nand9_t2 n) = (vc_nand9_t3 n) from ((w_u32 _).trans (by omega)))⟩
  · exact ⟨rfl, rfl, congrArg (fun z => some (Value.int .u64 z)) (show IntKind.u64.wrap (vc_nand9_t3 n) = (vc_nand9_t4 n) from ((w_u64 _).trans (by omega)))⟩
def vc_nand9_r2 : List (U2 × Value × Value × Value) := [((.bin .and), (.chan (some 2)), (.int .u64 0), (.int .u64 0)), ((.bin .gtr), (.chan (some 2)), (.chan (some 2)), (.bool false)), ((.bin .gtr), (.chan (some 1)), (.chan (some 1)), (.bool false)), (.mx, (.chan (some 2)), (.chan (some 2)), (.chan (some 2))), ((.bin .or), (.chan (some 2)), (.int .u64 0), (.chan (some 2))), (.mn, (.chan (some 2)), (.chan (some 2)), (.chan (some 2))), ((.bin .leq), (.chan (some 1)), (.chan (some 1)), (.bool true)), (.mx, (.chan (some 1)), (.chan (some 1)), (.chan (some 1))), (.mn, (.chan (some 1)), (.chan (some 1)), (.chan (some 1))), ((.bin .geq), (.chan (some 1)), (.int .i64 0), (.bool false)), ((.bin .lss), (.chan (some 1)), (.int .i64 0), (.bool true)), ((.bin .xor), (.chan (some 2)), (.chan (some 2)), (.int .u64 0)), ((.bin .andNot), (.chan (some 2)), (.int .u64 0), (.chan (some 2))), ((.bin .or), (.chan (some 2)), (.chan (some 2)), (.chan (some 2))), ((.bin .and), (.int .u64 9), (.chan (some 2)), (.int .u64 9)), ((.bin .and), (.int .u64 9), (.chan (some 4)), (.int .u64 9))]
theorem vc_nand9_hr2 (n : Int) (hr_n : -2147483648 ≤ n ∧ n ≤ 2147483647) (hc0 : n < 0) (hc1 : BitVec.ofInt 64 9 &&& BitVec.ofInt 64 n = 9) : ∀ p ∈ vc_nand9_r2, Rule2 (vc_nand9_θ n) p := by
  have f0 : vc_nand9_t0 n = n := rfl
  have f1 : -9223372036854775808 ≤ vc_nand9_t1 n ∧ vc_nand9_t1 n < 9223372036854775808 ∧ ((vc_nand9_t0 n) - vc_nand9_t1 n) % 18446744073709551616 = 0 := w_i64 _
  have f2 : vc_nand9_t2 n = (vc_nand9_t1 n) % 18446744073709551616 := w_u64 _
  have f3 : vc_nand9_t3 n = (vc_nand9_t2 n) % 4294967296 := w_u32 _
  have f4 : vc_nand9_t4 n = (vc_nand9_t3 n) % 18446744073709551616 := w_u64 _
  intro p hp
  simp only [vc_nand9_r2, List.mem_cons, List.not_mem_nil, or_false] at hp
  rcases hp with rfl | rfl | rfl | rfl | rfl | rfl | rfl | rfl | rfl | rfl | rfl | rfl | rfl | rfl | rfl | rfl
  · exact ⟨rfl, rfl, rfl, congrArg (fun z => some (Value.int .u64 z)) (show IntKind.u64.wrap (BitVec.ofInt 64 (vc_nand9_t2 n) &&& BitVec.ofInt 64 (0)).toNat = (0) from b_and0 _)⟩
  · exact ⟨rfl, rfl, rfl, congrArg (fun z => some (Value.bool z)) (decide_eq_false (show ¬ ((vc_nand9_t2 n) > (vc_nand9_t2 n)) from by omega))⟩
  · exact ⟨rfl, rfl, rfl, congrArg (fun z => some (Value.bool z)) (decide_eq_false (show ¬ ((vc_nand9_t1 n) > (vc_nand9_t1 n)) from by omega))⟩
  · exact ⟨rfl, rfl, rfl, congrArg (fun z => some (Value.int .u64 z)) (show (if (vc_nand9_t2 n) > (vc_nand9_t2 n) then (vc_nand9_t2 n) else (vc_nand9_t2 n)) = (vc_nand9_t2 n) from by split <;> omega)⟩
  · exact ⟨rfl, rfl, rfl, congrArg (fun z => some (Value.int .u64 z)) (show IntKind.u64.wrap (BitVec.ofInt 64 (vc_nand9_t2 n) ||| BitVec.ofInt 64 (0)).toNat = (vc_nand9_t2 n) from b_or0 (by omega) (by omega))⟩
  · exact ⟨rfl, rfl, rfl, congrArg (fun z => some (Value.int .u64 z)) (show (if (vc_nand9_t2 n) < (vc_nand9_t2 n) then (vc_nand9_t2 n) else (vc_nand9_t2 n)) = (vc_nand9_t2 n) from by split <;> omega)⟩
  · exact ⟨rfl, rfl, rfl, congrArg (fun z => some (Value.bool z)) (decide_eq_true (show ((vc_nand9_t1 n) ≤ (vc_nand9_t1 n)) from by omega))⟩
  · exact ⟨rfl, rfl, rfl, congrArg (fun z => some (Value.int .i64 z)) (show (if (vc_nand9_t1 n) > (vc_nand9_t1 n) then (vc_nand9_t1 n) else (vc_nand9_t1 n)) = (vc_nand9_t1 n) from by split <;> omega)⟩
  · exact ⟨rfl, rfl, rfl, congrArg (fun z => some (Value.int .i64 z)) (show (if (vc_nand9_t1 n) < (vc_nand9_t1 n) then (vc_nand9_t1 n) else (vc_nand9_t1 n)) = (vc_nand9_t1 n) from by split <;> omega)⟩
  · exact ⟨rfl, rfl, rfl, congrArg (fun z => some (Value.bool z)) (decide_eq_false (show ¬ ((vc_nand9_t1 n) ≥ (0)) from by omega))⟩
  · exact ⟨rfl, rfl, rfl, congrArg (fun z => some (Value.bool z)) (decide_eq_true (show ((vc_nand9_t1 n) < (0)) from by omega))⟩
  · exact ⟨rfl, rfl, rfl, congrArg (fun z => some (Value.int .u64 z)) (show IntKind.u64.wrap (BitVec.ofInt 64 (vc_nand9_t2 n) ^^^ BitVec.ofInt 64 (vc_nand9_t2 n)).toNat = (0) from b_xoro _)⟩
  · exact ⟨rfl, rfl, rfl, congrArg (fun z => some (Value.int .u64 z)) (show IntKind.u64.wrap (BitVec.ofInt 64 (vc_nand9_t2 n) &&& ~~~BitVec.ofInt 64 (0)).toNat = (vc_nand9_t2 n) from b_andNot0 (by omega) (by omega))⟩
  · exact ⟨rfl, rfl, rfl, congrArg (fun z => some (Value.int .u64 z)) (show IntKind.u64.wrap (BitVec.ofInt 64 (vc_nand9_t2 n) ||| BitVec.ofInt 64 (vc_nand9_t2 n)).toNat = (vc_nand9_t2 n) from b_oro (by omega) (by omega))⟩
  · exact ⟨rfl, rfl, rfl, congrArg (fun z => some (Value.int .u64 z)) (show IntKind.u64.wrap (BitVec.ofInt 64 (9) &&& BitVec.ofInt 64 (vc_nand9_t2 n)).toNat = (9) from and9_rule hc1 (by omega) rfl)⟩
  · exact ⟨rfl, rfl, rfl, congrArg (fun z => some (Value.int .u64 z)) (show IntKind.u64.wrap (BitVec.ofInt 64 (9) &&& BitVec.ofInt 64 (vc_nand9_t4 n)).toNat = (9) from and9_rule hc1 (by omega) rfl)⟩
def vc_nand9_re : List (Value × Value × Bool) := [((.chan (some 2)), (.chan (some 2)), true), ((.chan (some 1)), (.chan (some 1)), true)]
theorem vc_nand9_hre (n : Int) (hr_n : -2147483648 ≤ n ∧ n ≤ 2147483647) (hc0 : n < 0) (hc1 : BitVec.ofInt 64 9 &&& BitVec.ofInt 64 n = 9) : ∀ p ∈ vc_nand9_re, RuleE (vc_nand9_θ n) p := by
  have f0 : vc_nand9_t0 n = n := rfl
  have f1 : -9223372036854775808 ≤ vc_nand9_t1 n ∧ vc_nand9_t1 n < 9223372036854775808 ∧ ((vc_nand9_t0 n) - vc_nand9_t1 n) % 18446744073709551616 = 0 := w_i64 _
  have f2 : vc_nand9_t2 n = (vc_nand9_t1 n) % 18446744073709551616 := w_u64 _
  have f3 : vc_nand9_t3 n = (vc_nand9_t2 n) % 4294967296 := w_u32 _
  have f4 : vc_nand9_t4 n = (vc_nand9_t3 n) % 18446744073709551616 := w_u64 _
  intro p hp
  simp only [vc_nand9_re, List.mem_cons, List.not_mem_nil, or_false] at hp
  rcases hp with rfl | rfl
  · exact ⟨rfl, rfl, .u64, (vc_nand9_t2 n), (vc_nand9_t2 n), rfl, rfl, (show ((vc_nand9_t2 n) == (vc_nand9_t2 n)) = true from beq_iff_eq.2 (by omega)).symm⟩
  · exact ⟨rfl, rfl, .i64, (vc_nand9_t1 n), (vc_nand9_t1 n), rfl, rfl, (show ((vc_nand9_t1 n) == (vc_nand9_t1 n)) = true from beq_iff_eq.2 (by omega)).symm⟩
abbrev vc_nand9_sy (n : Int) (hr_n : -2147483648 ≤ n ∧ n ≤ 2147483647) (hc0 : n < 0) (hc1 : BitVec.ofInt 64 9 &&& BitVec.ofInt 64 n = 9) : Sy := syOf (vc_nand9_θ n) (vc_nand9_plain n) vc_nand9_r1 vc_nand9_r2 vc_nand9_re (vc_nand9_hr1 n hr_n hc0 hc1) (vc_nand9_hr2 n hr_n hc0 hc1) (vc_nand9_hre n hr_n hc0 hc1)
def vc_pand9_t0 (n : Int) : Int := n
def vc_pand9_t1 (n : Int) : Int := (IntKind.i64.wrap (vc_pand9_t0 n))
def vc_pand9_t2 (n : Int) : Int := (IntKind.u64.wrap (vc_pand9_t1 n))
def vc_pand9_t3 (n : Int) : Int := (IntKind.u32.wrap (vc_pand9_t2 n))
def vc_pand9_θ (n : Int) : Nat → Value := fun j => match j with
  | 0 => .int .i32 (vc_pand9_t0 n)
  | 1 => .int .i64 (vc_pand9_t1 n)
  | 2 => .int .u64 (vc_pand9_t2 n)
  | 3 => .int .u32 (vc_pand9_t3 n)
  | _ => .bool false
theorem vc_pand9_plain (n : Int) : ∀ j, plainV (vc_pand9_θ n j) = true := by intro j; unfold vc_pand9_θ; split <;> rfl
def vc_pand9_r1 : List (U1 × Value × Value) := [((.conv .i64), (.chan (some 0)), (.chan (some 1))), ((.conv .u64), (.chan (some 1)), (.chan (some 2))), ((.conv .i64), (.chan (some 2)), (.chan (some 1))), ((.conv .i32), (.chan (some 2)), (.chan (some 0))), ((.conv .u32), (.chan (some 2)), (.chan (some 3))), ((.conv .u64), (.chan (some 3)), (.chan (some 2)))]
theorem vc_pand9_hr1 (n : Int) (hr_n : -2147483648 ≤ n ∧ n ≤ 2147483647) (hc0 : 0 ≤ n) (hc1 : BitVec.ofInt 64 9 &&& BitVec.ofInt 64 n = 9) : ∀ p ∈ vc_pand9_r1, Rule1 (vc_pand9_θ n) p := by
  have f0 : vc_pand9_t0 n = n := rfl
  have f1 : -9223372036854775808 ≤ vc_pand9_t1 n ∧ vc_pand9_t1 n < 9223372036854775808 ∧ ((vc_pand9_t0 n) - vc_pand9_t1 n) % 18446744073709551616 = 0 := w_i64 _
  have f2 : vc_pand9_t2 n = (vc_pand9_t1 n) % 18446744073709551616 := w_u64 _
  have f3 : vc_pand9_t3 n = (vc_pand9_t2 n) % 4294967296 := w_u32 _
  intro p hp
  simp only [vc_pand9_r1, List.mem_cons, List.not_mem_nil, or_false] at hp
  rcases hp with rfl | rfl | rfl | rfl | rfl | rfl
  · exact ⟨rfl, rfl, congrArg (fun z => some (Value.int .i64 z)) (show IntKind.i64.wrap (vc_pand9_t0 n) = (vc_pand9_t1 n) from (by have g := w_i64 ((vc_pand9_t0 n)); omega))⟩
  · exact ⟨rfl, rfl, congrArg (fun z => some (Value.int .u64 z)) (show IntKind.u64.wrap (vc_pand9_t1 n) = (vc_pand9_t2 n) from ((w_u64 _).trans (by omega)))⟩
  · exact ⟨rfl, rfl, congrArg (fun z => some (Value.int .i64 z)) (show IntKind.i64.wrap (vc_pand9_t2 n) = (vc_pand9_t1 n) from (by have g := w_i64 ((vc_pand9_t2 n)); omega))⟩
  · exact ⟨rfl, rfl, congrArg (fun z => some (Value.int .i32 z)) (show IntKind.i32.wrap (vc_pand9_t2 n) = (vc_pand9_t0 n) from (by have g := w_i32 ((vc_pand9_t2 n)); omega))⟩
  · exact ⟨rfl, rfl, congrArg (fun z => some (Value.int .u32 z)) (show IntKind.u32.wrap (vc_pand9_t2 n) = (vc_pand9_t3 n) from ((w_u32 _).trans (by omega)))⟩
  · exact ⟨rfl, rfl, congrArg (fun z => some (Value.int .u64 z)) (show IntKind.u64.wrap (vc_pand9_t3 n) = (vc_pand9_t2 n) from ((w_u64 _).trans (by omega)))⟩
def vc_pand9_r2 : List (U2 × Value × Value × Value) := [((.bin .and), (.chan (some 2)), (.int .u64 0), (.int .u64 0)), ((.bin .gtr), (.chan (some 2)), (.chan (some 2)), (.bool false)), ((.bin .gtr), (.chan (some 1)), (.chan (some 1)), (.bool false)), (.mx, (.chan (some 2)), (.chan (some 2)), (.chan (some 2))), ((.bin .or), (.chan (some 2)), (.int .u64 0), (.chan (some 2))), (.mn, (.chan (some 2)), (.chan (some 2)), (.chan (some 2))), ((.bin .leq), (.chan (some 1)), (.chan (some 1)), (.bool true)), (.mx, (.chan (some 1)), (.chan (some 1)), (.chan (some 1))), (.mn, (.chan (some 1)), (.chan (some 1)), (.chan (some 1))), ((.bin .geq), (.chan (some 1)), (.int .i64 0), (.bool true)), ((.bin .xor), (.chan (some 2)), (.chan (some 2)), (.int .u64 0)), ((.bin .andNot), (.chan (some 2)), (.int .u64 0), (.chan (some 2))), ((.bin .or), (.chan (some 2)), (.chan (some 2)), (.chan (some 2))), ((.bin .and), (.int .u64 9), (.chan (some 2)), (.int .u64 9))]
theorem vc_pand9_hr2 (n : Int) (hr_n : -2147483648 ≤ n ∧ n ≤ 2147483647) (hc0 : 0 ≤ n) (hc1 : BitVec.ofInt 64 9 &&& BitVec.ofInt 64 n = 9) : ∀ p ∈ vc_pand9_r2, Rule2 (vc_pand9_θ n) p := by
  have f0 : vc_pand9_t0 n = n := rfl
  have f1 : -9223372036854775808 ≤ vc_pand9_t1 n ∧ vc_pand9_t1 n < 9223372036854775808 ∧ ((vc_pand9_t0 n) - vc_pand9_t1 n) % 18446744073709551616 = 0 := w_i64 _
  have f2 : vc_pand9_t2 n = (vc_pand9_t1 n) % 18446744073709551616 := w_u64 _
  have f3 : vc_pand9_t3 n = (vc_pand9_t2 n) % 4294967296 := w_u32 _
  intro p hp
  simp only [vc_pand9_r2, List.mem_cons, List.not_mem_nil, or_false] at hp
  rcases hp with rfl | rfl | rfl | rfl | rfl | rfl | rfl | rfl | rfl | rfl | rfl | rfl | rfl | rfl
  · exact ⟨rfl, rfl, rfl, congrArg (fun z => some (Value.int .u64 z)) (show IntKind.u64.wrap (BitVec.ofInt 64 (vc_pand9_t2 n) &&& BitVec.ofInt 64 (0)).toNat = (0) from b_and0 _)⟩
  · exact ⟨rfl, rfl, rfl, congrArg (fun z => some (Value.bool z)) (decide_eq_false (show ¬ ((vc_pand9_t2 n) > (vc_pand9_t2 n)) from by omega))⟩
  · exact ⟨rfl, rfl, rfl, congrArg (fun z => some (Value.bool z)) (decide_eq_false (show ¬ ((vc_pand9_t1 n) > (vc_pand9_t1 n)) from by omega))⟩
  · exact ⟨rfl, rfl, rfl, congrArg (fun z => some (Value.int .u64 z)) (show (if (vc_pand9_t2 n) > (vc_pand9_t2 n) then (vc_pand9_t2 n) else (vc_pand9_t2 n)) = (vc_pand9_t2 n) from by split <;> omega)⟩
  · exact ⟨rfl, rfl, rfl, congrArg (fun z => some (Value.int .u64 z)) (show IntKind.u64.wrap (BitVec.ofInt 64 (vc_pand9_t2 n) ||| BitVec.ofInt 64 (0)).toNat = (vc_pand9_t2 n) from b_or0 (by omega) (by omega))⟩
  · exact ⟨rfl, rfl, rfl, congrArg (fun z => some (Value.int .u64 z)) (show (if (vc_pand9_t2 n) < (vc_pand9_t2 n) then (vc_pand9_t2 n) else (vc_pand9_t2 n)) = (vc_pand9_t2 n) from by split <;> omega)⟩
  · exact ⟨rfl, rfl, rfl, congrArg (fun z => some (Value.bool z)) (decide_eq_true (show ((vc_pand9_t1 n) ≤ (vc_pand9_t1 n)) from by omega))⟩
  · exact ⟨rfl, rfl, rfl, congrArg (fun z => some (Value.int .i64 z)) (show (if (vc_pand9_t1 n) > (vc_pand9_t1 n) then (vc_pand9_t1 n) else (vc_pand9_t1 n)) = (vc_pand9_t1 n) from by split <;> omega)⟩
  · exact ⟨rfl, rfl, rfl, congrArg (fun z => some (Value.int .i64 z)) (show (if (vc_pand9_t1 n) < (vc_pand9_t1 n) then (vc_pand9_t1 n) else (vc_pand9_t1 n)) = (vc_pand9_t1 n) from by split <;> omega)⟩
  · exact ⟨rfl, rfl, rfl, congrArg (fun z => some (Value.bool z)) (decide_eq_true (show ((vc_pand9_t1 n) ≥ (0)) from by omega))⟩
  · exact ⟨rfl, rfl, rfl, congrArg (fun z => some (Value.int .u64 z)) (show IntKind.u64.wrap (BitVec.ofInt 64 (vc_pand9_t2 n) ^^^ BitVec.ofInt 64 (vc_pand9_t2 n)).toNat = (0) from b_xoro _)⟩
  · exact ⟨rfl, rfl, rfl, congrArg (fun z => some (Value.int .u64 z)) (show IntKind.u64.wrap (BitVec.ofInt 64 (vc_pand9_t2 n) &&& ~~~BitVec.ofInt 64 (0)).toNat = (vc_pand9_t2 n) from b_andNot0 (by omega) (by omega))⟩
  · exact ⟨rfl, rfl, rfl, congrArg (fun z => some (Value.int .u64 z)) (show IntKind.u64.wrap (BitVec.ofInt 64 (vc_pand9_t2 n) ||| BitVec.ofInt 64 (vc_pand9_t2 n)).toNat = (vc_pand9_t2 n) from b_oro (by omega) (by omega))⟩
  · exact ⟨rfl, rfl, rfl, congrArg (fun z => some (Value.int .u64 z)) (show IntKind.u64.wrap (BitVec.ofInt 64 (9) &&& BitVec.ofInt 64 (vc_pand9_t2 n)).toNat = (9) from and9_rule hc1 (by omega) rfl)⟩
def vc_pand9_re : List (Value × Value × Bool) := [((.chan (some 2)), (.chan (some 2)), true), ((.chan (some 1)), (.chan (some 1)), true)]
theorem vc_pand9_hre (n : Int) (hr_n : -2147483648 ≤ n ∧ n ≤ 2147483647) (hc0 : 0 ≤ n) (hc1 : BitVec.ofInt 64 9 &&& BitVec.ofInt 64 n = 9) : ∀ p ∈ vc_pand9_re, RuleE (vc_pand9_θ n) p := by
  have f0 : vc_pand9_t0 n = n := rfl
  have f1 : -9223372036854775808 ≤ vc_pand9_t1 n ∧ vc_pand9_t1 n < 9223372036854775808 ∧ ((vc_pand9_t0 n) - vc_pand9_t1 n) % 18446744073709551616 = 0 := w_i64 _
  have f2 : vc_pand9_t2 n = (vc_pand9_t1 n) % 18446744073709551616 := w_u64 _
  have f3 : vc_pand9_t3 n = (vc_pand9_t2 n) % 4294967296 := w_u32 _
  intro p hp
  simp only [vc_pand9_re, List.mem_cons, List.not_mem_nil, or_false] at hp
  rcases hp with rfl | rfl
  · exact ⟨rfl, rfl, .u64, (vc_pand9_t2 n), (vc_pand9_t2 n), rfl, rfl, (show ((vc_pand9_t2 n) == (vc_pand9_t2 n)) = true from beq_iff_eq.2 (by omega)).symm⟩
  · exact ⟨rfl, rfl, .i64, (vc_pand9_t1 n), (vc_pand9_t1 n), rfl, rfl, (show ((vc_pand9_t1 n) == (vc_pand9_t1 n)) = true from beq_iff_eq.2 (by omega)).symm⟩
abbrev vc_pand9_sy (n : Int) (hr_n : -2147483648 ≤ n ∧ n ≤ 2147483647) (hc0 : 0 ≤ n) (hc1 : BitVec.ofInt 64 9 &&& BitVec.ofInt 64 n = 9) : Sy := syOf (vc_pand9_θ n) (vc_pand9_plain n) vc_pand9_r1 vc_pand9_r2 vc_pand9_re (vc_pand9_hr1 n hr_n hc0 hc1) (vc_pand9_hr2 n hr_n hc0 hc1) (vc_pand9_hre n hr_n hc0 hc1)

def vcomp_q (r0 r1 : Nat) : List (Ex × Value) := [(pMod 0 11, .int .i64 (Int.ofNat r0)), (pMod 1 6, .int .i64 (Int.ofNat r1))]
abbrev vcomp_env (u : Value) : Env := undef :: undef :: u :: List.replicate 23 undef
theorem vcomp_tox (r0 r1 : Nat) : toX Tryz.prog 0 125 (cm12.subs (vcomp_q r0 r1)) = some (xf12.c.subs (vcomp_q r0 r1)) := by kernel_rfl
theorem vcomp_go (I : Sy) (x0 x1 n : Int) (w : World) (r0 r1 : Nat) (e0 : res64 x0 11 = r0) (e1 : res64 x1 6 = r1) (u : Value) (hu : isSy u = true) (hu2 : .int .i32 n = syV I.θ u)
    (hr : tells (.bool true) (@xrun I xtabS 300 (vcomp_env u) (xf12.c.subs (vcomp_q r0 r1)) xf12.rs .nil 0) = true) : Ret Tryz.prog 12 [.int .i64 x0, .int .i64 x1, .int .i32 n] w fun v w' => v = .bool true ∧ Kept none' w w' := by
  subst e0; subst e1
  refine @ret_of_sub I _ _ _ _ add_ok _ _ (xtabS_ok w) (begin0 w) _ _ [0, 1, 2, 6, 15, 7, 8, 27, 29, 32, 33, 9, 10, 40, 42, 50, 51, 11, 54, 55, 56, 57, 12, 13, 14, 79] [] _ _ _ 300 _ _ (vcomp_q (res64 x0 11) (res64 x1 6)) [(0, .int .i64 x0), (1, .int .i64 x1)] Tryz.func12 (Nat.le_of_ble_eq_true (by kernel_rfl)) cmp_12 (by kernel_rfl) (by kernel_rfl) ?_ ?_ (vcomp_tox _ _) (vcomp_env u) (fun ρ => @symEnv_q I ρ _ _ ⟨.inl rfl, .inl rfl, .inr (.inl ⟨hu, hu2⟩), .inl rfl, .inl rfl, .inl rfl, .inl rfl, .inl rfl, .inl rfl, .inl rfl, .inl rfl, .inl rfl, .inl rfl, .inl rfl, .inl rfl, .inl rfl, .inl rfl, .inl rfl, .inl rfl, .inl rfl, .inl rfl, .inl rfl, .inl rfl, .inl rfl, .inl rfl, .inl rfl, trivial⟩) hr rfl
  · intro p hp
    simp only [List.mem_cons, List.not_mem_nil, or_false] at hp
    rcases hp with rfl | rfl <;> rfl
  · intro env hl p hp w
    simp only [vcomp_q, List.mem_cons, List.not_mem_nil, or_false] at hp
    rcases hp with rfl | rfl
    · exact ev_pMod (m := 11) (hl (0, .int .i64 x0) (by simp)) (by decide) (by decide) w
    · exact ev_pMod (m := 6) (hl (1, .int .i64 x1) (by simp)) (by decide) (by decide) w
end Go.Proofs.YtfdeipckfdogfaaGreat
