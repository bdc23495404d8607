/- VerifyCells: symbols (gensy.py). -/
import Derived.Test.YtfdeipckfdogfaaGreatEngXW
import Derived.Test.YtfdeipckfdogfaaGreatEngXN
import Derived.Test.YtfdeipckfdogfaaGreatXtab
set_option maxRecDepth 100000
set_option linter.unusedVariables false
namespace Go.Proofs.YtfdeipckfdogfaaGreat
open Go Go.Eng
namespace vl_in0
abbrev H (p : Nat → Int) : Prop := (-9223372036854775808 ≤ p 0 ∧ p 0 ≤ 9223372036854775807) ∧ (-9223372036854775808 ≤ p 1 ∧ p 1 ≤ 9223372036854775807) ∧ (-9223372036854775808 ≤ p 2 ∧ p 2 ≤ 9223372036854775807) ∧ (-32768 ≤ p 3 ∧ p 3 ≤ 32767) ∧ ((p 1 % 18446744073709551616) % 8 = 0) ∧ (0 ≤ (p 2 % 18446744073709551616) % 129 - 64 + p 3 ∧ (p 2 % 18446744073709551616) % 129 - 64 + p 3 + 4 ≤ 1 + (p 0 % 18446744073709551616) % 64)
def t0 (p : Nat → Int) : Int := p 0
def t1 (p : Nat → Int) : Int := p 1
def t2 (p : Nat → Int) : Int := p 2
def t3 (p : Nat → Int) : Int := p 3
def t4 (p : Nat → Int) : Int := (IntKind.u64.wrap (t2 p))
def t5 (p : Nat → Int) : Int := (Int.tmod (t4 p) 129)
def t6 (p : Nat → Int) : Int := (IntKind.i64.wrap (t5 p))
def t7 (p : Nat → Int) : Int := (IntKind.i64.wrap ((t6 p) - 64))
def t8 (p : Nat → Int) : Int := (IntKind.i32.wrap (t7 p))
def t9 (p : Nat → Int) : Int := (IntKind.u64.wrap (t1 p))
def t10 (p : Nat → Int) : Int := (IntKind.u64.wrap (t0 p))
def t11 (p : Nat → Int) : Int := (Int.tmod (t10 p) 64)
def t12 (p : Nat → Int) : Int := (IntKind.i64.wrap (t11 p))
def t13 (p : Nat → Int) : Int := (IntKind.i64.wrap (1 + (t12 p)))
def t14 (p : Nat → Int) : Int := (IntKind.i64.wrap (t3 p))
def t15 (p : Nat → Int) : Int := (IntKind.i64.wrap ((t7 p) + (t14 p)))
def t16 (p : Nat → Int) : Int := (IntKind.i64.wrap ((t15 p) + 4))
def t17 (p : Nat → Int) : Int := (IntKind.u64.wrap (t7 p))
def θ (p : Nat → Int) : Nat → Value := fun j => match j with
  | 0 => .int .i64 (t0 p)
  | 1 => .int .i64 (t1 p)
  | 2 => .int .i64 (t2 p)
  | 3 => .int .i16 (t3 p)
  | 4 => .int .u64 (t4 p)
  | 5 => .int .u64 (t5 p)
  | 6 => .int .i64 (t6 p)
  | 7 => .int .i64 (t7 p)
  | 8 => .int .i32 (t8 p)
  | 9 => .int .u64 (t9 p)
  | 10 => .int .u64 (t10 p)
  | 11 => .int .u64 (t11 p)
  | 12 => .int .i64 (t12 p)
  | 13 => .int .i64 (t13 p)
  | 14 => .int .i64 (t14 p)
  | 15 => .int .i64 (t15 p)
  | 16 => .int .i64 (t16 p)
  | 17 => .int .u64 (t17 p)
  | _ => .bool false
theorem plain (p : Nat → Int) : ∀ j, plainV (θ p j) = true := by intro j; unfold θ; split <;> rfl
theorem fs (p : Nat → Int) : (t0 p = p 0) ∧ (t1 p = p 1) ∧ (t2 p = p 2) ∧ (t3 p = p 3) ∧ (t4 p = (t2 p) % 18446744073709551616) ∧ (0 ≤ (t4 p) → t5 p = (t4 p) % 129) ∧ (-9223372036854775808 ≤ t6 p ∧ t6 p < 9223372036854775808 ∧ ((t5 p) - t6 p) % 18446744073709551616 = 0) ∧ (-9223372036854775808 ≤ t7 p ∧ t7 p < 9223372036854775808 ∧ (((t6 p) - 64) - t7 p) % 18446744073709551616 = 0) ∧ (-2147483648 ≤ t8 p ∧ t8 p < 2147483648 ∧ ((t7 p) - t8 p) % 4294967296 = 0) ∧ (t9 p = (t1 p) % 18446744073709551616) ∧ (t10 p = (t0 p) % 18446744073709551616) ∧ (0 ≤ (t10 p) → t11 p = (t10 p) % 64) ∧ (-9223372036854775808 ≤ t12 p ∧ t12 p < 9223372036854775808 ∧ ((t11 p) - t12 p) % 18446744073709551616 = 0) ∧ (-9223372036854775808 ≤ t13 p ∧ t13 p < 9223372036854775808 ∧ ((1 + (t12 p)) - t13 p) % 18446744073709551616 = 0) ∧ (-9223372036854775808 ≤ t14 p ∧ t14 p < 9223372036854775808 ∧ ((t3 p) - t14 p) % 18446744073709551616 = 0) ∧ (-9223372036854775808 ≤ t15 p ∧ t15 p < 9223372036854775808 ∧ (((t7 p) + (t14 p)) - t15 p) % 18446744073709551616 = 0) ∧ (-9223372036854775808 ≤ t16 p ∧ t16 p < 9223372036854775808 ∧ (((t15 p) + 4) - t16 p) % 18446744073709551616 = 0) ∧ (t17 p = (t7 p) % 18446744073709551616) := ⟨rfl, rfl, rfl, rfl, w_u64 _, Int.tmod_eq_emod_of_nonneg, w_i64 _, w_i64 _, w_i32 _, w_u64 _, w_u64 _, Int.tmod_eq_emod_of_nonneg, w_i64 _, w_i64 _, w_i64 _, w_i64 _, w_i64 _, w_u64 _⟩
def r1 : List (U1 × Value × Value) := [((.conv .u64), (.chan (some 2)), (.chan (some 4))), ((.conv .i64), (.chan (some 5)), (.chan (some 6))), ((.conv .i32), (.chan (some 7)), (.chan (some 8))), ((.conv .u64), (.chan (some 1)), (.chan (some 9))), ((.conv .u64), (.chan (some 0)), (.chan (some 10))), ((.conv .i64), (.chan (some 11)), (.chan (some 12))), ((.conv .i64), (.chan (some 8)), (.chan (some 7))), ((.conv .i64), (.chan (some 3)), (.chan (some 14))), ((.conv .u64), (.chan (some 7)), (.chan (some 17))), ((.conv .i64), (.chan (some 17)), (.chan (some 7)))]
theorem hr1 (p : Nat → Int) (h : H p) : ∀ x ∈ r1, Rule1 (θ p) x := by
  obtain ⟨⟨a0, b0⟩, ⟨a1, b1⟩, ⟨a2, b2⟩, ⟨a3, b3⟩, hc0, hc1⟩ := h
  obtain ⟨f0, f1, f2, f3, f4, f5, f6, f7, f8, f9, f10, f11, f12, f13, f14, f15, f16, f17⟩ := fs p
  replace f5 := f5 (by omega)
  replace f11 := f11 (by omega)
  intro x hx
  simp only [r1, List.mem_cons, List.not_mem_nil, or_false] at hx
  rcases hx with rfl | rfl | rfl | rfl | rfl | rfl | rfl | rfl | rfl | rfl
  · exact ⟨rfl, rfl, congrArg (fun z => some (Value.int .u64 z)) (show IntKind.u64.wrap (t2 p) = (t4 p) from ((w_u64 _).trans (by omega)))⟩
  · exact ⟨rfl, rfl, congrArg (fun z => some (Value.int .i64 z)) (show IntKind.i64.wrap (t5 p) = (t6 p) from (by have g := w_i64 ((t5 p)); omega))⟩
  · exact ⟨rfl, rfl, congrArg (fun z => some (Value.int .i32 z)) (show IntKind.i32.wrap (t7 p) = (t8 p) from (by have g := w_i32 ((t7 p)); omega))⟩
  · exact ⟨rfl, rfl, congrArg (fun z => some (Value.int .u64 z)) (show IntKind.u64.wrap (t1 p) = (t9 p) from ((w_u64 _).trans (by omega)))⟩
  · exact ⟨rfl, rfl, congrArg (fun z => some (Value.int .u64 z)) (show IntKind.u64.wrap (t0 p) = (t10 p) from ((w_u64 _).trans (by omega)))⟩
  · exact ⟨rfl, rfl, congrArg (fun z => some (Value.int .i64 z)) (show IntKind.i64.wrap (t11 p) = (t12 p) from (by have g := w_i64 ((t11 p)); omega))⟩
  · exact ⟨rfl, rfl, congrArg (fun z => some (Value.int .i64 z)) (show IntKind.i64.wrap (t8 p) = (t7 p) from (by have g := w_i64 ((t8 p)); omega))⟩
  · exact ⟨rfl, rfl, congrArg (fun z => some (Value.int .i64 z)) (show IntKind.i64.wrap (t3 p) = (t14 p) from (by have g := w_i64 ((t3 p)); omega))⟩
  · exact ⟨rfl, rfl, congrArg (fun z => some (Value.int .u64 z)) (show IntKind.u64.wrap (t7 p) = (t17 p) from ((w_u64 _).trans (by omega)))⟩
  · exact ⟨rfl, rfl, congrArg (fun z => some (Value.int .i64 z)) (show IntKind.i64.wrap (t17 p) = (t7 p) from (by have g := w_i64 ((t17 p)); omega))⟩
def r2 : List (U2 × Value × Value × Value) := [((.bin .rem), (.chan (some 4)), (.int .u64 129), (.chan (some 5))), ((.bin .sub), (.chan (some 6)), (.int .i64 64), (.chan (some 7))), ((.bin .rem), (.chan (some 9)), (.int .u64 8), (.int .u64 0)), ((.bin .rem), (.chan (some 10)), (.int .u64 64), (.chan (some 11))), ((.bin .add), (.int .i64 1), (.chan (some 12)), (.chan (some 13))), ((.bin .add), (.chan (some 7)), (.chan (some 14)), (.chan (some 15))), ((.bin .geq), (.chan (some 15)), (.int .i64 0), (.bool true)), ((.bin .add), (.chan (some 15)), (.int .i64 4), (.chan (some 16))), ((.bin .leq), (.chan (some 16)), (.chan (some 13)), (.bool true)), ((.bin .geq), (.chan (some 13)), (.int .i64 1), (.bool true)), ((.bin .leq), (.chan (some 13)), (.int .i64 64), (.bool true)), ((.bin .lss), (.chan (some 7)), (.int .i64 (-64)), (.bool false)), ((.bin .gtr), (.chan (some 7)), (.int .i64 64), (.bool false)), ((.bin .gtr), (.chan (some 7)), (.chan (some 7)), (.bool false)), ((.bin .eql), (.chan (some 7)), (.chan (some 7)), (.bool true)), ((.bin .add), (.int .i64 0), (.chan (some 7)), (.chan (some 7))), ((.bin .geq), (.chan (some 7)), (.int .i64 (-131072)), (.bool true)), ((.bin .leq), (.chan (some 7)), (.int .i64 131072), (.bool true))]
theorem hr2 (p : Nat → Int) (h : H p) : ∀ x ∈ r2, Rule2 (θ p) x := by
  obtain ⟨⟨a0, b0⟩, ⟨a1, b1⟩, ⟨a2, b2⟩, ⟨a3, b3⟩, hc0, hc1⟩ := h
  obtain ⟨f0, f1, f2, f3, f4, f5, f6, f7, f8, f9, f10, f11, f12, f13, f14, f15, f16, f17⟩ := fs p
  replace f5 := f5 (by omega)
  replace f11 := f11 (by omega)
  intro x hx
  simp only [r2, List.mem_cons, List.not_mem_nil, or_false] at hx
  rcases hx with rfl | rfl | rfl | rfl | rfl | rfl | rfl | rfl | rfl | rfl | rfl | rfl | rfl | rfl | rfl | rfl | rfl | rfl
  · exact ⟨rfl, rfl, rfl, by show intBin .rem .u64 (t4 p) .u64 (129) = some (.int .u64 (t5 p)); rw [show intBin .rem .u64 (t4 p) .u64 (129) = if IntKind.u64 = IntKind.u64 ∧ (129) ≠ 0 then some (.int .u64 (Int.tmod (t4 p) (129))) else none from rfl, if_pos ⟨rfl, by omega⟩, Int.tmod_eq_emod_of_nonneg (by omega)]; exact congrArg (fun z => some (Value.int .u64 z)) (by omega)⟩
  · exact ⟨rfl, rfl, rfl, congrArg (fun z => some (Value.int .i64 z)) (show IntKind.i64.wrap ((t6 p) - (64)) = (t7 p) from (by have g := w_i64 (((t6 p) - (64))); omega))⟩
  · exact ⟨rfl, rfl, rfl, by show intBin .rem .u64 (t9 p) .u64 (8) = some (.int .u64 (0)); rw [show intBin .rem .u64 (t9 p) .u64 (8) = if IntKind.u64 = IntKind.u64 ∧ (8) ≠ 0 then some (.int .u64 (Int.tmod (t9 p) (8))) else none from rfl, if_pos ⟨rfl, by omega⟩, Int.tmod_eq_emod_of_nonneg (by omega)]; exact congrArg (fun z => some (Value.int .u64 z)) (by omega)⟩
  · exact ⟨rfl, rfl, rfl, by show intBin .rem .u64 (t10 p) .u64 (64) = some (.int .u64 (t11 p)); rw [show intBin .rem .u64 (t10 p) .u64 (64) = if IntKind.u64 = IntKind.u64 ∧ (64) ≠ 0 then some (.int .u64 (Int.tmod (t10 p) (64))) else none from rfl, if_pos ⟨rfl, by omega⟩, Int.tmod_eq_emod_of_nonneg (by omega)]; exact congrArg (fun z => some (Value.int .u64 z)) (by omega)⟩
  · exact ⟨rfl, rfl, rfl, congrArg (fun z => some (Value.int .i64 z)) (show IntKind.i64.wrap ((1) + (t12 p)) = (t13 p) from (by have g := w_i64 (((1) + (t12 p))); omega))⟩
  · exact ⟨rfl, rfl, rfl, congrArg (fun z => some (Value.int .i64 z)) (show IntKind.i64.wrap ((t7 p) + (t14 p)) = (t15 p) from (by have g := w_i64 (((t7 p) + (t14 p))); omega))⟩
  · exact ⟨rfl, rfl, rfl, congrArg (fun z => some (Value.bool z)) (decide_eq_true (show ((t15 p) ≥ (0)) from by omega))⟩
  · exact ⟨rfl, rfl, rfl, congrArg (fun z => some (Value.int .i64 z)) (show IntKind.i64.wrap ((t15 p) + (4)) = (t16 p) from (by have g := w_i64 (((t15 p) + (4))); omega))⟩
  · exact ⟨rfl, rfl, rfl, congrArg (fun z => some (Value.bool z)) (decide_eq_true (show ((t16 p) ≤ (t13 p)) from by omega))⟩
  · exact ⟨rfl, rfl, rfl, congrArg (fun z => some (Value.bool z)) (decide_eq_true (show ((t13 p) ≥ (1)) from by omega))⟩
  · exact ⟨rfl, rfl, rfl, congrArg (fun z => some (Value.bool z)) (decide_eq_true (show ((t13 p) ≤ (64)) from by omega))⟩
  · exact ⟨rfl, rfl, rfl, congrArg (fun z => some (Value.bool z)) (decide_eq_false (show ¬ ((t7 p) < (-64)) from by omega))⟩
  · exact ⟨rfl, rfl, rfl, congrArg (fun z => some (Value.bool z)) (decide_eq_false (show ¬ ((t7 p) > (64)) from by omega))⟩
  · exact ⟨rfl, rfl, rfl, congrArg (fun z => some (Value.bool z)) (decide_eq_false (show ¬ ((t7 p) > (t7 p)) from by omega))⟩
  · exact ⟨rfl, rfl, rfl, congrArg (fun z => some (Value.bool z)) (show ((t7 p) == (t7 p)) = true from beq_iff_eq.2 (by omega))⟩
  · exact ⟨rfl, rfl, rfl, congrArg (fun z => some (Value.int .i64 z)) (show IntKind.i64.wrap ((0) + (t7 p)) = (t7 p) from (by have g := w_i64 (((0) + (t7 p))); omega))⟩
  · exact ⟨rfl, rfl, rfl, congrArg (fun z => some (Value.bool z)) (decide_eq_true (show ((t7 p) ≥ (-131072)) from by omega))⟩
  · exact ⟨rfl, rfl, rfl, congrArg (fun z => some (Value.bool z)) (decide_eq_true (show ((t7 p) ≤ (131072)) from by omega))⟩
def re : List (Value × Value × Bool) := []
theorem hre (p : Nat → Int) (h : H p) : ∀ x ∈ re, RuleE (θ p) x := fun x hx => nomatch hx
abbrev sy (p : Nat → Int) (h : H p) : Sy := syOf (θ p) (plain p) r1 r2 re (hr1 p h) (hr2 p h) (hre p h)
end vl_in0
namespace vl_lo0
abbrev H (p : Nat → Int) : Prop := (-9223372036854775808 ≤ p 0 ∧ p 0 ≤ 9223372036854775807) ∧ (-9223372036854775808 ≤ p 1 ∧ p 1 ≤ 9223372036854775807) ∧ (-9223372036854775808 ≤ p 2 ∧ p 2 ≤ 9223372036854775807) ∧ (-32768 ≤ p 3 ∧ p 3 ≤ 32767) ∧ ((p 1 % 18446744073709551616) % 8 = 0) ∧ ((p 2 % 18446744073709551616) % 129 - 64 + p 3 < 0)
def t0 (p : Nat → Int) : Int := p 0
def t1 (p : Nat → Int) : Int := p 1
def t2 (p : Nat → Int) : Int := p 2
def t3 (p : Nat → Int) : Int := p 3
def t4 (p : Nat → Int) : Int := (IntKind.u64.wrap (t2 p))
def t5 (p : Nat → Int) : Int := (Int.tmod (t4 p) 129)
def t6 (p : Nat → Int) : Int := (IntKind.i64.wrap (t5 p))
def t7 (p : Nat → Int) : Int := (IntKind.i64.wrap ((t6 p) - 64))
def t8 (p : Nat → Int) : Int := (IntKind.i32.wrap (t7 p))
def t9 (p : Nat → Int) : Int := (IntKind.u64.wrap (t1 p))
def t10 (p : Nat → Int) : Int := (IntKind.u64.wrap (t0 p))
def t11 (p : Nat → Int) : Int := (Int.tmod (t10 p) 64)
def t12 (p : Nat → Int) : Int := (IntKind.i64.wrap (t11 p))
def t13 (p : Nat → Int) : Int := (IntKind.i64.wrap (1 + (t12 p)))
def t14 (p : Nat → Int) : Int := (IntKind.i64.wrap (t3 p))
def t15 (p : Nat → Int) : Int := (IntKind.i64.wrap ((t7 p) + (t14 p)))
def t16 (p : Nat → Int) : Int := (IntKind.u64.wrap (t7 p))
def θ (p : Nat → Int) : Nat → Value := fun j => match j with
  | 0 => .int .i64 (t0 p)
  | 1 => .int .i64 (t1 p)
  | 2 => .int .i64 (t2 p)
  | 3 => .int .i16 (t3 p)
  | 4 => .int .u64 (t4 p)
  | 5 => .int .u64 (t5 p)
  | 6 => .int .i64 (t6 p)
  | 7 => .int .i64 (t7 p)
  | 8 => .int .i32 (t8 p)
  | 9 => .int .u64 (t9 p)
  | 10 => .int .u64 (t10 p)
  | 11 => .int .u64 (t11 p)
  | 12 => .int .i64 (t12 p)
  | 13 => .int .i64 (t13 p)
  | 14 => .int .i64 (t14 p)
  | 15 => .int .i64 (t15 p)
  | 16 => .int .u64 (t16 p)
  | _ => .bool false
theorem plain (p : Nat → Int) : ∀ j, plainV (θ p j) = true := by intro j; unfold θ; split <;> rfl
theorem fs (p : Nat → Int) : (t0 p = p 0) ∧ (t1 p = p 1) ∧ (t2 p = p 2) ∧ (t3 p = p 3) ∧ (t4 p = (t2 p) % 18446744073709551616) ∧ (0 ≤ (t4 p) → t5 p = (t4 p) % 129) ∧ (-9223372036854775808 ≤ t6 p ∧ t6 p < 9223372036854775808 ∧ ((t5 p) - t6 p) % 18446744073709551616 = 0) ∧ (-9223372036854775808 ≤ t7 p ∧ t7 p < 9223372036854775808 ∧ (((t6 p) - 64) - t7 p) % 18446744073709551616 = 0) ∧ (-2147483648 ≤ t8 p ∧ t8 p < 2147483648 ∧ ((t7 p) - t8 p) % 4294967296 = 0) ∧ (t9 p = (t1 p) % 18446744073709551616) ∧ (t10 p = (t0 p) % 18446744073709551616) ∧ (0 ≤ (t10 p) → t11 p = (t10 p) % 64) ∧ (-9223372036854775808 ≤ t12 p ∧ t12 p < 9223372036854775808 ∧ ((t11 p) - t12 p) % 18446744073709551616 = 0) ∧ (-9223372036854775808 ≤ t13 p ∧ t13 p < 9223372036854775808 ∧ ((1 + (t12 p)) - t13 p) % 18446744073709551616 = 0) ∧ (-9223372036854775808 ≤ t14 p ∧ t14 p < 9223372036854775808 ∧ ((t3 p) - t14 p) % 18446744073709551616 = 0) ∧ (-9223372036854775808 ≤ t15 p ∧ t15 p < 9223372036854775808 ∧ (((t7 p) + (t14 p)) - t15 p) % 18446744073709551616 = 0) ∧ (t16 p = (t7 p) % 18446744073709551616) := ⟨rfl, rfl, rfl, rfl, w_u64 _, Int.tmod_eq_emod_of_nonneg, w_i64 _, w_i64 _, w_i32 _, w_u64 _, w_u64 _, Int.tmod_eq_emod_of_nonneg, w_i64 _, w_i64 _, w_i64 _, w_i64 _, w_u64 _⟩
def r1 : List (U1 × Value × Value) := [((.conv .u64), (.chan (some 2)), (.chan (some 4))), ((.conv .i64), (.chan (some 5)), (.chan (some 6))), ((.conv .i32), (.chan (some 7)), (.chan (some 8))), ((.conv .u64), (.chan (some 1)), (.chan (some 9))), ((.conv .u64), (.chan (some 0)), (.chan (some 10))), ((.conv .i64), (.chan (some 11)), (.chan (some 12))), ((.conv .i64), (.chan (some 8)), (.chan (some 7))), ((.conv .i64), (.chan (some 3)), (.chan (some 14))), ((.conv .u64), (.chan (some 7)), (.chan (some 16))), ((.conv .i64), (.chan (some 16)), (.chan (some 7)))]
theorem hr1 (p : Nat → Int) (h : H p) : ∀ x ∈ r1, Rule1 (θ p) x := by
  obtain ⟨⟨a0, b0⟩, ⟨a1, b1⟩, ⟨a2, b2⟩, ⟨a3, b3⟩, hc0, hc1⟩ := h
  obtain ⟨f0, f1, f2, f3, f4, f5, f6, f7, f8, f9, f10, f11, f12, f13, f14, f15, f16⟩ := fs p
  replace f5 := f5 (by omega)
  replace f11 := f11 (by omega)
  intro x hx
  simp only [r1, List.mem_cons, List.not_mem_nil, or_false] at hx
  rcases hx with rfl | rfl | rfl | rfl | rfl | rfl | rfl | rfl | rfl | rfl
  · exact ⟨rfl, rfl, congrArg (fun z => some (Value.int .u64 z)) (show IntKind.u64.wrap (t2 p) = (t4 p) from ((w_u64 _).trans (by omega)))⟩
  · exact ⟨rfl, rfl, congrArg (fun z => some (Value.int .i64 z)) (show IntKind.i64.wrap (t5 p) = (t6 p) from (by have g := w_i64 ((t5 p)); omega))⟩
  · exact ⟨rfl, rfl, congrArg (fun z => some (Value.int .i32 z)) (show IntKind.i32.wrap (t7 p) = (t8 p) from (by have g := w_i32 ((t7 p)); omega))⟩
  · exact ⟨rfl, rfl, congrArg (fun z => some (Value.int .u64 z)) (show IntKind.u64.wrap (t1 p) = (t9 p) from ((w_u64 _).trans (by omega)))⟩
  · exact ⟨rfl, rfl, congrArg (fun z => some (Value.int .u64 z)) (show IntKind.u64.wrap (t0 p) = (t10 p) from ((w_u64 _).trans (by omega)))⟩
  · exact ⟨rfl, rfl, congrArg (fun z => some (Value.int .i64 z)) (show IntKind.i64.wrap (t11 p) = (t12 p) from (by have g := w_i64 ((t11 p)); omega))⟩
  · exact ⟨rfl, rfl, congrArg (fun z => some (Value.int .i64 z)) (show IntKind.i64.wrap (t8 p) = (t7 p) from (by have g := w_i64 ((t8 p)); omega))⟩
  · exact ⟨rfl, rfl, congrArg (fun z => some (Value.int .i64 z)) (show IntKind.i64.wrap (t3 p) = (t14 p) from (by have g := w_i64 ((t3 p)); omega))⟩
  · exact ⟨rfl, rfl, congrArg (fun z => some (Value.int .u64 z)) (show IntKind.u64.wrap (t7 p) = (t16 p) from ((w_u64 _).trans (by omega)))⟩
  · exact ⟨rfl, rfl, congrArg (fun z => some (Value.int .i64 z)) (show IntKind.i64.wrap (t16 p) = (t7 p) from (by have g := w_i64 ((t16 p)); omega))⟩
def r2 : List (U2 × Value × Value × Value) := [((.bin .rem), (.chan (some 4)), (.int .u64 129), (.chan (some 5))), ((.bin .sub), (.chan (some 6)), (.int .i64 64), (.chan (some 7))), ((.bin .rem), (.chan (some 9)), (.int .u64 8), (.int .u64 0)), ((.bin .rem), (.chan (some 10)), (.int .u64 64), (.chan (some 11))), ((.bin .add), (.int .i64 1), (.chan (some 12)), (.chan (some 13))), ((.bin .add), (.chan (some 7)), (.chan (some 14)), (.chan (some 15))), ((.bin .geq), (.chan (some 15)), (.int .i64 0), (.bool false)), ((.bin .geq), (.chan (some 13)), (.int .i64 1), (.bool true)), ((.bin .leq), (.chan (some 13)), (.int .i64 64), (.bool true)), ((.bin .lss), (.chan (some 7)), (.int .i64 (-64)), (.bool false)), ((.bin .gtr), (.chan (some 7)), (.int .i64 64), (.bool false)), ((.bin .gtr), (.chan (some 7)), (.chan (some 7)), (.bool false)), ((.bin .eql), (.chan (some 7)), (.chan (some 7)), (.bool true)), ((.bin .add), (.int .i64 0), (.chan (some 7)), (.chan (some 7))), ((.bin .geq), (.chan (some 7)), (.int .i64 (-131072)), (.bool true)), ((.bin .leq), (.chan (some 7)), (.int .i64 131072), (.bool true))]
theorem hr2 (p : Nat → Int) (h : H p) : ∀ x ∈ r2, Rule2 (θ p) x := by
  obtain ⟨⟨a0, b0⟩, ⟨a1, b1⟩, ⟨a2, b2⟩, ⟨a3, b3⟩, hc0, hc1⟩ := h
  obtain ⟨f0, f1, f2, f3, f4, f5, f6, f7, f8, f9, f10, f11, f12, f13, f14, f15, f16⟩ := fs p
  replace f5 := f5 (by omega)
  replace f11 := f11 (by omega)
  intro x hx
  simp only [r2, List.mem_cons, List.not_mem_nil, or_false] at hx
  rcases hx with rfl | rfl | rfl | rfl | rfl | rfl | rfl | rfl | rfl | rfl | rfl | rfl | rfl | rfl | rfl | rfl
  · exact ⟨rfl, rfl, rfl, by show intBin .rem .u64 (t4 p) .u64 (129) = some (.int .u64 (t5 p)); rw [show intBin .rem .u64 (t4 p) .u64 (129) = if IntKind.u64 = IntKind.u64 ∧ (129) ≠ 0 then some (.int .u64 (Int.tmod (t4 p) (129))) else none from rfl, if_pos ⟨rfl, by omega⟩, Int.tmod_eq_emod_of_nonneg (by omega)]; exact congrArg (fun z => some (Value.int .u64 z)) (by omega)⟩
  · exact ⟨rfl, rfl, rfl, congrArg (fun z => some (Value.int .i64 z)) (show IntKind.i64.wrap ((t6 p) - (64)) = (t7 p) from (by have g := w_i64 (((t6 p) - (64))); omega))⟩
  · exact ⟨rfl, rfl, rfl, by show intBin .rem .u64 (t9 p) .u64 (8) = some (.int .u64 (0)); rw [show intBin .rem .u64 (t9 p) .u64 (8) = if IntKind.u64 = IntKind.u64 ∧ (8) ≠ 0 then some (.int .u64 (Int.tmod (t9 p) (8))) else none from rfl, if_pos ⟨rfl, by omega⟩, Int.tmod_eq_emod_of_nonneg (by omega)]; exact congrArg (fun z => some (Value.int .u64 z)) (by omega)⟩
  · exact ⟨rfl, rfl, rfl, by show intBin .rem .u64 (t10 p) .u64 (64) = some (.int .u64 (t11 p)); rw [show intBin .rem .u64 (t10 p) .u64 (64) = if IntKind.u64 = IntKind.u64 ∧ (64) ≠ 0 then some (.int .u64 (Int.tmod (t10 p) (64))) else none from rfl, if_pos ⟨rfl, by omega⟩, Int.tmod_eq_emod_of_nonneg (by omega)]; exact congrArg (fun z => some (Value.int .u64 z)) (by omega)⟩
  · exact ⟨rfl, rfl, rfl, congrArg (fun z => some (Value.int .i64 z)) (show IntKind.i64.wrap ((1) + (t12 p)) = (t13 p) from (by have g := w_i64 (((1) + (t12 p))); omega))⟩
  · exact ⟨rfl, rfl, rfl, congrArg (fun z => some (Value.int .i64 z)) (show IntKind.i64.wrap ((t7 p) + (t14 p)) = (t15 p) from (by have g := w_i64 (((t7 p) + (t14 p))); omega))⟩
  · exact ⟨rfl, rfl, rfl, congrArg (fun z => some (Value.bool z)) (decide_eq_false (show ¬ ((t15 p) ≥ (0)) from by omega))⟩
  · exact ⟨rfl, rfl, rfl, congrArg (fun z => some (Value.bool z)) (decide_eq_true (show ((t13 p) ≥ (1)) from by omega))⟩
  · exact ⟨rfl, rfl, rfl, congrArg (fun z => some (Value.bool z)) (decide_eq_true (show ((t13 p) ≤ (64)) from by omega))⟩
  · exact ⟨rfl, rfl, rfl, congrArg (fun z => some (Value.bool z)) (decide_eq_false (show ¬ ((t7 p) < (-64)) from by omega))⟩
  · exact ⟨rfl, rfl, rfl, congrArg (fun z => some (Value.bool z)) (decide_eq_false (show ¬ ((t7 p) > (64)) from by omega))⟩
  · exact ⟨rfl, rfl, rfl, congrArg (fun z => some (Value.bool z)) (decide_eq_false (show ¬ ((t7 p) > (t7 p)) from by omega))⟩
  · exact ⟨rfl, rfl, rfl, congrArg (fun z => some (Value.bool z)) (show ((t7 p) == (t7 p)) = true from beq_iff_eq.2 (by omega))⟩
  · exact ⟨rfl, rfl, rfl, congrArg (fun z => some (Value.int .i64 z)) (show IntKind.i64.wrap ((0) + (t7 p)) = (t7 p) from (by have g := w_i64 (((0) + (t7 p))); omega))⟩
  · exact ⟨rfl, rfl, rfl, congrArg (fun z => some (Value.bool z)) (decide_eq_true (show ((t7 p) ≥ (-131072)) from by omega))⟩
  · exact ⟨rfl, rfl, rfl, congrArg (fun z => some (Value.bool z)) (decide_eq_true (show ((t7 p) ≤ (131072)) from by omega))⟩
def re : List (Value × Value × Bool) := []
theorem hre (p : Nat → Int) (h : H p) : ∀ x ∈ re, RuleE (θ p) x := fun x hx => nomatch hx
abbrev sy (p : Nat → Int) (h : H p) : Sy := syOf (θ p) (plain p) r1 r2 re (hr1 p h) (hr2 p h) (hre p h)
end vl_lo0
namespace vl_hi0
abbrev H (p : Nat → Int) : Prop := (-9223372036854775808 ≤ p 0 ∧ p 0 ≤ 9223372036854775807) ∧ (-9223372036854775808 ≤ p 1 ∧ p 1 ≤ 9223372036854775807) ∧ (-9223372036854775808 ≤ p 2 ∧ p 2 ≤ 9223372036854775807) ∧ (-32768 ≤ p 3 ∧ p 3 ≤ 32767) ∧ ((p 1 % 18446744073709551616) % 8 = 0) ∧ (0 ≤ (p 2 % 18446744073709551616) % 129 - 64 + p 3 ∧ 1 + (p 0 % 18446744073709551616) % 64 < (p 2 % 18446744073709551616) % 129 - 64 + p 3 + 4)
def t0 (p : Nat → Int) : Int := p 0
def t1 (p : Nat → Int) : Int := p 1
def t2 (p : Nat → Int) : Int := p 2
def t3 (p : Nat → Int) : Int := p 3
def t4 (p : Nat → Int) : Int := (IntKind.u64.wrap (t2 p))
def t5 (p : Nat → Int) : Int := (Int.tmod (t4 p) 129)
def t6 (p : Nat → Int) : Int := (IntKind.i64.wrap (t5 p))
def t7 (p : Nat → Int) : Int := (IntKind.i64.wrap ((t6 p) - 64))
def t8 (p : Nat → Int) : Int := (IntKind.i32.wrap (t7 p))
def t9 (p : Nat → Int) : Int := (IntKind.u64.wrap (t1 p))
def t10 (p : Nat → Int) : Int := (IntKind.u64.wrap (t0 p))
def t11 (p : Nat → Int) : Int := (Int.tmod (t10 p) 64)
def t12 (p : Nat → Int) : Int := (IntKind.i64.wrap (t11 p))
def t13 (p : Nat → Int) : Int := (IntKind.i64.wrap (1 + (t12 p)))
def t14 (p : Nat → Int) : Int := (IntKind.i64.wrap (t3 p))
def t15 (p : Nat → Int) : Int := (IntKind.i64.wrap ((t7 p) + (t14 p)))
def t16 (p : Nat → Int) : Int := (IntKind.i64.wrap ((t15 p) + 4))
def t17 (p : Nat → Int) : Int := (IntKind.u64.wrap (t7 p))
def θ (p : Nat → Int) : Nat → Value := fun j => match j with
  | 0 => .int .i64 (t0 p)
  | 1 => .int .i64 (t1 p)
  | 2 => .int .i64 (t2 p)
  | 3 => .int .i16 (t3 p)
  | 4 => .int .u64 (t4 p)
  | 5 => .int .u64 (t5 p)
  | 6 => .int .i64 (t6 p)
  | 7 => .int .i64 (t7 p)
  | 8 => .int .i32 (t8 p)
  | 9 => .int .u64 (t9 p)
  | 10 => .int .u64 (t10 p)
  | 11 => .int .u64 (t11 p)
  | 12 => .int .i64 (t12 p)
  | 13 => .int .i64 (t13 p)
  | 14 => .int .i64 (t14 p)
  | 15 => .int .i64 (t15 p)
  | 16 => .int .i64 (t16 p)
  | 17 => .int .u64 (t17 p)
  | _ => .bool false
theorem plain (p : Nat → Int) : ∀ j, plainV (θ p j) = true := by intro j; unfold θ; split <;> rfl
theorem fs (p : Nat → Int) : (t0 p = p 0) ∧ (t1 p = p 1) ∧ (t2 p = p 2) ∧ (t3 p = p 3) ∧ (t4 p = (t2 p) % 18446744073709551616) ∧ (0 ≤ (t4 p) → t5 p = (t4 p) % 129) ∧ (-9223372036854775808 ≤ t6 p ∧ t6 p < 9223372036854775808 ∧ ((t5 p) - t6 p) % 18446744073709551616 = 0) ∧ (-9223372036854775808 ≤ t7 p ∧ t7 p < 9223372036854775808 ∧ (((t6 p) - 64) - t7 p) % 18446744073709551616 = 0) ∧ (-2147483648 ≤ t8 p ∧ t8 p < 2147483648 ∧ ((t7 p) - t8 p) % 4294967296 = 0) ∧ (t9 p = (t1 p) % 18446744073709551616) ∧ (t10 p = (t0 p) % 18446744073709551616) ∧ (0 ≤ (t10 p) → t11 p = (t10 p) % 64) ∧ (-9223372036854775808 ≤ t12 p ∧ t12 p < 9223372036854775808 ∧ ((t11 p) - t12 p) % 18446744073709551616 = 0) ∧ (-9223372036854775808 ≤ t13 p ∧ t13 p < 9223372036854775808 ∧ ((1 + (t12 p)) - t13 p) % 18446744073709551616 = 0) ∧ (-9223372036854775808 ≤ t14 p ∧ t14 p < 9223372036854775808 ∧ ((t3 p) - t14 p) % 18446744073709551616 = 0) ∧ (-9223372036854775808 ≤ t15 p ∧ t15 p < 9223372036854775808 ∧ (((t7 p) + (t14 p)) - t15 p) % 18446744073709551616 = 0) ∧ (-9223372036854775808 ≤ t16 p ∧ t16 p < 9223372036854775808 ∧ (((t15 p) + 4) - t16 p) % 18446744073709551616 = 0) ∧ (t17 p = (t7 p) % 18446744073709551616) := ⟨rfl, rfl, rfl, rfl, w_u64 _, Int.tmod_eq_emod_of_nonneg, w_i64 _, w_i64 _, w_i32 _, w_u64 _, w_u64 _, Int.tmod_eq_emod_of_nonneg, w_i64 _, w_i64 _, w_i64 _, w_i64 _, w_i64 _, w_u64 _⟩
def r1 : List (U1 × Value × Value) := [((.conv .u64), (.chan (some 2)), (.chan (some 4))), ((.conv .i64), (.chan (some 5)), (.chan (some 6))), ((.conv .i32), (.chan (some 7)), (.chan (some 8))), ((.conv .u64), (.chan (some 1)), (.chan (some 9))), ((.conv .u64), (.chan (some 0)), (.chan (some 10))), ((.conv .i64), (.chan (some 11)), (.chan (some 12))), ((.conv .i64), (.chan (some 8)), (.chan (some 7))), ((.conv .i64), (.chan (some 3)), (.chan (some 14))), ((.conv .u64), (.chan (some 7)), (.chan (some 17))), ((.conv .i64), (.chan (some 17)), (.chan (some 7)))]
theorem hr1 (p : Nat → Int) (h : H p) : ∀ x ∈ r1, Rule1 (θ p) x := by
  obtain ⟨⟨a0, b0⟩, ⟨a1, b1⟩, ⟨a2, b2⟩, ⟨a3, b3⟩, hc0, hc1⟩ := h
  obtain ⟨f0, f1, f2, f3, f4, f5, f6, f7, f8, f9, f10, f11, f12, f13, f14, f15, f16, f17⟩ := fs p
  replace f5 := f5 (by omega)
  replace f11 := f11 (by omega)
  intro x hx
  simp only [r1, List.mem_cons, List.not_mem_nil, or_false] at hx
  rcases hx with rfl | rfl | rfl | rfl | rfl | rfl | rfl | rfl | rfl | rfl
  · exact ⟨rfl, rfl, congrArg (fun z => some (Value.int .u64 z)) (show IntKind.u64.wrap (t2 p) = (t4 p) from ((w_u64 _).trans (by omega)))⟩
  · exact ⟨rfl, rfl, congrArg (fun z => some (Value.int .i64 z)) (show IntKind.i64.wrap (t5 p) = (t6 p) from (by have g := w_i64 ((t5 p)); omega))⟩
  · exact ⟨rfl, rfl, congrArg (fun z => some (Value.int .i32 z)) (show IntKind.i32.wrap (t7 p) = (t8 p) from (by have g := w_i32 ((t7 p)); omega))⟩
  · exact ⟨rfl, rfl, congrArg (fun z => some (Value.int .u64 z)) (show IntKind.u64.wrap (t1 p) = (t9 p) from ((w_u64 _).trans (by omega)))⟩
  · exact ⟨rfl, rfl, congrArg (fun z => some (Value.int .u64 z)) (show IntKind.u64.wrap (t0 p) = (t10 p) from ((w_u64 _).trans (by omega)))⟩
  · exact ⟨rfl, rfl, congrArg (fun z => some (Value.int .i64 z)) (show IntKind.i64.wrap (t11 p) = (t12 p) from (by have g := w_i64 ((t11 p)); omega))⟩
  · exact ⟨rfl, rfl, congrArg (fun z => some (Value.int .i64 z)) (show IntKind.i64.wrap (t8 p) = (t7 p) from (by have g := w_i64 ((t8 p)); omega))⟩
  · exact ⟨rfl, rfl, congrArg (fun z => some (Value.int .i64 z)) (show IntKind.i64.wrap (t3 p) = (t14 p) from (by have g := w_i64 ((t3 p)); omega))⟩
  · exact ⟨rfl, rfl, congrArg (fun z => some (Value.int .u64 z)) (show IntKind.u64.wrap (t7 p) = (t17 p) from ((w_u64 _).trans (by omega)))⟩
  · exact ⟨rfl, rfl, congrArg (fun z => some (Value.int .i64 z)) (show IntKind.i64.wrap (t17 p) = (t7 p) from (by have g := w_i64 ((t17 p)); omega))⟩
def r2 : List (U2 × Value × Value × Value) := [((.bin .rem), (.chan (some 4)), (.int .u64 129), (.chan (some 5))), ((.bin .sub), (.chan (some 6)), (.int .i64 64), (.chan (some 7))), ((.bin .rem), (.chan (some 9)), (.int .u64 8), (.int .u64 0)), ((.bin .rem), (.chan (some 10)), (.int .u64 64), (.chan (some 11))), ((.bin .add), (.int .i64 1), (.chan (some 12)), (.chan (some 13))), ((.bin .add), (.chan (some 7)), (.chan (some 14)), (.chan (some 15))), ((.bin .geq), (.chan (some 15)), (.int .i64 0), (.bool true)), ((.bin .add), (.chan (some 15)), (.int .i64 4), (.chan (some 16))), ((.bin .leq), (.chan (some 16)), (.chan (some 13)), (.bool false)), ((.bin .geq), (.chan (some 13)), (.int .i64 1), (.bool true)), ((.bin .leq), (.chan (some 13)), (.int .i64 64), (.bool true)), ((.bin .lss), (.chan (some 7)), (.int .i64 (-64)), (.bool false)), ((.bin .gtr), (.chan (some 7)), (.int .i64 64), (.bool false)), ((.bin .gtr), (.chan (some 7)), (.chan (some 7)), (.bool false)), ((.bin .eql), (.chan (some 7)), (.chan (some 7)), (.bool true)), ((.bin .add), (.int .i64 0), (.chan (some 7)), (.chan (some 7))), ((.bin .geq), (.chan (some 7)), (.int .i64 (-131072)), (.bool true)), ((.bin .leq), (.chan (some 7)), (.int .i64 131072), (.bool true))]
theorem hr2 (p : Nat → Int) (h : H p) : ∀ x ∈ r2, Rule2 (θ p) x := by
  obtain ⟨⟨a0, b0⟩, ⟨a1, b1⟩, ⟨a2, b2⟩, ⟨a3, b3⟩, hc0, hc1⟩ := h
  obtain ⟨f0, f1, f2, f3, f4, f5, f6, f7, f8, f9, f10, f11, f12, f13, f14, f15, f16, f17⟩ := fs p
  replace f5 := f5 (by omega)
  replace f11 := f11 (by omega)
  intro x hx
  simp only [r2, List.mem_cons, List.not_mem_nil, or_false] at hx
  rcases hx with rfl | rfl | rfl | rfl | rfl | rfl | rfl | rfl | rfl | rfl | rfl | rfl | rfl | rfl | rfl | rfl | rfl | rfl
  · exact ⟨rfl, rfl, rfl, by show intBin .rem .u64 (t4 p) .u64 (129) = some (.int .u64 (t5 p)); rw [show intBin .rem .u64 (t4 p) .u64 (129) = if IntKind.u64 = IntKind.u64 ∧ (129) ≠ 0 then some (.int .u64 (Int.tmod (t4 p) (129))) else none from rfl, if_pos ⟨rfl, by omega⟩, Int.tmod_eq_emod_of_nonneg (by omega)]; exact congrArg (fun z => some (Value.int .u64 z)) (by omega)⟩
  · exact ⟨rfl, rfl, rfl, congrArg (fun z => some (Value.int .i64 z)) (show IntKind.i64.wrap ((t6 p) - (64)) = (t7 p) from (by have g := w_i64 (((t6 p) - (64))); omega))⟩
  · exact ⟨rfl, rfl, rfl, by show intBin .rem .u64 (t9 p) .u64 (8) = some (.int .u64 (0)); rw [show intBin .rem .u64 (t9 p) .u64 (8) = if IntKind.u64 = IntKind.u64 ∧ (8) ≠ 0 then some (.int .u64 (Int.tmod (t9 p) (8))) else none from rfl, if_pos ⟨rfl, by omega⟩, Int.tmod_eq_emod_of_nonneg (by omega)]; exact congrArg (fun z => some (Value.int .u64 z)) (by omega)⟩
  · exact ⟨rfl, rfl, rfl, by show intBin .rem .u64 (t10 p) .u64 (64) = some (.int .u64 (t11 p)); rw [show intBin .rem .u64 (t10 p) .u64 (64) = if IntKind.u64 = IntKind.u64 ∧ (64) ≠ 0 then some (.int .u64 (Int.tmod (t10 p) (64))) else none from rfl, if_pos ⟨rfl, by omega⟩, Int.tmod_eq_emod_of_nonneg (by omega)]; exact congrArg (fun z => some (Value.int .u64 z)) (by omega)⟩
  · exact ⟨rfl, rfl, rfl, congrArg (fun z => some (Value.int .i64 z)) (show IntKind.i64.wrap ((1) + (t12 p)) = (t13 p) from (by have g := w_i64 (((1) + (t12 p))); omega))⟩
  · exact ⟨rfl, rfl, rfl, congrArg (fun z => some (Value.int .i64 z)) (show IntKind.i64.wrap ((t7 p) + (t14 p)) = (t15 p) from (by have g := w_i64 (((t7 p) + (t14 p))); omega))⟩
  · exact ⟨rfl, rfl, rfl, congrArg (fun z => some (Value.bool z)) (decide_eq_true (show ((t15 p) ≥ (0)) from by omega))⟩
  · exact ⟨rfl, rfl, rfl, congrArg (fun z => some (Value.int .i64 z)) (show IntKind.i64.wrap ((t15 p) + (4)) = (t16 p) from (by have g := w_i64 (((t15 p) + (4))); omega))⟩
  · exact ⟨rfl, rfl, rfl, congrArg (fun z => some (Value.bool z)) (decide_eq_false (show ¬ ((t16 p) ≤ (t13 p)) from by omega))⟩
  · exact ⟨rfl, rfl, rfl, congrArg (fun z => some (Value.bool z)) (decide_eq_true (show ((t13 p) ≥ (1)) from by omega))⟩
  · exact ⟨rfl, rfl, rfl, congrArg (fun z => some (Value.bool z)) (decide_eq_true (show ((t13 p) ≤ (64)) from by omega))⟩
  · exact ⟨rfl, rfl, rfl, congrArg (fun z => some (Value.bool z)) (decide_eq_false (show ¬ ((t7 p) < (-64)) from by omega))⟩
  · exact ⟨rfl, rfl, rfl, congrArg (fun z => some (Value.bool z)) (decide_eq_false (show ¬ ((t7 p) > (64)) from by omega))⟩
  · exact ⟨rfl, rfl, rfl, congrArg (fun z => some (Value.bool z)) (decide_eq_false (show ¬ ((t7 p) > (t7 p)) from by omega))⟩
  · exact ⟨rfl, rfl, rfl, congrArg (fun z => some (Value.bool z)) (show ((t7 p) == (t7 p)) = true from beq_iff_eq.2 (by omega))⟩
  · exact ⟨rfl, rfl, rfl, congrArg (fun z => some (Value.int .i64 z)) (show IntKind.i64.wrap ((0) + (t7 p)) = (t7 p) from (by have g := w_i64 (((0) + (t7 p))); omega))⟩
  · exact ⟨rfl, rfl, rfl, congrArg (fun z => some (Value.bool z)) (decide_eq_true (show ((t7 p) ≥ (-131072)) from by omega))⟩
  · exact ⟨rfl, rfl, rfl, congrArg (fun z => some (Value.bool z)) (decide_eq_true (show ((t7 p) ≤ (131072)) from by omega))⟩
def re : List (Value × Value × Bool) := []
theorem hre (p : Nat → Int) (h : H p) : ∀ x ∈ re, RuleE (θ p) x := fun x hx => nomatch hx
abbrev sy (p : Nat → Int) (h : H p) : Sy := syOf (θ p) (plain p) r1 r2 re (hr1 p h) (hr2 p h) (hre p h)
end vl_hi0
namespace vl_in1
abbrev H (p : Nat → Int) : Prop := (-9223372036854775808 ≤ p 0 ∧ p 0 ≤ 9223372036854775807) ∧ (-9223372036854775808 ≤ p 1 ∧ p 1 ≤ 9223372036854775807) ∧ (-9223372036854775808 ≤ p 2 ∧ p 2 ≤ 9223372036854775807) ∧ (-32768 ≤ p 3 ∧ p 3 ≤ 32767) ∧ ((p 1 % 18446744073709551616) % 8 = 1) ∧ (0 ≤ (p 2 % 18446744073709551616) % 129 - 64 + p 3 ∧ (p 2 % 18446744073709551616) % 129 - 64 + p 3 + 2 ≤ 1 + (p 0 % 18446744073709551616) % 64)
def t0 (p : Nat → Int) : Int := p 0
def t1 (p : Nat → Int) : Int := p 1
def t2 (p : Nat → Int) : Int := p 2
def t3 (p : Nat → Int) : Int := p 3
def t4 (p : Nat → Int) : Int := (IntKind.u64.wrap (t2 p))
def t5 (p : Nat → Int) : Int := (Int.tmod (t4 p) 129)
def t6 (p : Nat → Int) : Int := (IntKind.i64.wrap (t5 p))
def t7 (p : Nat → Int) : Int := (IntKind.i64.wrap ((t6 p) - 64))
def t8 (p : Nat → Int) : Int := (IntKind.i32.wrap (t7 p))
def t9 (p : Nat → Int) : Int := (IntKind.u64.wrap (t1 p))
def t10 (p : Nat → Int) : Int := (IntKind.u64.wrap (t0 p))
def t11 (p : Nat → Int) : Int := (Int.tmod (t10 p) 64)
def t12 (p : Nat → Int) : Int := (IntKind.i64.wrap (t11 p))
def t13 (p : Nat → Int) : Int := (IntKind.i64.wrap (1 + (t12 p)))
def t14 (p : Nat → Int) : Int := (IntKind.i64.wrap (t3 p))
def t15 (p : Nat → Int) : Int := (IntKind.i64.wrap ((t7 p) + (t14 p)))
def t16 (p : Nat → Int) : Int := (IntKind.i64.wrap ((t15 p) + 2))
def t17 (p : Nat → Int) : Int := (IntKind.u64.wrap (t7 p))
def θ (p : Nat → Int) : Nat → Value := fun j => match j with
  | 0 => .int .i64 (t0 p)
  | 1 => .int .i64 (t1 p)
  | 2 => .int .i64 (t2 p)
  | 3 => .int .i16 (t3 p)
  | 4 => .int .u64 (t4 p)
  | 5 => .int .u64 (t5 p)
  | 6 => .int .i64 (t6 p)
  | 7 => .int .i64 (t7 p)
  | 8 => .int .i32 (t8 p)
  | 9 => .int .u64 (t9 p)
  | 10 => .int .u64 (t10 p)
  | 11 => .int .u64 (t11 p)
  | 12 => .int .i64 (t12 p)
  | 13 => .int .i64 (t13 p)
  | 14 => .int .i64 (t14 p)
  | 15 => .int .i64 (t15 p)
  | 16 => .int .i64 (t16 p)
  | 17 => .int .u64 (t17 p)
  | _ => .bool false
theorem plain (p : Nat → Int) : ∀ j, plainV (θ p j) = true := by intro j; unfold θ; split <;> rfl
theorem fs (p : Nat → Int) : (t0 p = p 0) ∧ (t1 p = p 1) ∧ (t2 p = p 2) ∧ (t3 p = p 3) ∧ (t4 p = (t2 p) % 18446744073709551616) ∧ (0 ≤ (t4 p) → t5 p = (t4 p) % 129) ∧ (-9223372036854775808 ≤ t6 p ∧ t6 p < 9223372036854775808 ∧ ((t5 p) - t6 p) % 18446744073709551616 = 0) ∧ (-9223372036854775808 ≤ t7 p ∧ t7 p < 9223372036854775808 ∧ (((t6 p) - 64) - t7 p) % 18446744073709551616 = 0) ∧ (-2147483648 ≤ t8 p ∧ t8 p < 2147483648 ∧ ((t7 p) - t8 p) % 4294967296 = 0) ∧ (t9 p = (t1 p) % 18446744073709551616) ∧ (t10 p = (t0 p) % 18446744073709551616) ∧ (0 ≤ (t10 p) → t11 p = (t10 p) % 64) ∧ (-9223372036854775808 ≤ t12 p ∧ t12 p < 9223372036854775808 ∧ ((t11 p) - t12 p) % 18446744073709551616 = 0) ∧ (-9223372036854775808 ≤ t13 p ∧ t13 p < 9223372036854775808 ∧ ((1 + (t12 p)) - t13 p) % 18446744073709551616 = 0) ∧ (-9223372036854775808 ≤ t14 p ∧ t14 p < 9223372036854775808 ∧ ((t3 p) - t14 p) % 18446744073709551616 = 0) ∧ (-9223372036854775808 ≤ t15 p ∧ t15 p < 9223372036854775808 ∧ (((t7 p) + (t14 p)) - t15 p) % 18446744073709551616 = 0) ∧ (-9223372036854775808 ≤ t16 p ∧ t16 p < 9223372036854775808 ∧ (((t15 p) + 2) - t16 p) % 18446744073709551616 = 0) ∧ (t17 p = (t7 p) % 18446744073709551616) := ⟨rfl, rfl, rfl, rfl, w_u64 _, Int.tmod_eq_emod_of_nonneg, w_i64 _, w_i64 _, w_i32 _, w_u64 _, w_u64 _, Int.tmod_eq_emod_of_nonneg, w_i64 _, w_i64 _, w_i64 _, w_i64 _, w_i64 _, w_u64 _⟩
def r1 : List (U1 × Value × Value) := [((.conv .u64), (.chan (some 2)), (.chan (some 4))), ((.conv .i64), (.chan (some 5)), (.chan (some 6))), ((.conv .i32), (.chan (some 7)), (.chan (some 8))), ((.conv .u64), (.chan (some 1)), (.chan (some 9))), ((.conv .u64), (.chan (some 0)), (.chan (some 10))), ((.conv .i64), (.chan (some 11)), (.chan (some 12))), ((.conv .i64), (.chan (some 8)), (.chan (some 7))), ((.conv .i64), (.chan (some 3)), (.chan (some 14))), ((.conv .u64), (.chan (some 7)), (.chan (some 17))), ((.conv .i64), (.chan (some 17)), (.chan (some 7)))]
theorem hr1 (p : Nat → Int) (h : H p) : ∀ x ∈ r1, Rule1 (θ p) x := by
  obtain ⟨⟨a0, b0⟩, ⟨a1, b1⟩, ⟨a2, b2⟩, ⟨a3, b3⟩, hc0, hc1⟩ := h
  obtain ⟨f0, f1, f2, f3, f4, f5, f6, f7, f8, f9, f10, f11, f12, f13, f14, f15, f16, f17⟩ := fs p
  replace f5 := f5 (by omega)
  replace f11 := f11 (by omega)
  intro x hx
  simp only [r1, List.mem_cons, List.not_mem_nil, or_false] at hx
  rcases hx with rfl | rfl | rfl | rfl | rfl | rfl | rfl | rfl | rfl | rfl
  · exact ⟨rfl, rfl, congrArg (fun z => some (Value.int .u64 z)) (show IntKind.u64.wrap (t2 p) = (t4 p) from ((w_u64 _).trans (by omega)))⟩
  · exact ⟨rfl, rfl, congrArg (fun z => some (Value.int .i64 z)) (show IntKind.i64.wrap (t5 p) = (t6 p) from (by have g := w_i64 ((t5 p)); omega))⟩
  · exact ⟨rfl, rfl, congrArg (fun z => some (Value.int .i32 z)) (show IntKind.i32.wrap (t7 p) = (t8 p) from (by have g := w_i32 ((t7 p)); omega))⟩
  · exact ⟨rfl, rfl, congrArg (fun z => some (Value.int .u64 z)) (show IntKind.u64.wrap (t1 p) = (t9 p) from ((w_u64 _).trans (by omega)))⟩
  · exact ⟨rfl, rfl, congrArg (fun z => some (Value.int .u64 z)) (show IntKind.u64.wrap (t0 p) = (t10 p) from ((w_u64 _).trans (by omega)))⟩
  · exact ⟨rfl, rfl, congrArg (fun z => some (Value.int .i64 z)) (show IntKind.i64.wrap (t11 p) = (t12 p) from (by have g := w_i64 ((t11 p)); omega))⟩
  · exact ⟨rfl, rfl, congrArg (fun z => some (Value.int .i64 z)) (show IntKind.i64.wrap (t8 p) = (t7 p) from (by have g := w_i64 ((t8 p)); omega))⟩
  · exact ⟨rfl, rfl, congrArg (fun z => some (Value.int .i64 z)) (show IntKind.i64.wrap (t3 p) = (t14 p) from (by have g := w_i64 ((t3 p)); omega))⟩
  · exact ⟨rfl, rfl, congrArg (fun z => some (Value.int .u64 z)) (show IntKind.u64.wrap (t7 p) = (t17 p) from ((w_u64 _).trans (by omega)))⟩
  · exact ⟨rfl, rfl, congrArg (fun z => some (Value.int .i64 z)) (show IntKind.i64.wrap (t17 p) = (t7 p) from (by have g := w_i64 ((t17 p)); omega))⟩
def r2 : List (U2 × Value × Value × Value) := [((.bin .rem), (.chan (some 4)), (.int .u64 129), (.chan (some 5))), ((.bin .sub), (.chan (some 6)), (.int .i64 64), (.chan (some 7))), ((.bin .rem), (.chan (some 9)), (.int .u64 8), (.int .u64 1)), ((.bin .rem), (.chan (some 10)), (.int .u64 64), (.chan (some 11))), ((.bin .add), (.int .i64 1), (.chan (some 12)), (.chan (some 13))), ((.bin .add), (.chan (some 7)), (.chan (some 14)), (.chan (some 15))), ((.bin .geq), (.chan (some 15)), (.int .i64 0), (.bool true)), ((.bin .add), (.chan (some 15)), (.int .i64 2), (.chan (some 16))), ((.bin .leq), (.chan (some 16)), (.chan (some 13)), (.bool true)), ((.bin .geq), (.chan (some 13)), (.int .i64 1), (.bool true)), ((.bin .leq), (.chan (some 13)), (.int .i64 64), (.bool true)), ((.bin .lss), (.chan (some 7)), (.int .i64 (-64)), (.bool false)), ((.bin .gtr), (.chan (some 7)), (.int .i64 64), (.bool false)), ((.bin .gtr), (.chan (some 7)), (.chan (some 7)), (.bool false)), ((.bin .eql), (.chan (some 7)), (.chan (some 7)), (.bool true)), ((.bin .add), (.int .i64 0), (.chan (some 7)), (.chan (some 7))), ((.bin .geq), (.chan (some 7)), (.int .i64 (-131072)), (.bool true)), ((.bin .leq), (.chan (some 7)), (.int .i64 131072), (.bool true))]
theorem hr2 (p : Nat → Int) (h : H p) : ∀ x ∈ r2, Rule2 (θ p) x := by
  obtain ⟨⟨a0, b0⟩, ⟨a1, b1⟩, ⟨a2, b2⟩, ⟨a3, b3⟩, hc0, hc1⟩ := h
  obtain ⟨f0, f1, f2, f3, f4, f5, f6, f7, f8, f9, f10, f11, f12, f13, f14, f15, f16, f17⟩ := fs p
  replace f5 := f5 (by omega)
  replace f11 := f11 (by omega)
  intro x hx
  simp only [r2, List.mem_cons, List.not_mem_nil, or_false] at hx
  rcases hx with rfl | rfl | rfl | rfl | rfl | rfl | rfl | rfl | rfl | rfl | rfl | rfl | rfl | rfl | rfl | rfl | rfl | rfl
  · exact ⟨rfl, rfl, rfl, by show intBin .rem .u64 (t4 p) .u64 (129) = some (.int .u64 (t5 p)); rw [show intBin .rem .u64 (t4 p) .u64 (129) = if IntKind.u64 = IntKind.u64 ∧ (129) ≠ 0 then some (.int .u64 (Int.tmod (t4 p) (129))) else none from rfl, if_pos ⟨rfl, by omega⟩, Int.tmod_eq_emod_of_nonneg (by omega)]; exact congrArg (fun z => some (Value.int .u64 z)) (by omega)⟩
  · exact ⟨rfl, rfl, rfl, congrArg (fun z => some (Value.int .i64 z)) (show IntKind.i64.wrap ((t6 p) - (64)) = (t7 p) from (by have g := w_i64 (((t6 p) - (64))); omega))⟩
  · exact ⟨rfl, rfl, rfl, by show intBin .rem .u64 (t9 p) .u64 (8) = some (.int .u64 (1)); rw [show intBin .rem .u64 (t9 p) .u64 (8) = if IntKind.u64 = IntKind.u64 ∧ (8) ≠ 0 then some (.int .u64 (Int.tmod (t9 p) (8))) else none from rfl, if_pos ⟨rfl, by omega⟩, Int.tmod_eq_emod_of_nonneg (by omega)]; exact congrArg (fun z => some (Value.int .u64 z)) (by omega)⟩
  · exact ⟨rfl, rfl, rfl, by show intBin .rem .u64 (t10 p) .u64 (64) = some (.int .u64 (t11 p)); rw [show intBin .rem .u64 (t10 p) .u64 (64) = if IntKind.u64 = IntKind.u64 ∧ (64) ≠ 0 then some (.int .u64 (Int.tmod (t10 p) (64))) else none from rfl, if_pos ⟨rfl, by omega⟩, Int.tmod_eq_emod_of_nonneg (by omega)]; exact congrArg (fun z => some (Value.int .u64 z)) (by omega)⟩
  · exact ⟨rfl, rfl, rfl, congrArg (fun z => some (Value.int .i64 z)) (show IntKind.i64.wrap ((1) + (t12 p)) = (t13 p) from (by have g := w_i64 (((1) + (t12 p))); omega))⟩
  · exact ⟨rfl, rfl, rfl, congrArg (fun z => some (Value.int .i64 z)) (show IntKind.i64.wrap ((t7 p) + (t14 p)) = (t15 p) from (by have g := w_i64 (((t7 p) + (t14 p))); omega))⟩
  · exact ⟨rfl, rfl, rfl, congrArg (fun z => some (Value.bool z)) (decide_eq_true (show ((t15 p) ≥ (0)) from by omega))⟩
  · exact ⟨rfl, rfl, rfl, congrArg (fun z => some (Value.int .i64 z)) (show IntKind.i64.wrap ((t15 p) + (2)) = (t16 p) from (by have g := w_i64 (((t15 p) + (2))); omega))⟩
  · exact ⟨rfl, rfl, rfl, congrArg (fun z => some (Value.bool z)) (decide_eq_true (show ((t16 p) ≤ (t13 p)) from by omega))⟩
  · exact ⟨rfl, rfl, rfl, congrArg (fun z => some (Value.bool z)) (decide_eq_true (show ((t13 p) ≥ (1)) from by omega))⟩
  · exact ⟨rfl, rfl, rfl, congrArg (fun z => some (Value.bool z)) (decide_eq_true (show ((t13 p) ≤ (64)) from by omega))⟩
  · exact ⟨rfl, rfl, rfl, congrArg (fun z => some (Value.bool z)) (decide_eq_false (show ¬ ((t7 p) < (-64)) from by omega))⟩
  · exact ⟨rfl, rfl, rfl, congrArg (fun z => some (Value.bool z)) (decide_eq_false (show ¬ ((t7 p) > (64)) from by omega))⟩
  · exact ⟨rfl, rfl, rfl, congrArg (fun z => some (Value.bool z)) (decide_eq_false (show ¬ ((t7 p) > (t7 p)) from by omega))⟩
  · exact ⟨rfl, rfl, rfl, congrArg (fun z => some (Value.bool z)) (show ((t7 p) == (t7 p)) = true from beq_iff_eq.2 (by omega))⟩
  · exact ⟨rfl, rfl, rfl, congrArg (fun z => some (Value.int .i64 z)) (show IntKind.i64.wrap ((0) + (t7 p)) = (t7 p) from (by have g := w_i64 (((0) + (t7 p))); omega))⟩
  · exact ⟨rfl, rfl, rfl, congrArg (fun z => some (Value.bool z)) (decide_eq_true (show ((t7 p) ≥ (-131072)) from by omega))⟩
  · exact ⟨rfl, rfl, rfl, congrArg (fun z => some (Value.bool z)) (decide_eq_true (show ((t7 p) ≤ (131072)) from by omega))⟩
def re : List (Value × Value × Bool) := []
theorem hre (p : Nat → Int) (h : H p) : ∀ x ∈ re, RuleE (θ p) x := fun x hx => nomatch hx
abbrev sy (p : Nat → Int) (h : H p) : Sy := syOf (θ p) (plain p) r1 r2 re (hr1 p h) (hr2 p h) (hre p h)
end vl_in1
namespace vl_lo1
abbrev H (p : Nat → Int) : Prop := (-9223372036854775808 ≤ p 0 ∧ p 0 ≤ 9223372036854775807) ∧ (-9223372036854775808 ≤ p 1 ∧ p 1 ≤ 9223372036854775807) ∧ (-9223372036854775808 ≤ p 2 ∧ p 2 ≤ 9223372036854775807) ∧ (-32768 ≤ p 3 ∧ p 3 ≤ 32767) ∧ ((p 1 % 18446744073709551616) % 8 = 1) ∧ ((p 2 % 18446744073709551616) % 129 - 64 + p 3 < 0)
def t0 (p : Nat → Int) : Int := p 0
def t1 (p : Nat → Int) : Int := p 1
def t2 (p : Nat → Int) : Int := p 2
def t3 (p : Nat → Int) : Int := p 3
def t4 (p : Nat → Int) : Int := (IntKind.u64.wrap (t2 p))
def t5 (p : Nat → Int) : Int := (Int.tmod (t4 p) 129)
def t6 (p : Nat → Int) : Int := (IntKind.i64.wrap (t5 p))
def t7 (p : Nat → Int) : Int := (IntKind.i64.wrap ((t6 p) - 64))
def t8 (p : Nat → Int) : Int := (IntKind.i32.wrap (t7 p))
def t9 (p : Nat → Int) : Int := (IntKind.u64.wrap (t1 p))
def t10 (p : Nat → Int) : Int := (IntKind.u64.wrap (t0 p))
def t11 (p : Nat → Int) : Int := (Int.tmod (t10 p) 64)
def t12 (p : Nat → Int) : Int := (IntKind.i64.wrap (t11 p))
def t13 (p : Nat → Int) : Int := (IntKind.i64.wrap (1 + (t12 p)))
def t14 (p : Nat → Int) : Int := (IntKind.i64.wrap (t3 p))
def t15 (p : Nat → Int) : Int := (IntKind.i64.wrap ((t7 p) + (t14 p)))
def t16 (p : Nat → Int) : Int := (IntKind.u64.wrap (t7 p))
def θ (p : Nat → Int) : Nat → Value := fun j => match j with
  | 0 => .int .i64 (t0 p)
  | 1 => .int .i64 (t1 p)
  | 2 => .int .i64 (t2 p)
  | 3 => .int .i16 (t3 p)
  | 4 => .int .u64 (t4 p)
  | 5 => .int .u64 (t5 p)
  | 6 => .int .i64 (t6 p)
  | 7 => .int .i64 (t7 p)
  | 8 => .int .i32 (t8 p)
  | 9 => .int .u64 (t9 p)
  | 10 => .int .u64 (t10 p)
  | 11 => .int .u64 (t11 p)
  | 12 => .int .i64 (t12 p)
  | 13 => .int .i64 (t13 p)
  | 14 => .int .i64 (t14 p)
  | 15 => .int .i64 (t15 p)
  | 16 => .int .u64 (t16 p)
  | _ => .bool false
theorem plain (p : Nat → Int) : ∀ j, plainV (θ p j) = true := by intro j; unfold θ; split <;> rfl
theorem fs (p : Nat → Int) : (t0 p = p 0) ∧ (t1 p = p 1) ∧ (t2 p = p 2) ∧ (t3 p = p 3) ∧ (t4 p = (t2 p) % 18446744073709551616) ∧ (0 ≤ (t4 p) → t5 p = (t4 p) % 129) ∧ (-9223372036854775808 ≤ t6 p ∧ t6 p < 9223372036854775808 ∧ ((t5 p) - t6 p) % 18446744073709551616 = 0) ∧ (-9223372036854775808 ≤ t7 p ∧ t7 p < 9223372036854775808 ∧ (((t6 p) - 64) - t7 p) % 18446744073709551616 = 0) ∧ (-2147483648 ≤ t8 p ∧ t8 p < 2147483648 ∧ ((t7 p) - t8 p) % 4294967296 = 0) ∧ (t9 p = (t1 p) % 18446744073709551616) ∧ (t10 p = (t0 p) % 18446744073709551616) ∧ (0 ≤ (t10 p) → t11 p = (t10 p) % 64) ∧ (-9223372036854775808 ≤ t12 p ∧ t12 p < 9223372036854775808 ∧ ((t11 p) - t12 p) % 18446744073709551616 = 0) ∧ (-9223372036854775808 ≤ t13 p ∧ t13 p < 9223372036854775808 ∧ ((1 + (t12 p)) - t13 p) % 18446744073709551616 = 0) ∧ (-9223372036854775808 ≤ t14 p ∧ t14 p < 9223372036854775808 ∧ ((t3 p) - t14 p) % 18446744073709551616 = 0) ∧ (-9223372036854775808 ≤ t15 p ∧ t15 p < 9223372036854775808 ∧ (((t7 p) + (t14 p)) - t15 p) % 18446744073709551616 = 0) ∧ (t16 p = (t7 p) % 18446744073709551616) := ⟨rfl, rfl, rfl, rfl, w_u64 _, Int.tmod_eq_emod_of_nonneg, w_i64 _, w_i64 _, w_i32 _, w_u64 _, w_u64 _, Int.tmod_eq_emod_of_nonneg, w_i64 _, w_i64 _, w_i64 _, w_i64 _, w_u64 _⟩
def r1 : List (U1 × Value × Value) := [((.conv .u64), (.chan (some 2)), (.chan (some 4))), ((.conv .i64), (.chan (some 5)), (.chan (some 6))), ((.conv .i32), (.chan (some 7)), (.chan (some 8))), ((.conv .u64), (.chan (some 1)), (.chan (some 9))), ((.conv .u64), (.chan (some 0)), (.chan (some 10))), ((.conv .i64), (.chan (some 11)), (.chan (some 12))), ((.conv .i64), (.chan (some 8)), (.chan (some 7))), ((.conv .i64), (.chan (some 3)), (.chan (some 14))), ((.conv .u64), (.chan (some 7)), (.chan (some 16))), ((.conv .i64), (.chan (some 16)), (.chan (some 7)))]
theorem hr1 (p : Nat → Int) (h : H p) : ∀ x ∈ r1, Rule1 (θ p) x := by
  obtain ⟨⟨a0, b0⟩, ⟨a1, b1⟩, ⟨a2, b2⟩, ⟨a3, b3⟩, hc0, hc1⟩ := h
  obtain ⟨f0, f1, f2, f3, f4, f5, f6, f7, f8, f9, f10, f11, f12, f13, f14, f15, f16⟩ := fs p
  replace f5 := f5 (by omega)
  replace f11 := f11 (by omega)
  intro x hx
  simp only [r1, List.mem_cons, List.not_mem_nil, or_false] at hx
  rcases hx with rfl | rfl | rfl | rfl | rfl | rfl | rfl | rfl | rfl | rfl
  · exact ⟨rfl, rfl, congrArg (fun z => some (Value.int .u64 z)) (show IntKind.u64.wrap (t2 p) = (t4 p) from ((w_u64 _).trans (by omega)))⟩
  · exact ⟨rfl, rfl, congrArg (fun z => some (Value.int .i64 z)) (show IntKind.i64.wrap (t5 p) = (t6 p) from (by have g := w_i64 ((t5 p)); omega))⟩
  · exact ⟨rfl, rfl, congrArg (fun z => some (Value.int .i32 z)) (show IntKind.i32.wrap (t7 p) = (t8 p) from (by have g := w_i32 ((t7 p)); omega))⟩
  · exact ⟨rfl, rfl, congrArg (fun z => some (Value.int .u64 z)) (show IntKind.u64.wrap (t1 p) = (t9 p) from ((w_u64 _).trans (by omega)))⟩
  · exact ⟨rfl, rfl, congrArg (fun z => some (Value.int .u64 z)) (show IntKind.u64.wrap (t0 p) = (t10 p) from ((w_u64 _).trans (by omega)))⟩
  · exact ⟨rfl, rfl, congrArg (fun z => some (Value.int .i64 z)) (show IntKind.i64.wrap (t11 p) = (t12 p) from (by have g := w_i64 ((t11 p)); omega))⟩
  · exact ⟨rfl, rfl, congrArg (fun z => some (Value.int .i64 z)) (show IntKind.i64.wrap (t8 p) = (t7 p) from (by have g := w_i64 ((t8 p)); omega))⟩
  · exact ⟨rfl, rfl, congrArg (fun z => some (Value.int .i64 z)) (show IntKind.i64.wrap (t3 p) = (t14 p) from (by have g := w_i64 ((t3 p)); omega))⟩
  · exact ⟨rfl, rfl, congrArg (fun z => some (Value.int .u64 z)) (show IntKind.u64.wrap (t7 p) = (t16 p) from ((w_u64 _).trans (by omega)))⟩
  · exact ⟨rfl, rfl, congrArg (fun z => some (Value.int .i64 z)) (show IntKind.i64.wrap (t16 p) = (t7 p) from (by have g := w_i64 ((t16 p)); omega))⟩
def r2 : List (U2 × Value × Value × Value) := [((.bin .rem), (.chan (some 4)), (.int .u64 129), (.chan (some 5))), ((.bin .sub), (.chan (some 6)), (.int .i64 64), (.chan (some 7))), ((.bin .rem), (.chan (some 9)), (.int .u64 8), (.int .u64 1)), ((.bin .rem), (.chan (some 10)), (.int .u64 64), (.chan (some 11))), ((.bin .add), (.int .i64 1), (.chan (some 12)), (.chan (some 13))), ((.bin .add), (.chan (some 7)), (.chan (some 14)), (.chan (some 15))), ((.bin .geq), (.chan (some 15)), (.int .i64 0), (.bool false)), ((.bin .geq), (.chan (some 13)), (.int .i64 1), (.bool true)), ((.bin .leq), (.chan (some 13)), (.int .i64 64), (.bool true)), ((.bin .lss), (.chan (some 7)), (.int .i64 (-64)), (.bool false)), ((.bin .gtr), (.chan (some 7)), (.int .i64 64), (.bool false)), ((.bin .gtr), (.chan (some 7)), (.chan (some 7)), (.bool false)), ((.bin .eql), (.chan (some 7)), (.chan (some 7)), (.bool true)), ((.bin .add), (.int .i64 0), (.chan (some 7)), (.chan (some 7))), ((.bin .geq), (.chan (some 7)), (.int .i64 (-131072)), (.bool true)), ((.bin .leq), (.chan (some 7)), (.int .i64 131072), (.bool true))]
theorem hr2 (p : Nat → Int) (h : H p) : ∀ x ∈ r2, Rule2 (θ p) x := by
  obtain ⟨⟨a0, b0⟩, ⟨a1, b1⟩, ⟨a2, b2⟩, ⟨a3, b3⟩, hc0, hc1⟩ := h
  obtain ⟨f0, f1, f2, f3, f4, f5, f6, f7, f8, f9, f10, f11, f12, f13, f14, f15, f16⟩ := fs p
  replace f5 := f5 (by omega)
  replace f11 := f11 (by omega)
  intro x hx
  simp only [r2, List.mem_cons, List.not_mem_nil, or_false] at hx
  rcases hx with rfl | rfl | rfl | rfl | rfl | rfl | rfl | rfl | rfl | rfl | rfl | rfl | rfl | rfl | rfl | rfl
  · exact ⟨rfl, rfl, rfl, by show intBin .rem .u64 (t4 p) .u64 (129) = some (.int .u64 (t5 p)); rw [show intBin .rem .u64 (t4 p) .u64 (129) = if IntKind.u64 = IntKind.u64 ∧ (129) ≠ 0 then some (.int .u64 (Int.tmod (t4 p) (129))) else none from rfl, if_pos ⟨rfl, by omega⟩, Int.tmod_eq_emod_of_nonneg (by omega)]; exact congrArg (fun z => some (Value.int .u64 z)) (by omega)⟩
  · exact ⟨rfl, rfl, rfl, congrArg (fun z => some (Value.int .i64 z)) (show IntKind.i64.wrap ((t6 p) - (64)) = (t7 p) from (by have g := w_i64 (((t6 p) - (64))); omega))⟩
  · exact ⟨rfl, rfl, rfl, by show intBin .rem .u64 (t9 p) .u64 (8) = some (.int .u64 (1)); rw [show intBin .rem .u64 (t9 p) .u64 (8) = if IntKind.u64 = IntKind.u64 ∧ (8) ≠ 0 then some (.int .u64 (Int.tmod (t9 p) (8))) else none from rfl, if_pos ⟨rfl, by omega⟩, Int.tmod_eq_emod_of_nonneg (by omega)]; exact congrArg (fun z => some (Value.int .u64 z)) (by omega)⟩
  · exact ⟨rfl, rfl, rfl, by show intBin .rem .u64 (t10 p) .u64 (64) = some (.int .u64 (t11 p)); rw [show intBin .rem .u64 (t10 p) .u64 (64) = if IntKind.u64 = IntKind.u64 ∧ (64) ≠ 0 then some (.int .u64 (Int.tmod (t10 p) (64))) else none from rfl, if_pos ⟨rfl, by omega⟩, Int.tmod_eq_emod_of_nonneg (by omega)]; exact congrArg (fun z => some (Value.int .u64 z)) (by omega)⟩
  · exact ⟨rfl, rfl, rfl, congrArg (fun z => some (Value.int .i64 z)) (show IntKind.i64.wrap ((1) + (t12 p)) = (t13 p) from (by have g := w_i64 (((1) + (t12 p))); omega))⟩
  · exact ⟨rfl, rfl, rfl, congrArg (fun z => some (Value.int .i64 z)) (show IntKind.i64.wrap ((t7 p) + (t14 p)) = (t15 p) from (by have g := w_i64 (((t7 p) + (t14 p))); omega))⟩
  · exact ⟨rfl, rfl, rfl, congrArg (fun z => some (Value.bool z)) (decide_eq_false (show ¬ ((t15 p) ≥ (0)) from by omega))⟩
  · exact ⟨rfl, rfl, rfl, congrArg (fun z => some (Value.bool z)) (decide_eq_true (show ((t13 p) ≥ (1)) from by omega))⟩
  · exact ⟨rfl, rfl, rfl, congrArg (fun z => some (Value.bool z)) (decide_eq_true (show ((t13 p) ≤ (64)) from by omega))⟩
  · exact ⟨rfl, rfl, rfl, congrArg (fun z => some (Value.bool z)) (decide_eq_false (show ¬ ((t7 p) < (-64)) from by omega))⟩
  · exact ⟨rfl, rfl, rfl, congrArg (fun z => some (Value.bool z)) (decide_eq_false (show ¬ ((t7 p) > (64)) from by omega))⟩
  · exact ⟨rfl, rfl, rfl, congrArg (fun z => some (Value.bool z)) (decide_eq_false (show ¬ ((t7 p) > (t7 p)) from by omega))⟩
  · exact ⟨rfl, rfl, rfl, congrArg (fun z => some (Value.bool z)) (show ((t7 p) == (t7 p)) = true from beq_iff_eq.2 (by omega))⟩
  · exact ⟨rfl, rfl, rfl, congrArg (fun z => some (Value.int .i64 z)) (show IntKind.i64.wrap ((0) + (t7 p)) = (t7 p) from (by have g := w_i64 (((0) + (t7 p))); omega))⟩
  · exact ⟨rfl, rfl, rfl, congrArg (fun z => some (Value.bool z)) (decide_eq_true (show ((t7 p) ≥ (-131072)) from by omega))⟩
  · exact ⟨rfl, rfl, rfl, congrArg (fun z => some (Value.bool z)) (decide_eq_true (show ((t7 p) ≤ (131072)) from by omega))⟩
def re : List (Value × Value × Bool) := []
theorem hre (p : Nat → Int) (h : H p) : ∀ x ∈ re, RuleE (θ p) x := fun x hx => nomatch hx
abbrev sy (p : Nat → Int) (h : H p) : Sy := syOf (θ p) (plain p) r1 r2 re (hr1 p h) (hr2 p h) (hre p h)
end vl_lo1
namespace vl_hi1
abbrev H (p : Nat → Int) : Prop := (-9223372036854775808 ≤ p 0 ∧ p 0 ≤ 9223372036854775807) ∧ (-9223372036854775808 ≤ p 1 ∧ p 1 ≤ 9223372036854775807) ∧ (-9223372036854775808 ≤ p 2 ∧ p 2 ≤ 9223372036854775807) ∧ (-32768 ≤ p 3 ∧ p 3 ≤ 32767) ∧ ((p 1 % 18446744073709551616) % 8 = 1) ∧ (0 ≤ (p 2 % 18446744073709551616) % 129 - 64 + p 3 ∧ 1 + (p 0 % 18446744073709551616) % 64 < (p 2 % 18446744073709551616) % 129 - 64 + p 3 + 2)
def t0 (p : Nat → Int) : Int := p 0
def t1 (p : Nat → Int) : Int := p 1
def t2 (p : Nat → Int) : Int := p 2
def t3 (p : Nat → Int) : Int := p 3
def t4 (p : Nat → Int) : Int := (IntKind.u64.wrap (t2 p))
def t5 (p : Nat → Int) : Int := (Int.tmod (t4 p) 129)
def t6 (p : Nat → Int) : Int := (IntKind.i64.wrap (t5 p))
def t7 (p : Nat → Int) : Int := (IntKind.i64.wrap ((t6 p) - 64))
def t8 (p : Nat → Int) : Int := (IntKind.i32.wrap (t7 p))
def t9 (p : Nat → Int) : Int := (IntKind.u64.wrap (t1 p))
def t10 (p : Nat → Int) : Int := (IntKind.u64.wrap (t0 p))
def t11 (p : Nat → Int) : Int := (Int.tmod (t10 p) 64)
def t12 (p : Nat → Int) : Int := (IntKind.i64.wrap (t11 p))
def t13 (p : Nat → Int) : Int := (IntKind.i64.wrap (1 + (t12 p)))
def t14 (p : Nat → Int) : Int := (IntKind.i64.wrap (t3 p))
def t15 (p : Nat → Int) : Int := (IntKind.i64.wrap ((t7 p) + (t14 p)))
def t16 (p : Nat → Int) : Int := (IntKind.i64.wrap ((t15 p) + 2))
def t17 (p : Nat → Int) : Int := (IntKind.u64.wrap (t7 p))
def θ (p : Nat → Int) : Nat → Value := fun j => match j with
  | 0 => .int .i64 (t0 p)
  | 1 => .int .i64 (t1 p)
  | 2 => .int .i64 (t2 p)
  | 3 => .int .i16 (t3 p)
  | 4 => .int .u64 (t4 p)
  | 5 => .int .u64 (t5 p)
  | 6 => .int .i64 (t6 p)
  | 7 => .int .i64 (t7 p)
  | 8 => .int .i32 (t8 p)
  | 9 => .int .u64 (t9 p)
  | 10 => .int .u64 (t10 p)
  | 11 => .int .u64 (t11 p)
  | 12 => .int .i64 (t12 p)
  | 13 => .int .i64 (t13 p)
  | 14 => .int .i64 (t14 p)
  | 15 => .int .i64 (t15 p)
  | 16 => .int .i64 (t16 p)
  | 17 => .int .u64 (t17 p)
  | _ => .bool false
theorem plain (p : Nat → Int) : ∀ j, plainV (θ p j) = true := by intro j; unfold θ; split <;> rfl
theorem fs (p : Nat → Int) : (t0 p = p 0) ∧ (t1 p = p 1) ∧ (t2 p = p 2) ∧ (t3 p = p 3) ∧ (t4 p = (t2 p) % 18446744073709551616) ∧ (0 ≤ (t4 p) → t5 p = (t4 p) % 129) ∧ (-9223372036854775808 ≤ t6 p ∧ t6 p < 9223372036854775808 ∧ ((t5 p) - t6 p) % 18446744073709551616 = 0) ∧ (-9223372036854775808 ≤ t7 p ∧ t7 p < 9223372036854775808 ∧ (((t6 p) - 64) - t7 p) % 18446744073709551616 = 0) ∧ (-2147483648 ≤ t8 p ∧ t8 p < 2147483648 ∧ ((t7 p) - t8 p) % 4294967296 = 0) ∧ (t9 p = (t1 p) % 18446744073709551616) ∧ (t10 p = (t0 p) % 18446744073709551616) ∧ (0 ≤ (t10 p) → t11 p = (t10 p) % 64) ∧ (-9223372036854775808 ≤ t12 p ∧ t12 p < 9223372036854775808 ∧ ((t11 p) - t12 p) % 18446744073709551616 = 0) ∧ (-9223372036854775808 ≤ t13 p ∧ t13 p < 9223372036854775808 ∧ ((1 + (t12 p)) - t13 p) % 18446744073709551616 = 0) ∧ (-9223372036854775808 ≤ t14 p ∧ t14 p < 9223372036854775808 ∧ ((t3 p) - t14 p) % 18446744073709551616 = 0) ∧ (-9223372036854775808 ≤ t15 p ∧ t15 p < 9223372036854775808 ∧ (((t7 p) + (t14 p)) - t15 p) % 18446744073709551616 = 0) ∧ (-9223372036854775808 ≤ t16 p ∧ t16 p < 9223372036854775808 ∧ (((t15 p) + 2) - t16 p) % 18446744073709551616 = 0) ∧ (t17 p = (t7 p) % 18446744073709551616) := ⟨rfl, rfl, rfl, rfl, w_u64 _, Int.tmod_eq_emod_of_nonneg, w_i64 _, w_i64 _, w_i32 _, w_u64 _, w_u64 _, Int.tmod_eq_emod_of_nonneg, w_i64 _, w_i64 _, w_i64 _, w_i64 _, w_i64 _, w_u64 _⟩
def r1 : List (U1 × Value × Value) := [((.conv .u64), (.chan (some 2)), (.chan (some 4))), ((.conv .i64), (.chan (some 5)), (.chan (some 6))), ((.conv .i32), (.chan (some 7)), (.chan (some 8))), ((.conv .u64), (.chan (some 1)), (.chan (some 9))), ((.conv .u64), (.chan (some 0)), (.chan (some 10))), ((.conv .i64), (.chan (some 11)), (.chan (some 12))), ((.conv .i64), (.chan (some 8)), (.chan (some 7))), ((.conv .i64), (.chan (some 3)), (.chan (some 14))), ((.conv .u64), (.chan (some 7)), (.chan (some 17))), ((.conv .i64), (.chan (some 17)), (.chan (some 7)))]
theorem hr1 (p : Nat → Int) (h : H p) : ∀ x ∈ r1, Rule1 (θ p) x := by
  obtain ⟨⟨a0, b0⟩, ⟨a1, b1⟩, ⟨a2, b2⟩, ⟨a3, b3⟩, hc0, hc1⟩ := h
  obtain ⟨f0, f1, f2, f3, f4, f5, f6, f7, f8, f9, f10, f11, f12, f13, f14, f15, f16, f17⟩ := fs p
  replace f5 := f5 (by omega)
  replace f11 := f11 (by omega)
  intro x hx
  simp only [r1, List.mem_cons, List.not_mem_nil, or_false] at hx
  rcases hx with rfl | rfl | rfl | rfl | rfl | rfl | rfl | rfl | rfl | rfl
  · exact ⟨rfl, rfl, congrArg (fun z => some (Value.int .u64 z)) (show IntKind.u64.wrap (t2 p) = (t4 p) from ((w_u64 _).trans (by omega)))⟩
  · exact ⟨rfl, rfl, congrArg (fun z => some (Value.int .i64 z)) (show IntKind.i64.wrap (t5 p) = (t6 p) from (by have g := w_i64 ((t5 p)); omega))⟩
  · exact ⟨rfl, rfl, congrArg (fun z => some (Value.int .i32 z)) (show IntKind.i32.wrap (t7 p) = (t8 p) from (by have g := w_i32 ((t7 p)); omega))⟩
  · exact ⟨rfl, rfl, congrArg (fun z => some (Value.int .u64 z)) (show IntKind.u64.wrap (t1 p) = (t9 p) from ((w_u64 _).trans (by omega)))⟩
  · exact ⟨rfl, rfl, congrArg (fun z => some (Value.int .u64 z)) (show IntKind.u64.wrap (t0 p) = (t10 p) from ((w_u64 _).trans (by omega)))⟩
  · exact ⟨rfl, rfl, congrArg (fun z => some (Value.int .i64 z)) (show IntKind.i64.wrap (t11 p) = (t12 p) from (by have g := w_i64 ((t11 p)); omega))⟩
  · exact ⟨rfl, rfl, congrArg (fun z => some (Value.int .i64 z)) (show IntKind.i64.wrap (t8 p) = (t7 p) from (by have g := w_i64 ((t8 p)); omega))⟩
  · exact ⟨rfl, rfl, congrArg (fun z => some (Value.int .i64 z)) (show IntKind.i64.wrap (t3 p) = (t14 p) from (by have g := w_i64 ((t3 p)); omega))⟩
  · exact ⟨rfl, rfl, congrArg (fun z => some (Value.int .u64 z)) (show IntKind.u64.wrap (t7 p) = (t17 p) from ((w_u64 _).trans (by omega)))⟩
  · exact ⟨rfl, rfl, congrArg (fun z => some (Value.int .i64 z)) (show IntKind.i64.wrap (t17 p) = (t7 p) from (by have g := w_i64 ((t17 p)); omega))⟩
def r2 : List (U2 × Value × Value × Value) := [((.bin .rem), (.chan (some 4)), (.int .u64 129), (.chan (some 5))), ((.bin .sub), (.chan (some 6)), (.int .i64 64), (.chan (some 7))), ((.bin .rem), (.chan (some 9)), (.int .u64 8), (.int .u64 1)), ((.bin .rem), (.chan (some 10)), (.int .u64 64), (.chan (some 11))), ((.bin .add), (.int .i64 1), (.chan (some 12)), (.chan (some 13))), ((.bin .add), (.chan (some 7)), (.chan (some 14)), (.chan (some 15))), ((.bin .geq), (.chan (some 15)), (.int .i64 0), (.bool true)), ((.bin .add), (.chan (some 15)), (.int .i64 2), (.chan (some 16))), ((.bin .leq), (.chan (some 16)), (.chan (some 13)), (.bool false)), ((.bin .geq), (.chan (some 13)), (.int .i64 1), (.bool true)), ((.bin .leq), (.chan (some 13)), (.int .i64 64), (.bool true)), ((.bin .lss), (.chan (some 7)), (.int .i64 (-64)), (.bool false)), ((.bin .gtr), (.chan (some 7)), (.int .i64 64), (.bool false)), ((.bin .gtr), (.chan (some 7)), (.chan (some 7)), (.bool false)), ((.bin .eql), (.chan (some 7)), (.chan (some 7)), (.bool true)), ((.bin .add), (.int .i64 0), (.chan (some 7)), (.chan (some 7))), ((.bin .geq), (.chan (some 7)), (.int .i64 (-131072)), (.bool true)), ((.bin .leq), (.chan (some 7)), (.int .i64 131072), (.bool true))]
theorem hr2 (p : Nat → Int) (h : H p) : ∀ x ∈ r2, Rule2 (θ p) x := by
  obtain ⟨⟨a0, b0⟩, ⟨a1, b1⟩, ⟨a2, b2⟩, ⟨a3, b3⟩, hc0, hc1⟩ := h
  obtain ⟨f0, f1, f2, f3, f4, f5, f6, f7, f8, f9, f10, f11, f12, f13, f14, f15, f16, f17⟩ := fs p
  replace f5 := f5 (by omega)
  replace f11 := f11 (by omega)
  intro x hx
  simp only [r2, List.mem_cons, List.not_mem_nil, or_false] at hx
  rcases hx with rfl | rfl | rfl | rfl | rfl | rfl | rfl | rfl | rfl | rfl | rfl | rfl | rfl | rfl | rfl | rfl | rfl | rfl
  · exact ⟨rfl, rfl, rfl, by show intBin .rem .u64 (t4 p) .u64 (129) = some (.int .u64 (t5 p)); rw [show intBin .rem .u64 (t4 p) .u64 (129) = if IntKind.u64 = IntKind.u64 ∧ (129) ≠ 0 then some (.int .u64 (Int.tmod (t4 p) (129))) else none from rfl, if_pos ⟨rfl, by omega⟩, Int.tmod_eq_emod_of_nonneg (by omega)]; exact congrArg (fun z => some (Value.int .u64 z)) (by omega)⟩
  · exact ⟨rfl, rfl, rfl, congrArg (fun z => some (Value.int .i64 z)) (show IntKind.i64.wrap ((t6 p) - (64)) = (t7 p) from (by have g := w_i64 (((t6 p) - (64))); omega))⟩
  · exact ⟨rfl, rfl, rfl, by show intBin .rem .u64 (t9 p) .u64 (8) = some (.int .u64 (1)); rw [show intBin .rem .u64 (t9 p) .u64 (8) = if IntKind.u64 = IntKind.u64 ∧ (8) ≠ 0 then some (.int .u64 (Int.tmod (t9 p) (8))) else none from rfl, if_pos ⟨rfl, by omega⟩, Int.tmod_eq_emod_of_nonneg (by omega)]; exact congrArg (fun z => some (Value.int .u64 z)) (by omega)⟩
  · exact ⟨rfl, rfl, rfl, by show intBin .rem .u64 (t10 p) .u64 (64) = some (.int .u64 (t11 p)); rw [show intBin .rem .u64 (t10 p) .u64 (64) = if IntKind.u64 = IntKind.u64 ∧ (64) ≠ 0 then some (.int .u64 (Int.tmod (t10 p) (64))) else none from rfl, if_pos ⟨rfl, by omega⟩, Int.tmod_eq_emod_of_nonneg (by omega)]; exact congrArg (fun z => some (Value.int .u64 z)) (by omega)⟩
  · exact ⟨rfl, rfl, rfl, congrArg (fun z => some (Value.int .i64 z)) (show IntKind.i64.wrap ((1) + (t12 p)) = (t13 p) from (by have g := w_i64 (((1) + (t12 p))); omega))⟩
  · exact ⟨rfl, rfl, rfl, congrArg (fun z => some (Value.int .i64 z)) (show IntKind.i64.wrap ((t7 p) + (t14 p)) = (t15 p) from (by have g := w_i64 (((t7 p) + (t14 p))); omega))⟩
  · exact ⟨rfl, rfl, rfl, congrArg (fun z => some (Value.bool z)) (decide_eq_true (show ((t15 p) ≥ (0)) from by omega))⟩
  · exact ⟨rfl, rfl, rfl, congrArg (fun z => some (Value.int .i64 z)) (show IntKind.i64.wrap ((t15 p) + (2)) = (t16 p) from (by have g := w_i64 (((t15 p) + (2))); omega))⟩
  · exact ⟨rfl, rfl, rfl, congrArg (fun z => some (Value.bool z)) (decide_eq_false (show ¬ ((t16 p) ≤ (t13 p)) from by omega))⟩
  · exact ⟨rfl, rfl, rfl, congrArg (fun z => some (Value.bool z)) (decide_eq_true (show ((t13 p) ≥ (1)) from by omega))⟩
  · exact ⟨rfl, rfl, rfl, congrArg (fun z => some (Value.bool z)) (decide_eq_true (show ((t13 p) ≤ (64)) from by omega))⟩
  · exact ⟨rfl, rfl, rfl, congrArg (fun z => some (Value.bool z)) (decide_eq_false (show ¬ ((t7 p) < (-64)) from by omega))⟩
  · exact ⟨rfl, rfl, rfl, congrArg (fun z => some (Value.bool z)) (decide_eq_false (show ¬ ((t7 p) > (64)) from by omega))⟩
  · exact ⟨rfl, rfl, rfl, congrArg (fun z => some (Value.bool z)) (decide_eq_false (show ¬ ((t7 p) > (t7 p)) from by omega))⟩
  · exact ⟨rfl, rfl, rfl, congrArg (fun z => some (Value.bool z)) (show ((t7 p) == (t7 p)) = true from beq_iff_eq.2 (by omega))⟩
  · exact ⟨rfl, rfl, rfl, congrArg (fun z => some (Value.int .i64 z)) (show IntKind.i64.wrap ((0) + (t7 p)) = (t7 p) from (by have g := w_i64 (((0) + (t7 p))); omega))⟩
  · exact ⟨rfl, rfl, rfl, congrArg (fun z => some (Value.bool z)) (decide_eq_true (show ((t7 p) ≥ (-131072)) from by omega))⟩
  · exact ⟨rfl, rfl, rfl, congrArg (fun z => some (Value.bool z)) (decide_eq_true (show ((t7 p) ≤ (131072)) from by omega))⟩
def re : List (Value × Value × Bool) := []
theorem hre (p : Nat → Int) (h : H p) : ∀ x ∈ re, RuleE (θ p) x := fun x hx => nomatch hx
abbrev sy (p : Nat → Int) (h : H p) : Sy := syOf (θ p) (plain p) r1 r2 re (hr1 p h) (hr2 p h) (hre p h)
end vl_hi1
namespace vl_in2
abbrev H (p : Nat → Int) : Prop := (-9223372036854775808 ≤ p 0 ∧ p 0 ≤ 9223372036854775807) ∧ (-9223372036854775808 ≤ p 1 ∧ p 1 ≤ 9223372036854775807) ∧ (-9223372036854775808 ≤ p 2 ∧ p 2 ≤ 9223372036854775807) ∧ (-32768 ≤ p 3 ∧ p 3 ≤ 32767) ∧ ((p 1 % 18446744073709551616) % 8 = 2) ∧ (0 ≤ (p 2 % 18446744073709551616) % 129 - 64 + p 3 ∧ (p 2 % 18446744073709551616) % 129 - 64 + p 3 + 1 ≤ 1 + (p 0 % 18446744073709551616) % 64)
def t0 (p : Nat → Int) : Int := p 0
def t1 (p : Nat → Int) : Int := p 1
def t2 (p : Nat → Int) : Int := p 2
def t3 (p : Nat → Int) : Int := p 3
def t4 (p : Nat → Int) : Int := (IntKind.u64.wrap (t2 p))
def t5 (p : Nat → Int) : Int := (Int.tmod (t4 p) 129)
def t6 (p : Nat → Int) : Int := (IntKind.i64.wrap (t5 p))
def t7 (p : Nat → Int) : Int := (IntKind.i64.wrap ((t6 p) - 64))
def t8 (p : Nat → Int) : Int := (IntKind.i32.wrap (t7 p))
def t9 (p : Nat → Int) : Int := (IntKind.u64.wrap (t1 p))
def t10 (p : Nat → Int) : Int := (IntKind.u64.wrap (t0 p))
def t11 (p : Nat → Int) : Int := (Int.tmod (t10 p) 64)
def t12 (p : Nat → Int) : Int := (IntKind.i64.wrap (t11 p))
def t13 (p : Nat → Int) : Int := (IntKind.i64.wrap (1 + (t12 p)))
def t14 (p : Nat → Int) : Int := (IntKind.i64.wrap (t3 p))
def t15 (p : Nat → Int) : Int := (IntKind.i64.wrap ((t7 p) + (t14 p)))
def t16 (p : Nat → Int) : Int := (IntKind.i64.wrap ((t15 p) + 1))
def t17 (p : Nat → Int) : Int := (IntKind.u64.wrap (t7 p))
def θ (p : Nat → Int) : Nat → Value := fun j => match j with
  | 0 => .int .i64 (t0 p)
  | 1 => .int .i64 (t1 p)
  | 2 => .int .i64 (t2 p)
  | 3 => .int .i16 (t3 p)
  | 4 => .int .u64 (t4 p)
  | 5 => .int .u64 (t5 p)
  | 6 => .int .i64 (t6 p)
  | 7 => .int .i64 (t7 p)
  | 8 => .int .i32 (t8 p)
  | 9 => .int .u64 (t9 p)
  | 10 => .int .u64 (t10 p)
  | 11 => .int .u64 (t11 p)
  | 12 => .int .i64 (t12 p)
  | 13 => .int .i64 (t13 p)
  | 14 => .int .i64 (t14 p)
  | 15 => .int .i64 (t15 p)
  | 16 => .int .i64 (t16 p)
  | 17 => .int .u64 (t17 p)
  | _ => .bool false
theorem plain (p : Nat → Int) : ∀ j, plainV (θ p j) = true := by intro j; unfold θ; split <;> rfl
theorem fs (p : Nat → Int) : (t0 p = p 0) ∧ (t1 p = p 1) ∧ (t2 p = p 2) ∧ (t3 p = p 3) ∧ (t4 p = (t2 p) % 18446744073709551616) ∧ (0 ≤ (t4 p) → t5 p = (t4 p) % 129) ∧ (-9223372036854775808 ≤ t6 p ∧ t6 p < 9223372036854775808 ∧ ((t5 p) - t6 p) % 18446744073709551616 = 0) ∧ (-9223372036854775808 ≤ t7 p ∧ t7 p < 9223372036854775808 ∧ (((t6 p) - 64) - t7 p) % 18446744073709551616 = 0) ∧ (-2147483648 ≤ t8 p ∧ t8 p < 2147483648 ∧ ((t7 p) - t8 p) % 4294967296 = 0) ∧ (t9 p = (t1 p) % 18446744073709551616) ∧ (t10 p = (t0 p) % 18446744073709551616) ∧ (0 ≤ (t10 p) → t11 p = (t10 p) % 64) ∧ (-9223372036854775808 ≤ t12 p ∧ t12 p < 9223372036854775808 ∧ ((t11 p) - t12 p) % 18446744073709551616 = 0) ∧ (-9223372036854775808 ≤ t13 p ∧ t13 p < 9223372036854775808 ∧ ((1 + (t12 p)) - t13 p) % 18446744073709551616 = 0) ∧ (-9223372036854775808 ≤ t14 p ∧ t14 p < 9223372036854775808 ∧ ((t3 p) - t14 p) % 18446744073709551616 = 0) ∧ (-9223372036854775808 ≤ t15 p ∧ t15 p < 9223372036854775808 ∧ (((t7 p) + (t14 p)) - t15 p) % 18446744073709551616 = 0) ∧ (-9223372036854775808 ≤ t16 p ∧ t16 p < 9223372036854775808 ∧ (((t15 p) + 1) - t16 p) % 18446744073709551616 = 0) ∧ (t17 p = (t7 p) % 18446744073709551616) := ⟨rfl, rfl, rfl, rfl, w_u64 _, Int.tmod_eq_emod_of_nonneg, w_i64 _, w_i64 _, w_i32 _, w_u64 _, w_u64 _, Int.tmod_eq_emod_of_nonneg, w_i64 _, w_i64 _, w_i64 _, w_i64 _, w_i64 _, w_u64 _⟩
def r1 : List (U1 × Value × Value) := [((.conv .u64), (.chan (some 2)), (.chan (some 4))), ((.conv .i64), (.chan (some 5)), (.chan (some 6))), ((.conv .i32), (.chan (some 7)), (.chan (some 8))), ((.conv .u64), (.chan (some 1)), (.chan (some 9))), ((.conv .u64), (.chan (some 0)), (.chan (some 10))), ((.conv .i64), (.chan (some 11)), (.chan (some 12))), ((.conv .i64), (.chan (some 8)), (.chan (some 7))), ((.conv .i64), (.chan (some 3)), (.chan (some 14))), ((.conv .u64), (.chan (some 7)), (.chan (some 17))), ((.conv .i64), (.chan (some 17)), (.chan (some 7)))]
theorem hr1 (p : Nat → Int) (h : H p) : ∀ x ∈ r1, Rule1 (θ p) x := by
  obtain ⟨⟨a0, b0⟩, ⟨a1, b1⟩, ⟨a2, b2⟩, ⟨a3, b3⟩, hc0, hc1⟩ := h
  obtain ⟨f0, f1, f2, f3, f4, f5, f6, f7, f8, f9, f10, f11, f12, f13, f14, f15, f16, f17⟩ := fs p
  replace f5 := f5 (by omega)
  replace f11 := f11 (by omega)
  intro x hx
  simp only [r1, List.mem_cons, List.not_mem_nil, or_false] at hx
  rcases hx with rfl | rfl | rfl | rfl | rfl | rfl | rfl | rfl | rfl | rfl
  · exact ⟨rfl, rfl, congrArg (fun z => some (Value.int .u64 z)) (show IntKind.u64.wrap (t2 p) = (t4 p) from ((w_u64 _).trans (by omega)))⟩
  · exact ⟨rfl, rfl, congrArg (fun z => some (Value.int .i64 z)) (show IntKind.i64.wrap (t5 p) = (t6 p) from (by have g := w_i64 ((t5 p)); omega))⟩
  · exact ⟨rfl, rfl, congrArg (fun z => some (Value.int .i32 z)) (show IntKind.i32.wrap (t7 p) = (t8 p) from (by have g := w_i32 ((t7 p)); omega))⟩
  · exact ⟨rfl, rfl, congrArg (fun z => some (Value.int .u64 z)) (show IntKind.u64.wrap (t1 p) = (t9 p) from ((w_u64 _).trans (by omega)))⟩
  · exact ⟨rfl, rfl, congrArg (fun z => some (Value.int .u64 z)) (show IntKind.u64.wrap (t0 p) = (t10 p) from ((w_u64 _).trans (by omega)))⟩
  · exact ⟨rfl, rfl, congrArg (fun z => some (Value.int .i64 z)) (show IntKind.i64.wrap (t11 p) = (t12 p) from (by have g := w_i64 ((t11 p)); omega))⟩
  · exact ⟨rfl, rfl, congrArg (fun z => some (Value.int .i64 z)) (show IntKind.i64.wrap (t8 p) = (t7 p) from (by have g := w_i64 ((t8 p)); omega))⟩
  · exact ⟨rfl, rfl, congrArg (fun z => some (Value.int .i64 z)) (show IntKind.i64.wrap (t3 p) = (t14 p) from (by have g := w_i64 ((t3 p)); omega))⟩
  · exact ⟨rfl, rfl, congrArg (fun z => some (Value.int .u64 z)) (show IntKind.u64.wrap (t7 p) = (t17 p) from ((w_u64 _).trans (by omega)))⟩
  · exact ⟨rfl, rfl, congrArg (fun z => some (Value.int .i64 z)) (show IntKind.i64.wrap (t17 p) = (t7 p) from (by have g := w_i64 ((t17 p)); omega))⟩
def r2 : List (U2 × Value × Value × Value) := [((.bin .rem), (.chan (some 4)), (.int .u64 129), (.chan (some 5))), ((.bin .sub), (.chan (some 6)), (.int .i64 64), (.chan (some 7))), ((.bin .rem), (.chan (some 9)), (.int .u64 8), (.int .u64 2)), ((.bin .rem), (.chan (some 10)), (.int .u64 64), (.chan (some 11))), ((.bin .add), (.int .i64 1), (.chan (some 12)), (.chan (some 13))), ((.bin .add), (.chan (some 7)), (.chan (some 14)), (.chan (some 15))), ((.bin .geq), (.chan (some 15)), (.int .i64 0), (.bool true)), ((.bin .add), (.chan (some 15)), (.int .i64 1), (.chan (some 16))), ((.bin .leq), (.chan (some 16)), (.chan (some 13)), (.bool true)), ((.bin .geq), (.chan (some 13)), (.int .i64 1), (.bool true)), ((.bin .leq), (.chan (some 13)), (.int .i64 64), (.bool true)), ((.bin .lss), (.chan (some 7)), (.int .i64 (-64)), (.bool false)), ((.bin .gtr), (.chan (some 7)), (.int .i64 64), (.bool false)), ((.bin .gtr), (.chan (some 7)), (.chan (some 7)), (.bool false)), ((.bin .eql), (.chan (some 7)), (.chan (some 7)), (.bool true)), ((.bin .add), (.int .i64 0), (.chan (some 7)), (.chan (some 7))), ((.bin .geq), (.chan (some 7)), (.int .i64 (-131072)), (.bool true)), ((.bin .leq), (.chan (some 7)), (.int .i64 131072), (.bool true))]
theorem hr2 (p : Nat → Int) (h : H p) : ∀ x ∈ r2, Rule2 (θ p) x := by
  obtain ⟨⟨a0, b0⟩, ⟨a1, b1⟩, ⟨a2, b2⟩, ⟨a3, b3⟩, hc0, hc1⟩ := h
  obtain ⟨f0, f1, f2, f3, f4, f5, f6, f7, f8, f9, f10, f11, f12, f13, f14, f15, f16, f17⟩ := fs p
  replace f5 := f5 (by omega)
  replace f11 := f11 (by omega)
  intro x hx
  simp only [r2, List.mem_cons, List.not_mem_nil, or_false] at hx
  rcases hx with rfl | rfl | rfl | rfl | rfl | rfl | rfl | rfl | rfl | rfl | rfl | rfl | rfl | rfl | rfl | rfl | rfl | rfl
  · exact ⟨rfl, rfl, rfl, by show intBin .rem .u64 (t4 p) .u64 (129) = some (.int .u64 (t5 p)); rw [show intBin .rem .u64 (t4 p) .u64 (129) = if IntKind.u64 = IntKind.u64 ∧ (129) ≠ 0 then some (.int .u64 (Int.tmod (t4 p) (129))) else none from rfl, if_pos ⟨rfl, by omega⟩, Int.tmod_eq_emod_of_nonneg (by omega)]; exact congrArg (fun z => some (Value.int .u64 z)) (by omega)⟩
  · exact ⟨rfl, rfl, rfl, congrArg (fun z => some (Value.int .i64 z)) (show IntKind.i64.wrap ((t6 p) - (64)) = (t7 p) from (by have g := w_i64 (((t6 p) - (64))); omega))⟩
  · exact ⟨rfl, rfl, rfl, by show intBin .rem .u64 (t9 p) .u64 (8) = some (.int .u64 (2)); rw [show intBin .rem .u64 (t9 p) .u64 (8) = if IntKind.u64 = IntKind.u64 ∧ (8) ≠ 0 then some (.int .u64 (Int.tmod (t9 p) (8))) else none from rfl, if_pos ⟨rfl, by omega⟩, Int.tmod_eq_emod_of_nonneg (by omega)]; exact congrArg (fun z => some (Value.int .u64 z)) (by omega)⟩
  · exact ⟨rfl, rfl, rfl, by show intBin .rem .u64 (t10 p) .u64 (64) = some (.int .u64 (t11 p)); rw [show intBin .rem .u64 (t10 p) .u64 (64) = if IntKind.u64 = IntKind.u64 ∧ (64) ≠ 0 then some (.int .u64 (Int.tmod (t10 p) (64))) else none from rfl, if_pos ⟨rfl, by omega⟩, Int.tmod_eq_emod_of_nonneg (by omega)]; exact congrArg (fun z => some (Value.int .u64 z)) (by omega)⟩
  · exact ⟨rfl, rfl, rfl, congrArg (fun z => some (Value.int .i64 z)) (show IntKind.i64.wrap ((1) + (t12 p)) = (t13 p) from (by have g := w_i64 (((1) + (t12 p))); omega))⟩
  · exact ⟨rfl, rfl, rfl, congrArg (fun z => some (Value.int .i64 z)) (show IntKind.i64.wrap ((t7 p) + (t14 p)) = (t15 p) from (by have g := w_i64 (((t7 p) + (t14 p))); omega))⟩
  · exact ⟨rfl, rfl, rfl, congrArg (fun z => some (Value.bool z)) (decide_eq_true (show ((t15 p) ≥ (0)) from by omega))⟩
  · exact ⟨rfl, rfl, rfl, congrArg (fun z => some (Value.int .i64 z)) (show IntKind.i64.wrap ((t15 p) + (1)) = (t16 p) from (by have g := w_i64 (((t15 p) + (1))); omega))⟩
  · exact ⟨rfl, rfl, rfl, congrArg (fun z => some (Value.bool z)) (decide_eq_true (show ((t16 p) ≤ (t13 p)) from by omega))⟩
  · exact ⟨rfl, rfl, rfl, congrArg (fun z => some (Value.bool z)) (decide_eq_true (show ((t13 p) ≥ (1)) from by omega))⟩
  · exact ⟨rfl, rfl, rfl, congrArg (fun z => some (Value.bool z)) (decide_eq_true (show ((t13 p) ≤ (64)) from by omega))⟩
  · exact ⟨rfl, rfl, rfl, congrArg (fun z => some (Value.bool z)) (decide_eq_false (show ¬ ((t7 p) < (-64)) from by omega))⟩
  · exact ⟨rfl, rfl, rfl, congrArg (fun z => some (Value.bool z)) (decide_eq_false (show ¬ ((t7 p) > (64)) from by omega))⟩
  · exact ⟨rfl, rfl, rfl, congrArg (fun z => some (Value.bool z)) (decide_eq_false (show ¬ ((t7 p) > (t7 p)) from by omega))⟩
  · exact ⟨rfl, rfl, rfl, congrArg (fun z => some (Value.bool z)) (show ((t7 p) == (t7 p)) = true from beq_iff_eq.2 (by omega))⟩
  · exact ⟨rfl, rfl, rfl, congrArg (fun z => some (Value.int .i64 z)) (show IntKind.i64.wrap ((0) + (t7 p)) = (t7 p) from (by have g := w_i64 (((0) + (t7 p))); omega))⟩
  · exact ⟨rfl, rfl, rfl, congrArg (fun z => some (Value.bool z)) (decide_eq_true (show ((t7 p) ≥ (-131072)) from by omega))⟩
  · exact ⟨rfl, rfl, rfl, congrArg (fun z => some (Value.bool z)) (decide_eq_true (show ((t7 p) ≤ (131072)) from by omega))⟩
def re : List (Value × Value × Bool) := []
theorem hre (p : Nat → Int) (h : H p) : ∀ x ∈ re, RuleE (θ p) x := fun x hx => nomatch hx
abbrev sy (p : Nat → Int) (h : H p) : Sy := syOf (θ p) (plain p) r1 r2 re (hr1 p h) (hr2 p h) (hre p h)
end vl_in2
namespace vl_lo2
abbrev H (p : Nat → Int) : Prop := (-9223372036854775808 ≤ p 0 ∧ p 0 ≤ 9223372036854775807) ∧ (-9223372036854775808 ≤ p 1 ∧ p 1 ≤ 9223372036854775807) ∧ (-9223372036854775808 ≤ p 2 ∧ p 2 ≤ 9223372036854775807) ∧ (-32768 ≤ p 3 ∧ p 3 ≤ 32767) ∧ ((p 1 % 18446744073709551616) % 8 = 2) ∧ ((p 2 % 18446744073709551616) % 129 - 64 + p 3 < 0)
def t0 (p : Nat → Int) : Int := p 0
def t1 (p : Nat → Int) : Int := p 1
def t2 (p : Nat → Int) : Int := p 2
def t3 (p : Nat → Int) : Int := p 3
def t4 (p : Nat → Int) : Int := (IntKind.u64.wrap (t2 p))
def t5 (p : Nat → Int) : Int := (Int.tmod (t4 p) 129)
def t6 (p : Nat → Int) : Int := (IntKind.i64.wrap (t5 p))
def t7 (p : Nat → Int) : Int := (IntKind.i64.wrap ((t6 p) - 64))
def t8 (p : Nat → Int) : Int := (IntKind.i32.wrap (t7 p))
def t9 (p : Nat → Int) : Int := (IntKind.u64.wrap (t1 p))
def t10 (p : Nat → Int) : Int := (IntKind.u64.wrap (t0 p))
def t11 (p : Nat → Int) : Int := (Int.tmod (t10 p) 64)
def t12 (p : Nat → Int) : Int := (IntKind.i64.wrap (t11 p))
def t13 (p : Nat → Int) : Int := (IntKind.i64.wrap (1 + (t12 p)))
def t14 (p : Nat → Int) : Int := (IntKind.i64.wrap (t3 p))
def t15 (p : Nat → Int) : Int := (IntKind.i64.wrap ((t7 p) + (t14 p)))
def t16 (p : Nat → Int) : Int := (IntKind.u64.wrap (t7 p))
def θ (p : Nat → Int) : Nat → Value := fun j => match j with
  | 0 => .int .i64 (t0 p)
  | 1 => .int .i64 (t1 p)
  | 2 => .int .i64 (t2 p)
  | 3 => .int .i16 (t3 p)
  | 4 => .int .u64 (t4 p)
  | 5 => .int .u64 (t5 p)
  | 6 => .int .i64 (t6 p)
  | 7 => .int .i64 (t7 p)
  | 8 => .int .i32 (t8 p)
  | 9 => .int .u64 (t9 p)
  | 10 => .int .u64 (t10 p)
  | 11 => .int .u64 (t11 p)
  | 12 => .int .i64 (t12 p)
  | 13 => .int .i64 (t13 p)
  | 14 => .int .i64 (t14 p)
  | 15 => .int .i64 (t15 p)
  | 16 => .int .u64 (t16 p)
  | _ => .bool false
theorem plain (p : Nat → Int) : ∀ j, plainV (θ p j) = true := by intro j; unfold θ; split <;> rfl
theorem fs (p : Nat → Int) : (t0 p = p 0) ∧ (t1 p = p 1) ∧ (t2 p = p 2) ∧ (t3 p = p 3) ∧ (t4 p = (t2 p) % 18446744073709551616) ∧ (0 ≤ (t4 p) → t5 p = (t4 p) % 129) ∧ (-9223372036854775808 ≤ t6 p ∧ t6 p < 9223372036854775808 ∧ ((t5 p) - t6 p) % 18446744073709551616 = 0) ∧ (-9223372036854775808 ≤ t7 p ∧ t7 p < 9223372036854775808 ∧ (((t6 p) - 64) - t7 p) % 18446744073709551616 = 0) ∧ (-2147483648 ≤ t8 p ∧ t8 p < 2147483648 ∧ ((t7 p) - t8 p) % 4294967296 = 0) ∧ (t9 p = (t1 p) % 18446744073709551616) ∧ (t10 p = (t0 p) % 18446744073709551616) ∧ (0 ≤ (t10 p) → t11 p = (t10 p) % 64) ∧ (-9223372036854775808 ≤ t12 p ∧ t12 p < 9223372036854775808 ∧ ((t11 p) - t12 p) % 18446744073709551616 = 0) ∧ (-9223372036854775808 ≤ t13 p ∧ t13 p < 9223372036854775808 ∧ ((1 + (t12 p)) - t13 p) % 18446744073709551616 = 0) ∧ (-9223372036854775808 ≤ t14 p ∧ t14 p < 9223372036854775808 ∧ ((t3 p) - t14 p) % 18446744073709551616 = 0) ∧ (-9223372036854775808 ≤ t15 p ∧ t15 p < 9223372036854775808 ∧ (((t7 p) + (t14 p)) - t15 p) % 18446744073709551616 = 0) ∧ (t16 p = (t7 p) % 18446744073709551616) := ⟨rfl, rfl, rfl, rfl, w_u64 _, Int.tmod_eq_emod_of_nonneg, w_i64 _, w_i64 _, w_i32 _, w_u64 _, w_u64 _, Int.tmod_eq_emod_of_nonneg, w_i64 _, w_i64 _, w_i64 _, w_i64 _, w_u64 _⟩
def r1 : List (U1 × Value × Value) := [((.conv .u64), (.chan (some 2)), (.chan (some 4))), ((.conv .i64), (.chan (some 5)), (.chan (some 6))), ((.conv .i32), (.chan (some 7)), (.chan (some 8))), ((.conv .u64), (.chan (some 1)), (.chan (some 9))), ((.conv .u64), (.chan (some 0)), (.chan (some 10))), ((.conv .i64), (.chan (some 11)), (.chan (some 12))), ((.conv .i64), (.chan (some 8)), (.chan (some 7))), ((.conv .i64), (.chan (some 3)), (.chan (some 14))), ((.conv .u64), (.chan (some 7)), (.chan (some 16))), ((.conv .i64), (.chan (some 16)), (.chan (some 7)))]
theorem hr1 (p : Nat → Int) (h : H p) : ∀ x ∈ r1, Rule1 (θ p) x := by
  obtain ⟨⟨a0, b0⟩, ⟨a1, b1⟩, ⟨a2, b2⟩, ⟨a3, b3⟩, hc0, hc1⟩ := h
  obtain ⟨f0, f1, f2, f3, f4, f5, f6, f7, f8, f9, f10, f11, f12, f13, f14, f15, f16⟩ := fs p
  replace f5 := f5 (by omega)
  replace f11 := f11 (by omega)
  intro x hx
  simp only [r1, List.mem_cons, List.not_mem_nil, or_false] at hx
  rcases hx with rfl | rfl | rfl | rfl | rfl | rfl | rfl | rfl | rfl | rfl
  · exact ⟨rfl, rfl, congrArg (fun z => some (Value.int .u64 z)) (show IntKind.u64.wrap (t2 p) = (t4 p) from ((w_u64 _).trans (by omega)))⟩
  · exact ⟨rfl, rfl, congrArg (fun z => some (Value.int .i64 z)) (show IntKind.i64.wrap (t5 p) = (t6 p) from (by have g := w_i64 ((t5 p)); omega))⟩
  · exact ⟨rfl, rfl, congrArg (fun z => some (Value.int .i32 z)) (show IntKind.i32.wrap (t7 p) = (t8 p) from (by have g := w_i32 ((t7 p)); omega))⟩
  · exact ⟨rfl, rfl, congrArg (fun z => some (Value.int .u64 z)) (show IntKind.u64.wrap (t1 p) = (t9 p) from ((w_u64 _).trans (by omega)))⟩
  · exact ⟨rfl, rfl, congrArg (fun z => some (Value.int .u64 z)) (show IntKind.u64.wrap (t0 p) = (t10 p) from ((w_u64 _).trans (by omega)))⟩
  · exact ⟨rfl, rfl, congrArg (fun z => some (Value.int .i64 z)) (show IntKind.i64.wrap (t11 p) = (t12 p) from (by have g := w_i64 ((t11 p)); omega))⟩
  · exact ⟨rfl, rfl, congrArg (fun z => some (Value.int .i64 z)) (show IntKind.i64.wrap (t8 p) = (t7 p) from (by have g := w_i64 ((t8 p)); omega))⟩
  · exact ⟨rfl, rfl, congrArg (fun z => some (Value.int .i64 z)) (show IntKind.i64.wrap (t3 p) = (t14 p) from (by have g := w_i64 ((t3 p)); omega))⟩
  · exact ⟨rfl, rfl, congrArg (fun z => some (Value.int .u64 z)) (show IntKind.u64.wrap (t7 p) = (t16 p) from ((w_u64 _).trans (by omega)))⟩
  · exact ⟨rfl, rfl, congrArg (fun z => some (Value.int .i64 z)) (show IntKind.i64.wrap (t16 p) = (t7 p) from (by have g := w_i64 ((t16 p)); omega))⟩
def r2 : List (U2 × Value × Value × Value) := [((.bin .rem), (.chan (some 4)), (.int .u64 129), (.chan (some 5))), ((.bin .sub), (.chan (some 6)), (.int .i64 64), (.chan (some 7))), ((.bin .rem), (.chan (some 9)), (.int .u64 8), (.int .u64 2)), ((.bin .rem), (.chan (some 10)), (.int .u64 64), (.chan (some 11))), ((.bin .add), (.int .i64 1), (.chan (some 12)), (.chan (some 13))), ((.bin .add), (.chan (some 7)), (.chan (some 14)), (.chan (some 15))), ((.bin .geq), (.chan (some 15)), (.int .i64 0), (.bool false)), ((.bin .geq), (.chan (some 13)), (.int .i64 1), (.bool true)), ((.bin .leq), (.chan (some 13)), (.int .i64 64), (.bool true)), ((.bin .lss), (.chan (some 7)), (.int .i64 (-64)), (.bool false)), ((.bin .gtr), (.chan (some 7)), (.int .i64 64), (.bool false)), ((.bin .gtr), (.chan (some 7)), (.chan (some 7)), (.bool false)), ((.bin .eql), (.chan (some 7)), (.chan (some 7)), (.bool true)), ((.bin .add), (.int .i64 0), (.chan (some 7)), (.chan (some 7))), ((.bin .geq), (.chan (some 7)), (.int .i64 (-131072)), (.bool true)), ((.bin .leq), (.chan (some 7)), (.int .i64 131072), (.bool true))]
theorem hr2 (p : Nat → Int) (h : H p) : ∀ x ∈ r2, Rule2 (θ p) x := by
  obtain ⟨⟨a0, b0⟩, ⟨a1, b1⟩, ⟨a2, b2⟩, ⟨a3, b3⟩, hc0, hc1⟩ := h
  obtain ⟨f0, f1, f2, f3, f4, f5, f6, f7, f8, f9, f10, f11, f12, f13, f14, f15, f16⟩ := fs p
  replace f5 := f5 (by omega)
  replace f11 := f11 (by omega)
  intro x hx
  simp only [r2, List.mem_cons, List.not_mem_nil, or_false] at hx
  rcases hx with rfl | rfl | rfl | rfl | rfl | rfl | rfl | rfl | rfl | rfl | rfl | rfl | rfl | rfl | rfl | rfl
  · exact ⟨rfl, rfl, rfl, by show intBin .rem .u64 (t4 p) .u64 (129) = some (.int .u64 (t5 p)); rw [show intBin .rem .u64 (t4 p) .u64 (129) = if IntKind.u64 = IntKind.u64 ∧ (129) ≠ 0 then some (.int .u64 (Int.tmod (t4 p) (129))) else none from rfl, if_pos ⟨rfl, by omega⟩, Int.tmod_eq_emod_of_nonneg (by omega)]; exact congrArg (fun z => some (Value.int .u64 z)) (by omega)⟩
  · exact ⟨rfl, rfl, rfl, congrArg (fun z => some (Value.int .i64 z)) (show IntKind.i64.wrap ((t6 p) - (64)) = (t7 p) from (by have g := w_i64 (((t6 p) - (64))); omega))⟩
  · exact ⟨rfl, rfl, rfl, by show intBin .rem .u64 (t9 p) .u64 (8) = some (.int .u64 (2)); rw [show intBin .rem .u64 (t9 p) .u64 (8) = if IntKind.u64 = IntKind.u64 ∧ (8) ≠ 0 then some (.int .u64 (Int.tmod (t9 p) (8))) else none from rfl, if_pos ⟨rfl, by omega⟩, Int.tmod_eq_emod_of_nonneg (by omega)]; exact congrArg (fun z => some (Value.int .u64 z)) (by omega)⟩
  · exact ⟨rfl, rfl, rfl, by show intBin .rem .u64 (t10 p) .u64 (64) = some (.int .u64 (t11 p)); rw [show intBin .rem .u64 (t10 p) .u64 (64) = if IntKind.u64 = IntKind.u64 ∧ (64) ≠ 0 then some (.int .u64 (Int.tmod (t10 p) (64))) else none from rfl, if_pos ⟨rfl, by omega⟩, Int.tmod_eq_emod_of_nonneg (by omega)]; exact congrArg (fun z => some (Value.int .u64 z)) (by omega)⟩
  · exact ⟨rfl, rfl, rfl, congrArg (fun z => some (Value.int .i64 z)) (show IntKind.i64.wrap ((1) + (t12 p)) = (t13 p) from (by have g := w_i64 (((1) + (t12 p))); omega))⟩
  · exact ⟨rfl, rfl, rfl, congrArg (fun z => some (Value.int .i64 z)) (show IntKind.i64.wrap ((t7 p) + (t14 p)) = (t15 p) from (by have g := w_i64 (((t7 p) + (t14 p))); omega))⟩
  · exact ⟨rfl, rfl, rfl, congrArg (fun z => some (Value.bool z)) (decide_eq_false (show ¬ ((t15 p) ≥ (0)) from by omega))⟩
  · exact ⟨rfl, rfl, rfl, congrArg (fun z => some (Value.bool z)) (decide_eq_true (show ((t13 p) ≥ (1)) from by omega))⟩
  · exact ⟨rfl, rfl, rfl, congrArg (fun z => some (Value.bool z)) (decide_eq_true (show ((t13 p) ≤ (64)) from by omega))⟩
  · exact ⟨rfl, rfl, rfl, congrArg (fun z => some (Value.bool z)) (decide_eq_false (show ¬ ((t7 p) < (-64)) from by omega))⟩
  · exact ⟨rfl, rfl, rfl, congrArg (fun z => some (Value.bool z)) (decide_eq_false (show ¬ ((t7 p) > (64)) from by omega))⟩
  · exact ⟨rfl, rfl, rfl, congrArg (fun z => some (Value.bool z)) (decide_eq_false (show ¬ ((t7 p) > (t7 p)) from by omega))⟩
  · exact ⟨rfl, rfl, rfl, congrArg (fun z => some (Value.bool z)) (show ((t7 p) == (t7 p)) = true from beq_iff_eq.2 (by omega))⟩
  · exact ⟨rfl, rfl, rfl, congrArg (fun z => some (Value.int .i64 z)) (show IntKind.i64.wrap ((0) + (t7 p)) = (t7 p) from (by have g := w_i64 (((0) + (t7 p))); omega))⟩
  · exact ⟨rfl, rfl, rfl, congrArg (fun z => some (Value.bool z)) (decide_eq_true (show ((t7 p) ≥ (-131072)) from by omega))⟩
  · exact ⟨rfl, rfl, rfl, congrArg (fun z => some (Value.bool z)) (decide_eq_true (show ((t7 p) ≤ (131072)) from by omega))⟩
def re : List (Value × Value × Bool) := []
theorem hre (p : Nat → Int) (h : H p) : ∀ x ∈ re, RuleE (θ p) x := fun x hx => nomatch hx
abbrev sy (p : Nat → Int) (h : H p) : Sy := syOf (θ p) (plain p) r1 r2 re (hr1 p h) (hr2 p h) (hre p h)
end vl_lo2
namespace vl_hi2
abbrev H (p : Nat → Int) : Prop := (-9223372036854775808 ≤ p 0 ∧ p 0 ≤ 9223372036854775807) ∧ (-9223372036854775808 ≤ p 1 ∧ p 1 ≤ 9223372036854775807) ∧ (-9223372036854775808 ≤ p 2 ∧ p 2 ≤ 9223372036854775807) ∧ (-32768 ≤ p 3 ∧ p 3 ≤ 32767) ∧ ((p 1 % 18446744073709551616) % 8 = 2) ∧ (0 ≤ (p 2 % 18446744073709551616) % 129 - 64 + p 3 ∧ 1 + (p 0 % 18446744073709551616) % 64 < (p 2 % 18446744073709551616) % 129 - 64 + p 3 + 1)
def t0 (p : Nat → Int) : Int := p 0
def t1 (p : Nat → Int) : Int := p 1
def t2 (p : Nat → Int) : Int := p 2
def t3 (p : Nat → Int) : Int := p 3
def t4 (p : Nat → Int) : Int := (IntKind.u64.wrap (t2 p))
def t5 (p : Nat → Int) : Int := (Int.tmod (t4 p) 129)
def t6 (p : Nat → Int) : Int := (IntKind.i64.wrap (t5 p))
def t7 (p : Nat → Int) : Int := (IntKind.i64.wrap ((t6 p) - 64))
def t8 (p : Nat → Int) : Int := (IntKind.i32.wrap (t7 p))
def t9 (p : Nat → Int) : Int := (IntKind.u64.wrap (t1 p))
def t10 (p : Nat → Int) : Int := (IntKind.u64.wrap (t0 p))
def t11 (p : Nat → Int) : Int := (Int.tmod (t10 p) 64)
def t12 (p : Nat → Int) : Int := (IntKind.i64.wrap (t11 p))
def t13 (p : Nat → Int) : Int := (IntKind.i64.wrap (1 + (t12 p)))
def t14 (p : Nat → Int) : Int := (IntKind.i64.wrap (t3 p))
def t15 (p : Nat → Int) : Int := (IntKind.i64.wrap ((t7 p) + (t14 p)))
def t16 (p : Nat → Int) : Int := (IntKind.i64.wrap ((t15 p) + 1))
def t17 (p : Nat → Int) : Int := (IntKind.u64.wrap (t7 p))
def θ (p : Nat → Int) : Nat → Value := fun j => match j with
  | 0 => .int .i64 (t0 p)
  | 1 => .int .i64 (t1 p)
  | 2 => .int .i64 (t2 p)
  | 3 => .int .i16 (t3 p)
  | 4 => .int .u64 (t4 p)
  | 5 => .int .u64 (t5 p)
  | 6 => .int .i64 (t6 p)
  | 7 => .int .i64 (t7 p)
  | 8 => .int .i32 (t8 p)
  | 9 => .int .u64 (t9 p)
  | 10 => .int .u64 (t10 p)
  | 11 => .int .u64 (t11 p)
  | 12 => .int .i64 (t12 p)
  | 13 => .int .i64 (t13 p)
  | 14 => .int .i64 (t14 p)
  | 15 => .int .i64 (t15 p)
  | 16 => .int .i64 (t16 p)
  | 17 => .int .u64 (t17 p)
  | _ => .bool false
theorem plain (p : Nat → Int) : ∀ j, plainV (θ p j) = true := by intro j; unfold θ; split <;> rfl
theorem fs (p : Nat → Int) : (t0 p = p 0) ∧ (t1 p = p 1) ∧ (t2 p = p 2) ∧ (t3 p = p 3) ∧ (t4 p = (t2 p) % 18446744073709551616) ∧ (0 ≤ (t4 p) → t5 p = (t4 p) % 129) ∧ (-9223372036854775808 ≤ t6 p ∧ t6 p < 9223372036854775808 ∧ ((t5 p) - t6 p) % 18446744073709551616 = 0) ∧ (-9223372036854775808 ≤ t7 p ∧ t7 p < 9223372036854775808 ∧ (((t6 p) - 64) - t7 p) % 18446744073709551616 = 0) ∧ (-2147483648 ≤ t8 p ∧ t8 p < 2147483648 ∧ ((t7 p) - t8 p) % 4294967296 = 0) ∧ (t9 p = (t1 p) % 18446744073709551616) ∧ (t10 p = (t0 p) % 18446744073709551616) ∧ (0 ≤ (t10 p) → t11 p = (t10 p) % 64) ∧ (-9223372036854775808 ≤ t12 p ∧ t12 p < 9223372036854775808 ∧ ((t11 p) - t12 p) % 18446744073709551616 = 0) ∧ (-9223372036854775808 ≤ t13 p ∧ t13 p < 9223372036854775808 ∧ ((1 + (t12 p)) - t13 p) % 18446744073709551616 = 0) ∧ (-9223372036854775808 ≤ t14 p ∧ t14 p < 9223372036854775808 ∧ ((t3 p) - t14 p) % 18446744073709551616 = 0) ∧ (-9223372036854775808 ≤ t15 p ∧ t15 p < 9223372036854775808 ∧ (((t7 p) + (t14 p)) - t15 p) % 18446744073709551616 = 0) ∧ (-9223372036854775808 ≤ t16 p ∧ t16 p < 9223372036854775808 ∧ (((t15 p) + 1) - t16 p) % 18446744073709551616 = 0) ∧ (t17 p = (t7 p) % 18446744073709551616) := ⟨rfl, rfl, rfl, rfl, w_u64 _, Int.tmod_eq_emod_of_nonneg, w_i64 _, w_i64 _, w_i32 _, w_u64 _, w_u64 _, Int.tmod_eq_emod_of_nonneg, w_i64 _, w_i64 _, w_i64 _, w_i64 _, w_i64 _, w_u64 _⟩
def r1 : List (U1 × Value × Value) := [((.conv .u64), (.chan (some 2)), (.chan (some 4))), ((.conv .i64), (.chan (some 5)), (.chan (some 6))), ((.conv .i32), (.chan (some 7)), (.chan (some 8))), ((.conv .u64), (.chan (some 1)), (.chan (some 9))), ((.conv .u64), (.chan (some 0)), (.chan (some 10))), ((.conv .i64), (.chan (some 11)), (.chan (some 12))), ((.conv .i64), (.chan (some 8)), (.chan (some 7))), ((.conv .i64), (.chan (some 3)), (.chan (some 14))), ((.conv .u64), (.chan (some 7)), (.chan (some 17))), ((.conv .i64), (.chan (some 17)), (.chan (some 7)))]
theorem hr1 (p : Nat → Int) (h : H p) : ∀ x ∈ r1, Rule1 (θ p) x := by
  obtain ⟨⟨a0, b0⟩, ⟨a1, b1⟩, ⟨a2, b2⟩, ⟨a3, b3⟩, hc0, hc1⟩ := h
  obtain ⟨f0, f1, f2, f3, f4, f5, f6, f7, f8, f9, f10, f11, f12, f13, f14, f15, f16, f17⟩ := fs p
  replace f5 := f5 (by omega)
  replace f11 := f11 (by omega)
  intro x hx
  simp only [r1, List.mem_cons, List.not_mem_nil, or_false] at hx
  rcases hx with rfl | rfl | rfl | rfl | rfl | rfl | rfl | rfl | rfl | rfl
  · exact ⟨rfl, rfl, congrArg (fun z => some (Value.int .u64 z)) (show IntKind.u64.wrap (t2 p) = (t4 p) from ((w_u64 _).trans (by omega)))⟩
  · exact ⟨rfl, rfl, congrArg (fun z => some (Value.int .i64 z)) (show IntKind.i64.wrap (t5 p) = (t6 p) from (by have g := w_i64 ((t5 p)); omega))⟩
  · exact ⟨rfl, rfl, congrArg (fun z => some (Value.int .i32 z)) (show IntKind.i32.wrap (t7 p) = (t8 p) from (by have g := w_i32 ((t7 p)); omega))⟩
  · exact ⟨rfl, rfl, congrArg (fun z => some (Value.int .u64 z)) (show IntKind.u64.wrap (t1 p) = (t9 p) from ((w_u64 _).trans (by omega)))⟩
  · exact ⟨rfl, rfl, congrArg (fun z => some (Value.int .u64 z)) (show IntKind.u64.wrap (t0 p) = (t10 p) from ((w_u64 _).trans (by omega)))⟩
  · exact ⟨rfl, rfl, congrArg (fun z => some (Value.int .i64 z)) (show IntKind.i64.wrap (t11 p) = (t12 p) from (by have g := w_i64 ((t11 p)); omega))⟩
  · exact ⟨rfl, rfl, congrArg (fun z => some (Value.int .i64 z)) (show IntKind.i64.wrap (t8 p) = (t7 p) from (by have g := w_i64 ((t8 p)); omega))⟩
  · exact ⟨rfl, rfl, congrArg (fun z => some (Value.int .i64 z)) (show IntKind.i64.wrap (t3 p) = (t14 p) from (by have g := w_i64 ((t3 p)); omega))⟩
  · exact ⟨rfl, rfl, congrArg (fun z => some (Value.int .u64 z)) (show IntKind.u64.wrap (t7 p) = (t17 p) from ((w_u64 _).trans (by omega)))⟩
  · exact ⟨rfl, rfl, congrArg (fun z => some (Value.int .i64 z)) (show IntKind.i64.wrap (t17 p) = (t7 p) from (by have g := w_i64 ((t17 p)); omega))⟩
def r2 : List (U2 × Value × Value × Value) := [((.bin .rem), (.chan (some 4)), (.int .u64 129), (.chan (some 5))), ((.bin .sub), (.chan (some 6)), (.int .i64 64), (.chan (some 7))), ((.bin .rem), (.chan (some 9)), (.int .u64 8), (.int .u64 2)), ((.bin .rem), (.chan (some 10)), (.int .u64 64), (.chan (some 11))), ((.bin .add), (.int .i64 1), (.chan (some 12)), (.chan (some 13))), ((.bin .add), (.chan (some 7)), (.chan (some 14)), (.chan (some 15))), ((.bin .geq), (.chan (some 15)), (.int .i64 0), (.bool true)), ((.bin .add), (.chan (some 15)), (.int .i64 1), (.chan (some 16))), ((.bin .leq), (.chan (some 16)), (.chan (some 13)), (.bool false)), ((.bin .geq), (.chan (some 13)), (.int .i64 1), (.bool true)), ((.bin .leq), (.chan (some 13)), (.int .i64 64), (.bool true)), ((.bin .lss), (.chan (some 7)), (.int .i64 (-64)), (.bool false)), ((.bin .gtr), (.chan (some 7)), (.int .i64 64), (.bool false)), ((.bin .gtr), (.chan (some 7)), (.chan (some 7)), (.bool false)), ((.bin .eql), (.chan (some 7)), (.chan (some 7)), (.bool true)), ((.bin .add), (.int .i64 0), (.chan (some 7)), (.chan (some 7))), ((.bin .geq), (.chan (some 7)), (.int .i64 (-131072)), (.bool true)), ((.bin .leq), (.chan (some 7)), (.int .i64 131072), (.bool true))]
theorem hr2 (p : Nat → Int) (h : H p) : ∀ x ∈ r2, Rule2 (θ p) x := by
  obtain ⟨⟨a0, b0⟩, ⟨a1, b1⟩, ⟨a2, b2⟩, ⟨a3, b3⟩, hc0, hc1⟩ := h
  obtain ⟨f0, f1, f2, f3, f4, f5, f6, f7, f8, f9, f10, f11, f12, f13, f14, f15, f16, f17⟩ := fs p
  replace f5 := f5 (by omega)
  replace f11 := f11 (by omega)
  intro x hx
  simp only [r2, List.mem_cons, List.not_mem_nil, or_false] at hx
  rcases hx with rfl | rfl | rfl | rfl | rfl | rfl | rfl | rfl | rfl | rfl | rfl | rfl | rfl | rfl | rfl | rfl | rfl | rfl
  · exact ⟨rfl, rfl, rfl, by show intBin .rem .u64 (t4 p) .u64 (129) = some (.int .u64 (t5 p)); rw [show intBin .rem .u64 (t4 p) .u64 (129) = if IntKind.u64 = IntKind.u64 ∧ (129) ≠ 0 then some (.int .u64 (Int.tmod (t4 p) (129))) else none from rfl, if_pos ⟨rfl, by omega⟩, Int.tmod_eq_emod_of_nonneg (by omega)]; exact congrArg (fun z => some (Value.int .u64 z)) (by omega)⟩
  · exact ⟨rfl, rfl, rfl, congrArg (fun z => some (Value.int .i64 z)) (show IntKind.i64.wrap ((t6 p) - (64)) = (t7 p) from (by have g := w_i64 (((t6 p) - (64))); omega))⟩
  · exact ⟨rfl, rfl, rfl, by show intBin .rem .u64 (t9 p) .u64 (8) = some (.int .u64 (2)); rw [show intBin .rem .u64 (t9 p) .u64 (8) = if IntKind.u64 = IntKind.u64 ∧ (8) ≠ 0 then some (.int .u64 (Int.tmod (t9 p) (8))) else none from rfl, if_pos ⟨rfl, by omega⟩, Int.tmod_eq_emod_of_nonneg (by omega)]; exact congrArg (fun z => some (Value.int .u64 z)) (by omega)⟩
  · exact ⟨rfl, rfl, rfl, by show intBin .rem .u64 (t10 p) .u64 (64) = some (.int .u64 (t11 p)); rw [show intBin .rem .u64 (t10 p) .u64 (64) = if IntKind.u64 = IntKind.u64 ∧ (64) ≠ 0 then some (.int .u64 (Int.tmod (t10 p) (64))) else none from rfl, if_pos ⟨rfl, by omega⟩, Int.tmod_eq_emod_of_nonneg (by omega)]; exact congrArg (fun z => some (Value.int .u64 z)) (by omega)⟩
  · exact ⟨rfl, rfl, rfl, congrArg (fun z => some (Value.int .i64 z)) (show IntKind.i64.wrap ((1) + (t12 p)) = (t13 p) from (by have g := w_i64 (((1) + (t12 p))); omega))⟩
  · exact ⟨rfl, rfl, rfl, congrArg (fun z => some (Value.int .i64 z)) (show IntKind.i64.wrap ((t7 p) + (t14 p)) = (t15 p) from (by have g := w_i64 (((t7 p) + (t14 p))); omega))⟩
  · exact ⟨rfl, rfl, rfl, congrArg (fun z => some (Value.bool z)) (decide_eq_true (show ((t15 p) ≥ (0)) from by omega))⟩
  · exact ⟨rfl, rfl, rfl, congrArg (fun z => some (Value.int .i64 z)) (show IntKind.i64.wrap ((t15 p) + (1)) = (t16 p) from (by have g := w_i64 (((t15 p) + (1))); omega))⟩
  · exact ⟨rfl, rfl, rfl, congrArg (fun z => some (Value.bool z)) (decide_eq_false (show ¬ ((t16 p) ≤ (t13 p)) from by omega))⟩
  · exact ⟨rfl, rfl, rfl, congrArg (fun z => some (Value.bool z)) (decide_eq_true (show ((t13 p) ≥ (1)) from by omega))⟩
  · exact ⟨rfl, rfl, rfl, congrArg (fun z => some (Value.bool z)) (decide_eq_true (show ((t13 p) ≤ (64)) from by omega))⟩
  · exact ⟨rfl, rfl, rfl, congrArg (fun z => some (Value.bool z)) (decide_eq_false (show ¬ ((t7 p) < (-64)) from by omega))⟩
  · exact ⟨rfl, rfl, rfl, congrArg (fun z => some (Value.bool z)) (decide_eq_false (show ¬ ((t7 p) > (64)) from by omega))⟩
  · exact ⟨rfl, rfl, rfl, congrArg (fun z => some (Value.bool z)) (decide_eq_false (show ¬ ((t7 p) > (t7 p)) from by omega))⟩
  · exact ⟨rfl, rfl, rfl, congrArg (fun z => some (Value.bool z)) (show ((t7 p) == (t7 p)) = true from beq_iff_eq.2 (by omega))⟩
  · exact ⟨rfl, rfl, rfl, congrArg (fun z => some (Value.int .i64 z)) (show IntKind.i64.wrap ((0) + (t7 p)) = (t7 p) from (by have g := w_i64 (((0) + (t7 p))); omega))⟩
  · exact ⟨rfl, rfl, rfl, congrArg (fun z => some (Value.bool z)) (decide_eq_true (show ((t7 p) ≥ (-131072)) from by omega))⟩
  · exact ⟨rfl, rfl, rfl, congrArg (fun z => some (Value.bool z)) (decide_eq_true (show ((t7 p) ≤ (131072)) from by omega))⟩
def re : List (Value × Value × Bool) := []
theorem hre (p : Nat → Int) (h : H p) : ∀ x ∈ re, RuleE (θ p) x := fun x hx => nomatch hx
abbrev sy (p : Nat → Int) (h : H p) : Sy := syOf (θ p) (plain p) r1 r2 re (hr1 p h) (hr2 p h) (hre p h)
end vl_hi2
namespace vl_in3
abbrev H (p : Nat → Int) : Prop := (-9223372036854775808 ≤ p 0 ∧ p 0 ≤ 9223372036854775807) ∧ (-9223372036854775808 ≤ p 1 ∧ p 1 ≤ 9223372036854775807) ∧ (-9223372036854775808 ≤ p 2 ∧ p 2 ≤ 9223372036854775807) ∧ (-32768 ≤ p 3 ∧ p 3 ≤ 32767) ∧ ((p 1 % 18446744073709551616) % 8 = 3) ∧ (0 ≤ (p 2 % 18446744073709551616) % 129 - 64 + p 3 ∧ (p 2 % 18446744073709551616) % 129 - 64 + p 3 + 8 ≤ 1 + (p 0 % 18446744073709551616) % 64)
def t0 (p : Nat → Int) : Int := p 0
def t1 (p : Nat → Int) : Int := p 1
def t2 (p : Nat → Int) : Int := p 2
def t3 (p : Nat → Int) : Int := p 3
def t4 (p : Nat → Int) : Int := (IntKind.u64.wrap (t2 p))
def t5 (p : Nat → Int) : Int := (Int.tmod (t4 p) 129)
def t6 (p : Nat → Int) : Int := (IntKind.i64.wrap (t5 p))
def t7 (p : Nat → Int) : Int := (IntKind.i64.wrap ((t6 p) - 64))
def t8 (p : Nat → Int) : Int := (IntKind.i32.wrap (t7 p))
def t9 (p : Nat → Int) : Int := (IntKind.u64.wrap (t1 p))
def t10 (p : Nat → Int) : Int := (IntKind.u64.wrap (t0 p))
def t11 (p : Nat → Int) : Int := (Int.tmod (t10 p) 64)
def t12 (p : Nat → Int) : Int := (IntKind.i64.wrap (t11 p))
def t13 (p : Nat → Int) : Int := (IntKind.i64.wrap (1 + (t12 p)))
def t14 (p : Nat → Int) : Int := (IntKind.i64.wrap (t3 p))
def t15 (p : Nat → Int) : Int := (IntKind.i64.wrap ((t7 p) + (t14 p)))
def t16 (p : Nat → Int) : Int := (IntKind.i64.wrap ((t15 p) + 8))
def t17 (p : Nat → Int) : Int := (IntKind.u64.wrap (t7 p))
def θ (p : Nat → Int) : Nat → Value := fun j => match j with
  | 0 => .int .i64 (t0 p)
  | 1 => .int .i64 (t1 p)
  | 2 => .int .i64 (t2 p)
  | 3 => .int .i16 (t3 p)
  | 4 => .int .u64 (t4 p)
  | 5 => .int .u64 (t5 p)
  | 6 => .int .i64 (t6 p)
  | 7 => .int .i64 (t7 p)
  | 8 => .int .i32 (t8 p)
  | 9 => .int .u64 (t9 p)
  | 10 => .int .u64 (t10 p)
  | 11 => .int .u64 (t11 p)
  | 12 => .int .i64 (t12 p)
  | 13 => .int .i64 (t13 p)
  | 14 => .int .i64 (t14 p)
  | 15 => .int .i64 (t15 p)
  | 16 => .int .i64 (t16 p)
  | 17 => .int .u64 (t17 p)
  | _ => .bool false
theorem plain (p : Nat → Int) : ∀ j, plainV (θ p j) = true := by intro j; unfold θ; split <;> rfl
theorem fs (p : Nat → Int) : (t0 p = p 0) ∧ (t1 p = p 1) ∧ (t2 p = p 2) ∧ (t3 p = p 3) ∧ (t4 p = (t2 p) % 18446744073709551616) ∧ (0 ≤ (t4 p) → t5 p = (t4 p) % 129) ∧ (-9223372036854775808 ≤ t6 p ∧ t6 p < 9223372036854775808 ∧ ((t5 p) - t6 p) % 18446744073709551616 = 0) ∧ (-9223372036854775808 ≤ t7 p ∧ t7 p < 9223372036854775808 ∧ (((t6 p) - 64) - t7 p) % 18446744073709551616 = 0) ∧ (-2147483648 ≤ t8 p ∧ t8 p < 2147483648 ∧ ((t7 p) - t8 p) % 4294967296 = 0) ∧ (t9 p = (t1 p) % 18446744073709551616) ∧ (t10 p = (t0 p) % 18446744073709551616) ∧ (0 ≤ (t10 p) → t11 p = (t10 p) % 64) ∧ (-9223372036854775808 ≤ t12 p ∧ t12 p < 9223372036854775808 ∧ ((t11 p) - t12 p) % 18446744073709551616 = 0) ∧ (-9223372036854775808 ≤ t13 p ∧ t13 p < 9223372036854775808 ∧ ((1 + (t12 p)) - t13 p) % 18446744073709551616 = 0) ∧ (-9223372036854775808 ≤ t14 p ∧ t14 p < 9223372036854775808 ∧ ((t3 p) - t14 p) % 18446744073709551616 = 0) ∧ (-9223372036854775808 ≤ t15 p ∧ t15 p < 9223372036854775808 ∧ (((t7 p) + (t14 p)) - t15 p) % 18446744073709551616 = 0) ∧ (-9223372036854775808 ≤ t16 p ∧ t16 p < 9223372036854775808 ∧ (((t15 p) + 8) - t16 p) % 18446744073709551616 = 0) ∧ (t17 p = (t7 p) % 18446744073709551616) := ⟨rfl, rfl, rfl, rfl, w_u64 _, Int.tmod_eq_emod_of_nonneg, w_i64 _, w_i64 _, w_i32 _, w_u64 _, w_u64 _, Int.tmod_eq_emod_of_nonneg, w_i64 _, w_i64 _, w_i64 _, w_i64 _, w_i64 _, w_u64 _⟩
def r1 : List (U1 × Value × Value) := [((.conv .u64), (.chan (some 2)), (.chan (some 4))), ((.conv .i64), (.chan (some 5)), (.chan (some 6))), ((.conv .i32), (.chan (some 7)), (.chan (some 8))), ((.conv .u64), (.chan (some 1)), (.chan (some 9))), ((.conv .u64), (.chan (some 0)), (.chan (some 10))), ((.conv .i64), (.chan (some 11)), (.chan (some 12))), ((.conv .i64), (.chan (some 8)), (.chan (some 7))), ((.conv .i64), (.chan (some 3)), (.chan (some 14))), ((.conv .u64), (.chan (some 7)), (.chan (some 17))), ((.conv .i64), (.chan (some 17)), (.chan (some 7)))]
theorem hr1 (p : Nat → Int) (h : H p) : ∀ x ∈ r1, Rule1 (θ p) x := by
  obtain ⟨⟨a0, b0⟩, ⟨a1, b1⟩, ⟨a2, b2⟩, ⟨a3, b3⟩, hc0, hc1⟩ := h
  obtain ⟨f0, f1, f2, f3, f4, f5, f6, f7, f8, f9, f10, f11, f12, f13, f14, f15, f16, f17⟩ := fs p
  replace f5 := f5 (by omega)
  replace f11 := f11 (by omega)
  intro x hx
  simp only [r1, List.mem_cons, List.not_mem_nil, or_false] at hx
  rcases hx with rfl | rfl | rfl | rfl | rfl | rfl | rfl | rfl | rfl | rfl
  · exact ⟨rfl, rfl, congrArg (fun z => some (Value.int .u64 z)) (show IntKind.u64.wrap (t2 p) = (t4 p) from ((w_u64 _).trans (by omega)))⟩
  · exact ⟨rfl, rfl, congrArg (fun z => some (Value.int .i64 z)) (show IntKind.i64.wrap (t5 p) = (t6 p) from (by have g := w_i64 ((t5 p)); omega))⟩
  · exact ⟨rfl, rfl, congrArg (fun z => some (Value.int .i32 z)) (show IntKind.i32.wrap (t7 p) = (t8 p) from (by have g := w_i32 ((t7 p)); omega))⟩
  · exact ⟨rfl, rfl, congrArg (fun z => some (Value.int .u64 z)) (show IntKind.u64.wrap (t1 p) = (t9 p) from ((w_u64 _).trans (by omega)))⟩
  · exact ⟨rfl, rfl, congrArg (fun z => some (Value.int .u64 z)) (show IntKind.u64.wrap (t0 p) = (t10 p) from ((w_u64 _).trans (by omega)))⟩
  · exact ⟨rfl, rfl, congrArg (fun z => some (Value.int .i64 z)) (show IntKind.i64.wrap (t11 p) = (t12 p) from (by have g := w_i64 ((t11 p)); omega))⟩
  · exact ⟨rfl, rfl, congrArg (fun z => some (Value.int .i64 z)) (show IntKind.i64.wrap (t8 p) = (t7 p) from (by have g := w_i64 ((t8 p)); omega))⟩
  · exact ⟨rfl, rfl, congrArg (fun z => some (Value.int .i64 z)) (show IntKind.i64.wrap (t3 p) = (t14 p) from (by have g := w_i64 ((t3 p)); omega))⟩
  · exact ⟨rfl, rfl, congrArg (fun z => some (Value.int .u64 z)) (show IntKind.u64.wrap (t7 p) = (t17 p) from ((w_u64 _).trans (by omega)))⟩
  · exact ⟨rfl, rfl, congrArg (fun z => some (Value.int .i64 z)) (show IntKind.i64.wrap (t17 p) = (t7 p) from (by have g := w_i64 ((t17 p)); omega))⟩
def r2 : List (U2 × Value × Value × Value) := [((.bin .rem), (.chan (some 4)), (.int .u64 129), (.chan (some 5))), ((.bin .sub), (.chan (some 6)), (.int .i64 64), (.chan (some 7))), ((.bin .rem), (.chan (some 9)), (.int .u64 8), (.int .u64 3)), ((.bin .rem), (.chan (some 10)), (.int .u64 64), (.chan (some 11))), ((.bin .add), (.int .i64 1), (.chan (some 12)), (.chan (some 13))), ((.bin .add), (.chan (some 7)), (.chan (some 14)), (.chan (some 15))), ((.bin .geq), (.chan (some 15)), (.int .i64 0), (.bool true)), ((.bin .add), (.chan (some 15)), (.int .i64 8), (.chan (some 16))), ((.bin .leq), (.chan (some 16)), (.chan (some 13)), (.bool true)), ((.bin .geq), (.chan (some 13)), (.int .i64 1), (.bool true)), ((.bin .leq), (.chan (some 13)), (.int .i64 64), (.bool true)), ((.bin .lss), (.chan (some 7)), (.int .i64 (-64)), (.bool false)), ((.bin .gtr), (.chan (some 7)), (.int .i64 64), (.bool false)), ((.bin .gtr), (.chan (some 7)), (.chan (some 7)), (.bool false)), ((.bin .eql), (.chan (some 7)), (.chan (some 7)), (.bool true)), ((.bin .add), (.int .i64 0), (.chan (some 7)), (.chan (some 7))), ((.bin .geq), (.chan (some 7)), (.int .i64 (-131072)), (.bool true)), ((.bin .leq), (.chan (some 7)), (.int .i64 131072), (.bool true))]
theorem hr2 (p : Nat → Int) (h : H p) : ∀ x ∈ r2, Rule2 (θ p) x := by
  obtain ⟨⟨a0, b0⟩, ⟨a1, b1⟩, ⟨a2, b2⟩, ⟨a3, b3⟩, hc0, hc1⟩ := h
  obtain ⟨f0, f1, f2, f3, f4, f5, f6, f7, f8, f9, f10, f11, f12, f13, f14, f15, f16, f17⟩ := fs p
  replace f5 := f5 (by omega)
  replace f11 := f11 (by omega)
  intro x hx
  simp only [r2, List.mem_cons, List.not_mem_nil, or_false] at hx
  rcases hx with rfl | rfl | rfl | rfl | rfl | rfl | rfl | rfl | rfl | rfl | rfl | rfl | rfl | rfl | rfl | rfl | rfl | rfl
  · exact ⟨rfl, rfl, rfl, by show intBin .rem .u64 (t4 p) .u64 (129) = some (.int .u64 (t5 p)); rw [show intBin .rem .u64 (t4 p) .u64 (129) = if IntKind.u64 = IntKind.u64 ∧ (129) ≠ 0 then some (.int .u64 (Int.tmod (t4 p) (129))) else none from rfl, if_pos ⟨rfl, by omega⟩, Int.tmod_eq_emod_of_nonneg (by omega)]; exact congrArg (fun z => some (Value.int .u64 z)) (by omega)⟩
  · exact ⟨rfl, rfl, rfl, congrArg (fun z => some (Value.int .i64 z)) (show IntKind.i64.wrap ((t6 p) - (64)) = (t7 p) from (by have g := w_i64 (((t6 p) - (64))); omega))⟩
  · exact ⟨rfl, rfl, rfl, by show intBin .rem .u64 (t9 p) .u64 (8) = some (.int .u64 (3)); rw [show intBin .rem .u64 (t9 p) .u64 (8) = if IntKind.u64 = IntKind.u64 ∧ (8) ≠ 0 then some (.int .u64 (Int.tmod (t9 p) (8))) else none from rfl, if_pos ⟨rfl, by omega⟩, Int.tmod_eq_emod_of_nonneg (by omega)]; exact congrArg (fun z => some (Value.int .u64 z)) (by omega)⟩
  · exact ⟨rfl, rfl, rfl, by show intBin .rem .u64 (t10 p) .u64 (64) = some (.int .u64 (t11 p)); rw [show intBin .rem .u64 (t10 p) .u64 (64) = if IntKind.u64 = IntKind.u64 ∧ (64) ≠ 0 then some (.int .u64 (Int.tmod (t10 p) (64))) else none from rfl, if_pos ⟨rfl, by omega⟩, Int.tmod_eq_emod_of_nonneg (by omega)]; exact congrArg (fun z => some (Value.int .u64 z)) (by omega)⟩
  · exact ⟨rfl, rfl, rfl, congrArg (fun z => some (Value.int .i64 z)) (show IntKind.i64.wrap ((1) + (t12 p)) = (t13 p) from (by have g := w_i64 (((1) + (t12 p))); omega))⟩
  · exact ⟨rfl, rfl, rfl, congrArg (fun z => some (Value.int .i64 z)) (show IntKind.i64.wrap ((t7 p) + (t14 p)) = (t15 p) from (by have g := w_i64 (((t7 p) + (t14 p))); omega))⟩
  · exact ⟨rfl, rfl, rfl, congrArg (fun z => some (Value.bool z)) (decide_eq_true (show ((t15 p) ≥ (0)) from by omega))⟩
  · exact ⟨rfl, rfl, rfl, congrArg (fun z => some (Value.int .i64 z)) (show IntKind.i64.wrap ((t15 p) + (8)) = (t16 p) from (by have g := w_i64 (((t15 p) + (8))); omega))⟩
  · exact ⟨rfl, rfl, rfl, congrArg (fun z => some (Value.bool z)) (decide_eq_true (show ((t16 p) ≤ (t13 p)) from by omega))⟩
  · exact ⟨rfl, rfl, rfl, congrArg (fun z => some (Value.bool z)) (decide_eq_true (show ((t13 p) ≥ (1)) from by omega))⟩
  · exact ⟨rfl, rfl, rfl, congrArg (fun z => some (Value.bool z)) (decide_eq_true (show ((t13 p) ≤ (64)) from by omega))⟩
  · exact ⟨rfl, rfl, rfl, congrArg (fun z => some (Value.bool z)) (decide_eq_false (show ¬ ((t7 p) < (-64)) from by omega))⟩
  · exact ⟨rfl, rfl, rfl, congrArg (fun z => some (Value.bool z)) (decide_eq_false (show ¬ ((t7 p) > (64)) from by omega))⟩
  · exact ⟨rfl, rfl, rfl, congrArg (fun z => some (Value.bool z)) (decide_eq_false (show ¬ ((t7 p) > (t7 p)) from by omega))⟩
  · exact ⟨rfl, rfl, rfl, congrArg (fun z => some (Value.bool z)) (show ((t7 p) == (t7 p)) = true from beq_iff_eq.2 (by omega))⟩
  · exact ⟨rfl, rfl, rfl, congrArg (fun z => some (Value.int .i64 z)) (show IntKind.i64.wrap ((0) + (t7 p)) = (t7 p) from (by have g := w_i64 (((0) + (t7 p))); omega))⟩
  · exact ⟨rfl, rfl, rfl, congrArg (fun z => some (Value.bool z)) (decide_eq_true (show ((t7 p) ≥ (-131072)) from by omega))⟩
  · exact ⟨rfl, rfl, rfl, congrArg (fun z => some (Value.bool z)) (decide_eq_true (show ((t7 p) ≤ (131072)) from by omega))⟩
def re : List (Value × Value × Bool) := []
theorem hre (p : Nat → Int) (h : H p) : ∀ x ∈ re, RuleE (θ p) x := fun x hx => nomatch hx
abbrev sy (p : Nat → Int) (h : H p) : Sy := syOf (θ p) (plain p) r1 r2 re (hr1 p h) (hr2 p h) (hre p h)
end vl_in3
namespace vl_lo3
abbrev H (p : Nat → Int) : Prop := (-9223372036854775808 ≤ p 0 ∧ p 0 ≤ 9223372036854775807) ∧ (-9223372036854775808 ≤ p 1 ∧ p 1 ≤ 9223372036854775807) ∧ (-9223372036854775808 ≤ p 2 ∧ p 2 ≤ 9223372036854775807) ∧ (-32768 ≤ p 3 ∧ p 3 ≤ 32767) ∧ ((p 1 % 18446744073709551616) % 8 = 3) ∧ ((p 2 % 18446744073709551616) % 129 - 64 + p 3 < 0)
def t0 (p : Nat → Int) : Int := p 0
def t1 (p : Nat → Int) : Int := p 1
def t2 (p : Nat → Int) : Int := p 2
def t3 (p : Nat → Int) : Int := p 3
def t4 (p : Nat → Int) : Int := (IntKind.u64.wrap (t2 p))
def t5 (p : Nat → Int) : Int := (Int.tmod (t4 p) 129)
def t6 (p : Nat → Int) : Int := (IntKind.i64.wrap (t5 p))
def t7 (p : Nat → Int) : Int := (IntKind.i64.wrap ((t6 p) - 64))
def t8 (p : Nat → Int) : Int := (IntKind.i32.wrap (t7 p))
def t9 (p : Nat → Int) : Int := (IntKind.u64.wrap (t1 p))
def t10 (p : Nat → Int) : Int := (IntKind.u64.wrap (t0 p))
def t11 (p : Nat → Int) : Int := (Int.tmod (t10 p) 64)
def t12 (p : Nat → Int) : Int := (IntKind.i64.wrap (t11 p))
def t13 (p : Nat → Int) : Int := (IntKind.i64.wrap (1 + (t12 p)))
def t14 (p : Nat → Int) : Int := (IntKind.i64.wrap (t3 p))
def t15 (p : Nat → Int) : Int := (IntKind.i64.wrap ((t7 p) + (t14 p)))
def t16 (p : Nat → Int) : Int := (IntKind.u64.wrap (t7 p))
def θ (p : Nat → Int) : Nat → Value := fun j => match j with
  | 0 => .int .i64 (t0 p)
  | 1 => .int .i64 (t1 p)
  | 2 => .int .i64 (t2 p)
  | 3 => .int .i16 (t3 p)
  | 4 => .int .u64 (t4 p)
  | 5 => .int .u64 (t5 p)
  | 6 => .int .i64 (t6 p)
  | 7 => .int .i64 (t7 p)
  | 8 => .int .i32 (t8 p)
  | 9 => .int .u64 (t9 p)
  | 10 => .int .u64 (t10 p)
  | 11 => .int .u64 (t11 p)
  | 12 => .int .i64 (t12 p)
  | 13 => .int .i64 (t13 p)
  | 14 => .int .i64 (t14 p)
  | 15 => .int .i64 (t15 p)
  | 16 => .int .u64 (t16 p)
  | _ => .bool false
theorem plain (p : Nat → Int) : ∀ j, plainV (θ p j) = true := by intro j; unfold θ; split <;> rfl
theorem fs (p : Nat → Int) : (t0 p = p 0) ∧ (t1 p = p 1) ∧ (t2 p = p 2) ∧ (t3 p = p 3) ∧ (t4 p = (t2 p) % 18446744073709551616) ∧ (0 ≤ (t4 p) → t5 p = (t4 p) % 129) ∧ (-9223372036854775808 ≤ t6 p ∧ t6 p < 9223372036854775808 ∧ ((t5 p) - t6 p) % 18446744073709551616 = 0) ∧ (-9223372036854775808 ≤ t7 p ∧ t7 p < 9223372036854775808 ∧ (((t6 p) - 64) - t7 p) % 18446744073709551616 = 0) ∧ (-2147483648 ≤ t8 p ∧ t8 p < 2147483648 ∧ ((t7 p) - t8 p) % 4294967296 = 0) ∧ (t9 p = (t1 p) % 18446744073709551616) ∧ (t10 p = (t0 p) % 18446744073709551616) ∧ (0 ≤ (t10 p) → t11 p = (t10 p) % 64) ∧ (-9223372036854775808 ≤ t12 p ∧ t12 p < 9223372036854775808 ∧ ((t11 p) - t12 p) % 18446744073709551616 = 0) ∧ (-9223372036854775808 ≤ t13 p ∧ t13 p < 9223372036854775808 ∧ ((1 + (t12 p)) - t13 p) % 18446744073709551616 = 0) ∧ (-9223372036854775808 ≤ t14 p ∧ t14 p < 9223372036854775808 ∧ ((t3 p) - t14 p) % 18446744073709551616 = 0) ∧ (-9223372036854775808 ≤ t15 p ∧ t15 p < 9223372036854775808 ∧ (((t7 p) + (t14 p)) - t15 p) % 18446744073709551616 = 0) ∧ (t16 p = (t7 p) % 18446744073709551616) := ⟨rfl, rfl, rfl, rfl, w_u64 _, Int.tmod_eq_emod_of_nonneg, w_i64 _, w_i64 _, w_i32 _, w_u64 _, w_u64 _, Int.tmod_eq_emod_of_nonneg, w_i64 _, w_i64 _, w_i64 _, w_i64 _, w_u64 _⟩
def r1 : List (U1 × Value × Value) := [((.conv .u64), (.chan (some 2)), (.chan (some 4))), ((.conv .i64), (.chan (some 5)), (.chan (some 6))), ((.conv .i32), (.chan (some 7)), (.chan (some 8))), ((.conv .u64), (.chan (some 1)), (.chan (some 9))), ((.conv .u64), (.chan (some 0)), (.chan (some 10))), ((.conv .i64), (.chan (some 11)), (.chan (some 12))), ((.conv .i64), (.chan (some 8)), (.chan (some 7))), ((.conv .i64), (.chan (some 3)), (.chan (some 14))), ((.conv .u64), (.chan (some 7)), (.chan (some 16))), ((.conv .i64), (.chan (some 16)), (.chan (some 7)))]
theorem hr1 (p : Nat → Int) (h : H p) : ∀ x ∈ r1, Rule1 (θ p) x := by
  obtain ⟨⟨a0, b0⟩, ⟨a1, b1⟩, ⟨a2, b2⟩, ⟨a3, b3⟩, hc0, hc1⟩ := h
  obtain ⟨f0, f1, f2, f3, f4, f5, f6, f7, f8, f9, f10, f11, f12, f13, f14, f15, f16⟩ := fs p
  replace f5 := f5 (by omega)
  replace f11 := f11 (by omega)
  intro x hx
  simp only [r1, List.mem_cons, List.not_mem_nil, or_false] at hx
  rcases hx with rfl | rfl | rfl | rfl | rfl | rfl | rfl | rfl | rfl | rfl
  · exact ⟨rfl, rfl, congrArg (fun z => some (Value.int .u64 z)) (show IntKind.u64.wrap (t2 p) = (t4 p) from ((w_u64 _).trans (by omega)))⟩
  · exact ⟨rfl, rfl, congrArg (fun z => some (Value.int .i64 z)) (show IntKind.i64.wrap (t5 p) = (t6 p) from (by have g := w_i64 ((t5 p)); omega))⟩
  · exact ⟨rfl, rfl, congrArg (fun z => some (Value.int .i32 z)) (show IntKind.i32.wrap (t7 p) = (t8 p) from (by have g := w_i32 ((t7 p)); omega))⟩
  · exact ⟨rfl, rfl, congrArg (fun z => some (Value.int .u64 z)) (show IntKind.u64.wrap (t1 p) = (t9 p) from ((w_u64 _).trans (by omega)))⟩
  · exact ⟨rfl, rfl, congrArg (fun z => some (Value.int .u64 z)) (show IntKind.u64.wrap (t0 p) = (t10 p) from ((w_u64 _).trans (by omega)))⟩
  · exact ⟨rfl, rfl, congrArg (fun z => some (Value.int .i64 z)) (show IntKind.i64.wrap (t11 p) = (t12 p) from (by have g := w_i64 ((t11 p)); omega))⟩
  · exact ⟨rfl, rfl, congrArg (fun z => some (Value.int .i64 z)) (show IntKind.i64.wrap (t8 p) = (t7 p) from (by have g := w_i64 ((t8 p)); omega))⟩
  · exact ⟨rfl, rfl, congrArg (fun z => some (Value.int .i64 z)) (show IntKind.i64.wrap (t3 p) = (t14 p) from (by have g := w_i64 ((t3 p)); omega))⟩
  · exact ⟨rfl, rfl, congrArg (fun z => some (Value.int .u64 z)) (show IntKind.u64.wrap (t7 p) = (t16 p) from ((w_u64 _).trans (by omega)))⟩
  · exact ⟨rfl, rfl, congrArg (fun z => some (Value.int .i64 z)) (show IntKind.i64.wrap (t16 p) = (t7 p) from (by have g := w_i64 ((t16 p)); omega))⟩
def r2 : List (U2 × Value × Value × Value) := [((.bin .rem), (.chan (some 4)), (.int .u64 129), (.chan (some 5))), ((.bin .sub), (.chan (some 6)), (.int .i64 64), (.chan (some 7))), ((.bin .rem), (.chan (some 9)), (.int .u64 8), (.int .u64 3)), ((.bin .rem), (.chan (some 10)), (.int .u64 64), (.chan (some 11))), ((.bin .add), (.int .i64 1), (.chan (some 12)), (.chan (some 13))), ((.bin .add), (.chan (some 7)), (.chan (some 14)), (.chan (some 15))), ((.bin .geq), (.chan (some 15)), (.int .i64 0), (.bool false)), ((.bin .geq), (.chan (some 13)), (.int .i64 1), (.bool true)), ((.bin .leq), (.chan (some 13)), (.int .i64 64), (.bool true)), ((.bin .lss), (.chan (some 7)), (.int .i64 (-64)), (.bool false)), ((.bin .gtr), (.chan (some 7)), (.int .i64 64), (.bool false)), ((.bin .gtr), (.chan (some 7)), (.chan (some 7)), (.bool false)), ((.bin .eql), (.chan (some 7)), (.chan (some 7)), (.bool true)), ((.bin .add), (.int .i64 0), (.chan (some 7)), (.chan (some 7))), ((.bin .geq), (.chan (some 7)), (.int .i64 (-131072)), (.bool true)), ((.bin .leq), (.chan (some 7)), (.int .i64 131072), (.bool true))]
theorem hr2 (p : Nat → Int) (h : H p) : ∀ x ∈ r2, Rule2 (θ p) x := by
  obtain ⟨⟨a0, b0⟩, ⟨a1, b1⟩, ⟨a2, b2⟩, ⟨a3, b3⟩, hc0, hc1⟩ := h
  obtain ⟨f0, f1, f2, f3, f4, f5, f6, f7, f8, f9, f10, f11, f12, f13, f14, f15, f16⟩ := fs p
  replace f5 := f5 (by omega)
  replace f11 := f11 (by omega)
  intro x hx
  simp only [r2, List.mem_cons, List.not_mem_nil, or_false] at hx
  rcases hx with rfl | rfl | rfl | rfl | rfl | rfl | rfl | rfl | rfl | rfl | rfl | rfl | rfl | rfl | rfl | rfl
  · exact ⟨rfl, rfl, rfl, by show intBin .rem .u64 (t4 p) .u64 (129) = some (.int .u64 (t5 p)); rw [show intBin .rem .u64 (t4 p) .u64 (129) = if IntKind.u64 = IntKind.u64 ∧ (129) ≠ 0 then some (.int .u64 (Int.tmod (t4 p) (129))) else none from rfl, if_pos ⟨rfl, by omega⟩, Int.tmod_eq_emod_of_nonneg (by omega)]; exact congrArg (fun z => some (Value.int .u64 z)) (by omega)⟩
  · exact ⟨rfl, rfl, rfl, congrArg (fun z => some (Value.int .i64 z)) (show IntKind.i64.wrap ((t6 p) - (64)) = (t7 p) from (by have g := w_i64 (((t6 p) - (64))); omega))⟩
  · exact ⟨rfl, rfl, rfl, by show intBin .rem .u64 (t9 p) .u64 (8) = some (.int .u64 (3)); rw [show intBin .rem .u64 (t9 p) .u64 (8) = if IntKind.u64 = IntKind.u64 ∧ (8) ≠ 0 then some (.int .u64 (Int.tmod (t9 p) (8))) else none from rfl, if_pos ⟨rfl, by omega⟩, Int.tmod_eq_emod_of_nonneg (by omega)]; exact congrArg (fun z => some (Value.int .u64 z)) (by omega)⟩
  · exact ⟨rfl, rfl, rfl, by show intBin .rem .u64 (t10 p) .u64 (64) = some (.int .u64 (t11 p)); rw [show intBin .rem .u64 (t10 p) .u64 (64) = if IntKind.u64 = IntKind.u64 ∧ (64) ≠ 0 then some (.int .u64 (Int.tmod (t10 p) (64))) else none from rfl, if_pos ⟨rfl, by omega⟩, Int.tmod_eq_emod_of_nonneg (by omega)]; exact congrArg (fun z => some (Value.int .u64 z)) (by omega)⟩
  · exact ⟨rfl, rfl, rfl, congrArg (fun z => some (Value.int .i64 z)) (show IntKind.i64.wrap ((1) + (t12 p)) = (t13 p) from (by have g := w_i64 (((1) + (t12 p))); omega))⟩
  · exact ⟨rfl, rfl, rfl, congrArg (fun z => some (Value.int .i64 z)) (show IntKind.i64.wrap ((t7 p) + (t14 p)) = (t15 p) from (by have g := w_i64 (((t7 p) + (t14 p))); omega))⟩
  · exact ⟨rfl, rfl, rfl, congrArg (fun z => some (Value.bool z)) (decide_eq_false (show ¬ ((t15 p) ≥ (0)) from by omega))⟩
  · exact ⟨rfl, rfl, rfl, congrArg (fun z => some (Value.bool z)) (decide_eq_true (show ((t13 p) ≥ (1)) from by omega))⟩
  · exact ⟨rfl, rfl, rfl, congrArg (fun z => some (Value.bool z)) (decide_eq_true (show ((t13 p) ≤ (64)) from by omega))⟩
  · exact ⟨rfl, rfl, rfl, congrArg (fun z => some (Value.bool z)) (decide_eq_false (show ¬ ((t7 p) < (-64)) from by omega))⟩
  · exact ⟨rfl, rfl, rfl, congrArg (fun z => some (Value.bool z)) (decide_eq_false (show ¬ ((t7 p) > (64)) from by omega))⟩
  · exact ⟨rfl, rfl, rfl, congrArg (fun z => some (Value.bool z)) (decide_eq_false (show ¬ ((t7 p) > (t7 p)) from by omega))⟩
  · exact ⟨rfl, rfl, rfl, congrArg (fun z => some (Value.bool z)) (show ((t7 p) == (t7 p)) = true from beq_iff_eq.2 (by omega))⟩
  · exact ⟨rfl, rfl, rfl, congrArg (fun z => some (Value.int .i64 z)) (show IntKind.i64.wrap ((0) + (t7 p)) = (t7 p) from (by have g := w_i64 (((0) + (t7 p))); omega))⟩
  · exact ⟨rfl, rfl, rfl, congrArg (fun z => some (Value.bool z)) (decide_eq_true (show ((t7 p) ≥ (-131072)) from by omega))⟩
  · exact ⟨rfl, rfl, rfl, congrArg (fun z => some (Value.bool z)) (decide_eq_true (show ((t7 p) ≤ (131072)) from by omega))⟩
def re : List (Value × Value × Bool) := []
theorem hre (p : Nat → Int) (h : H p) : ∀ x ∈ re, RuleE (θ p) x := fun x hx => nomatch hx
abbrev sy (p : Nat → Int) (h : H p) : Sy := syOf (θ p) (plain p) r1 r2 re (hr1 p h) (hr2 p h) (hre p h)
end vl_lo3
namespace vl_hi3
abbrev H (p : Nat → Int) : Prop := (-9223372036854775808 ≤ p 0 ∧ p 0 ≤ 9223372036854775807) ∧ (-9223372036854775808 ≤ p 1 ∧ p 1 ≤ 9223372036854775807) ∧ (-9223372036854775808 ≤ p 2 ∧ p 2 ≤ 9223372036854775807) ∧ (-32768 ≤ p 3 ∧ p 3 ≤ 32767) ∧ ((p 1 % 18446744073709551616) % 8 = 3) ∧ (0 ≤ (p 2 % 18446744073709551616) % 129 - 64 + p 3 ∧ 1 + (p 0 % 18446744073709551616) % 64 < (p 2 % 18446744073709551616) % 129 - 64 + p 3 + 8)
def t0 (p : Nat → Int) : Int := p 0
def t1 (p : Nat → Int) : Int := p 1
def t2 (p : Nat → Int) : Int := p 2
def t3 (p : Nat → Int) : Int := p 3
def t4 (p : Nat → Int) : Int := (IntKind.u64.wrap (t2 p))
def t5 (p : Nat → Int) : Int := (Int.tmod (t4 p) 129)
def t6 (p : Nat → Int) : Int := (IntKind.i64.wrap (t5 p))
def t7 (p : Nat → Int) : Int := (IntKind.i64.wrap ((t6 p) - 64))
def t8 (p : Nat → Int) : Int := (IntKind.i32.wrap (t7 p))
def t9 (p : Nat → Int) : Int := (IntKind.u64.wrap (t1 p))
def t10 (p : Nat → Int) : Int := (IntKind.u64.wrap (t0 p))
def t11 (p : Nat → Int) : Int := (Int.tmod (t10 p) 64)
def t12 (p : Nat → Int) : Int := (IntKind.i64.wrap (t11 p))
def t13 (p : Nat → Int) : Int := (IntKind.i64.wrap (1 + (t12 p)))
def t14 (p : Nat → Int) : Int := (IntKind.i64.wrap (t3 p))
def t15 (p : Nat → Int) : Int := (IntKind.i64.wrap ((t7 p) + (t14 p)))
def t16 (p : Nat → Int) : Int := (IntKind.i64.wrap ((t15 p) + 8))
def t17 (p : Nat → Int) : Int := (IntKind.u64.wrap (t7 p))
def θ (p : Nat → Int) : Nat → Value := fun j => match j with
  | 0 => .int .i64 (t0 p)
  | 1 => .int .i64 (t1 p)
  | 2 => .int .i64 (t2 p)
  | 3 => .int .i16 (t3 p)
  | 4 => .int .u64 (t4 p)
  | 5 => .int .u64 (t5 p)
  | 6 => .int .i64 (t6 p)
  | 7 => .int .i64 (t7 p)
  | 8 => .int .i32 (t8 p)
  | 9 => .int .u64 (t9 p)
  | 10 => .int .u64 (t10 p)
  | 11 => .int .u64 (t11 p)
  | 12 => .int .i64 (t12 p)
  | 13 => .int .i64 (t13 p)
  | 14 => .int .i64 (t14 p)
  | 15 => .int .i64 (t15 p)
  | 16 => .int .i64 (t16 p)
  | 17 => .int .u64 (t17 p)
  | _ => .bool false
theorem plain (p : Nat → Int) : ∀ j, plainV (θ p j) = true := by intro j; unfold θ; split <;> rfl
theorem fs (p : Nat → Int) : (t0 p = p 0) ∧ (t1 p = p 1) ∧ (t2 p = p 2) ∧ (t3 p = p 3) ∧ (t4 p = (t2 p) % 18446744073709551616) ∧ (0 ≤ (t4 p) → t5 p = (t4 p) % 129) ∧ (-9223372036854775808 ≤ t6 p ∧ t6 p < 9223372036854775808 ∧ ((t5 p) - t6 p) % 18446744073709551616 = 0) ∧ (-9223372036854775808 ≤ t7 p ∧ t7 p < 9223372036854775808 ∧ (((t6 p) - 64) - t7 p) % 18446744073709551616 = 0) ∧ (-2147483648 ≤ t8 p ∧ t8 p < 2147483648 ∧ ((t7 p) - t8 p) % 4294967296 = 0) ∧ (t9 p = (t1 p) % 18446744073709551616) ∧ (t10 p = (t0 p) % 18446744073709551616) ∧ (0 ≤ (t10 p) → t11 p = (t10 p) % 64) ∧ (-9223372036854775808 ≤ t12 p ∧ t12 p < 9223372036854775808 ∧ ((t11 p) - t12 p) % 18446744073709551616 = 0) ∧ (-9223372036854775808 ≤ t13 p ∧ t13 p < 9223372036854775808 ∧ ((1 + (t12 p)) - t13 p) % 18446744073709551616 = 0) ∧ (-9223372036854775808 ≤ t14 p ∧ t14 p < 9223372036854775808 ∧ ((t3 p) - t14 p) % 18446744073709551616 = 0) ∧ (-9223372036854775808 ≤ t15 p ∧ t15 p < 9223372036854775808 ∧ (((t7 p) + (t14 p)) - t15 p) % 18446744073709551616 = 0) ∧ (-9223372036854775808 ≤ t16 p ∧ t16 p < 9223372036854775808 ∧ (((t15 p) + 8) - t16 p) % 18446744073709551616 = 0) ∧ (t17 p = (t7 p) % 18446744073709551616) := ⟨rfl, rfl, rfl, rfl, w_u64 _, Int.tmod_eq_emod_of_nonneg, w_i64 _, w_i64 _, w_i32 _, w_u64 _, w_u64 _, Int.tmod_eq_emod_of_nonneg, w_i64 _, w_i64 _, w_i64 _, w_i64 _, w_i64 _, w_u64 _⟩
def r1 : List (U1 × Value × Value) := [((.conv .u64), (.chan (some 2)), (.chan (some 4))), ((.conv .i64), (.chan (some 5)), (.chan (some 6))), ((.conv .i32), (.chan (some 7)), (.chan (some 8))), ((.conv .u64), (.chan (some 1)), (.chan (some 9))), ((.conv .u64), (.chan (some 0)), (.chan (some 10))), ((.conv .i64), (.chan (some 11)), (.chan (some 12))), ((.conv .i64), (.chan (some 8)), (.chan (some 7))), ((.conv .i64), (.chan (some 3)), (.chan (some 14))), ((.conv .u64), (.chan (some 7)), (.chan (some 17))), ((.conv .i64), (.chan (some 17)), (.chan (some 7)))]
theorem hr1 (p : Nat → Int) (h : H p) : ∀ x ∈ r1, Rule1 (θ p) x := by
  obtain ⟨⟨a0, b0⟩, ⟨a1, b1⟩, ⟨a2, b2⟩, ⟨a3, b3⟩, hc0, hc1⟩ := h
  obtain ⟨f0, f1, f2, f3, f4, f5, f6, f7, f8, f9, f10, f11, f12, f13, f14, f15, f16, f17⟩ := fs p
  replace f5 := f5 (by omega)
  replace f11 := f11 (by omega)
  intro x hx
  simp only [r1, List.mem_cons, List.not_mem_nil, or_false] at hx
  rcases hx with rfl | rfl | rfl | rfl | rfl | rfl | rfl | rfl | rfl | rfl
  · exact ⟨rfl, rfl, congrArg (fun z => some (Value.int .u64 z)) (show IntKind.u64.wrap (t2 p) = (t4 p) from ((w_u64 _).trans (by omega)))⟩
  · exact ⟨rfl, rfl, congrArg (fun z => some (Value.int .i64 z)) (show IntKind.i64.wrap (t5 p) = (t6 p) from (by have g := w_i64 ((t5 p)); omega))⟩
  · exact ⟨rfl, rfl, congrArg (fun z => some (Value.int .i32 z)) (show IntKind.i32.wrap (t7 p) = (t8 p) from (by have g := w_i32 ((t7 p)); omega))⟩
  · exact ⟨rfl, rfl, congrArg (fun z => some (Value.int .u64 z)) (show IntKind.u64.wrap (t1 p) = (t9 p) from ((w_u64 _).trans (by omega)))⟩
  · exact ⟨rfl, rfl, congrArg (fun z => some (Value.int .u64 z)) (show IntKind.u64.wrap (t0 p) = (t10 p) from ((w_u64 _).trans (by omega)))⟩
  · exact ⟨rfl, rfl, congrArg (fun z => some (Value.int .i64 z)) (show IntKind.i64.wrap (t11 p) = (t12 p) from (by have g := w_i64 ((t11 p)); omega))⟩
  · exact ⟨rfl, rfl, congrArg (fun z => some (Value.int .i64 z)) (show IntKind.i64.wrap (t8 p) = (t7 p) from (by have g := w_i64 ((t8 p)); omega))⟩
  · exact ⟨rfl, rfl, congrArg (fun z => some (Value.int .i64 z)) (show IntKind.i64.wrap (t3 p) = (t14 p) from (by have g := w_i64 ((t3 p)); omega))⟩
  · exact ⟨rfl, rfl, congrArg (fun z => some (Value.int .u64 z)) (show IntKind.u64.wrap (t7 p) = (t17 p) from ((w_u64 _).trans (by omega)))⟩
  · exact ⟨rfl, rfl, congrArg (fun z => some (Value.int .i64 z)) (show IntKind.i64.wrap (t17 p) = (t7 p) from (by have g := w_i64 ((t17 p)); omega))⟩
def r2 : List (U2 × Value × Value × Value) := [((.bin .rem), (.chan (some 4)), (.int .u64 129), (.chan (some 5))), ((.bin .sub), (.chan (some 6)), (.int .i64 64), (.chan (some 7))), ((.bin .rem), (.chan (some 9)), (.int .u64 8), (.int .u64 3)), ((.bin .rem), (.chan (some 10)), (.int .u64 64), (.chan (some 11))), ((.bin .add), (.int .i64 1), (.chan (some 12)), (.chan (some 13))), ((.bin .add), (.chan (some 7)), (.chan (some 14)), (.chan (some 15))), ((.bin .geq), (.chan (some 15)), (.int .i64 0), (.bool true)), ((.bin .add), (.chan (some 15)), (.int .i64 8), (.chan (some 16))), ((.bin .leq), (.chan (some 16)), (.chan (some 13)), (.bool false)), ((.bin .geq), (.chan (some 13)), (.int .i64 1), (.bool true)), ((.bin .leq), (.chan (some 13)), (.int .i64 64), (.bool true)), ((.bin .lss), (.chan (some 7)), (.int .i64 (-64)), (.bool false)), ((.bin .gtr), (.chan (some 7)), (.int .i64 64), (.bool false)), ((.bin .gtr), (.chan (some 7)), (.chan (some 7)), (.bool false)), ((.bin .eql), (.chan (some 7)), (.chan (some 7)), (.bool true)), ((.bin .add), (.int .i64 0), (.chan (some 7)), (.chan (some 7))), ((.bin .geq), (.chan (some 7)), (.int .i64 (-131072)), (.bool true)), ((.bin .leq), (.chan (some 7)), (.int .i64 131072), (.bool true))]
theorem hr2 (p : Nat → Int) (h : H p) : ∀ x ∈ r2, Rule2 (θ p) x := by
  obtain ⟨⟨a0, b0⟩, ⟨a1, b1⟩, ⟨a2, b2⟩, ⟨a3, b3⟩, hc0, hc1⟩ := h
  obtain ⟨f0, f1, f2, f3, f4, f5, f6, f7, f8, f9, f10, f11, f12, f13, f14, f15, f16, f17⟩ := fs p
  replace f5 := f5 (by omega)
  replace f11 := f11 (by omega)
  intro x hx
  simp only [r2, List.mem_cons, List.not_mem_nil, or_false] at hx
  rcases hx with rfl | rfl | rfl | rfl | rfl | rfl | rfl | rfl | rfl | rfl | rfl | rfl | rfl | rfl | rfl | rfl | rfl | rfl
  · exact ⟨rfl, rfl, rfl, by show intBin .rem .u64 (t4 p) .u64 (129) = some (.int .u64 (t5 p)); rw [show intBin .rem .u64 (t4 p) .u64 (129) = if IntKind.u64 = IntKind.u64 ∧ (129) ≠ 0 then some (.int .u64 (Int.tmod (t4 p) (129))) else none from rfl, if_pos ⟨rfl, by omega⟩, Int.tmod_eq_emod_of_nonneg (by omega)]; exact congrArg (fun z => some (Value.int .u64 z)) (by omega)⟩
  · exact ⟨rfl, rfl, rfl, congrArg (fun z => some (Value.int .i64 z)) (show IntKind.i64.wrap ((t6 p) - (64)) = (t7 p) from (by have g := w_i64 (((t6 p) - (64))); omega))⟩
  · exact ⟨rfl, rfl, rfl, by show intBin .rem .u64 (t9 p) .u64 (8) = some (.int .u64 (3)); rw [show intBin .rem .u64 (t9 p) .u64 (8) = if IntKind.u64 = IntKind.u64 ∧ (8) ≠ 0 then some (.int .u64 (Int.tmod (t9 p) (8))) else none from rfl, if_pos ⟨rfl, by omega⟩, Int.tmod_eq_emod_of_nonneg (by omega)]; exact congrArg (fun z => some (Value.int .u64 z)) (by omega)⟩
  · exact ⟨rfl, rfl, rfl, by show intBin .rem .u64 (t10 p) .u64 (64) = some (.int .u64 (t11 p)); rw [show intBin .rem .u64 (t10 p) .u64 (64) = if IntKind.u64 = IntKind.u64 ∧ (64) ≠ 0 then some (.int .u64 (Int.tmod (t10 p) (64))) else none from rfl, if_pos ⟨rfl, by omega⟩, Int.tmod_eq_emod_of_nonneg (by omega)]; exact congrArg (fun z => some (Value.int .u64 z)) (by omega)⟩
  · exact ⟨rfl, rfl, rfl, congrArg (fun z => some (Value.int .i64 z)) (show IntKind.i64.wrap ((1) + (t12 p)) = (t13 p) from (by have g := w_i64 (((1) + (t12 p))); omega))⟩
  · exact ⟨rfl, rfl, rfl, congrArg (fun z => some (Value.int .i64 z)) (show IntKind.i64.wrap ((t7 p) + (t14 p)) = (t15 p) from (by have g := w_i64 (((t7 p) + (t14 p))); omega))⟩
  · exact ⟨rfl, rfl, rfl, congrArg (fun z => some (Value.bool z)) (decide_eq_true (show ((t15 p) ≥ (0)) from by omega))⟩
  · exact ⟨rfl, rfl, rfl, congrArg (fun z => some (Value.int .i64 z)) (show IntKind.i64.wrap ((t15 p) + (8)) = (t16 p) from (by have g := w_i64 (((t15 p) + (8))); omega))⟩
  · exact ⟨rfl, rfl, rfl, congrArg (fun z => some (Value.bool z)) (decide_eq_false (show ¬ ((t16 p) ≤ (t13 p)) from by omega))⟩
  · exact ⟨rfl, rfl, rfl, congrArg (fun z => some (Value.bool z)) (decide_eq_true (show ((t13 p) ≥ (1)) from by omega))⟩
  · exact ⟨rfl, rfl, rfl, congrArg (fun z => some (Value.bool z)) (decide_eq_true (show ((t13 p) ≤ (64)) from by omega))⟩
  · exact ⟨rfl, rfl, rfl, congrArg (fun z => some (Value.bool z)) (decide_eq_false (show ¬ ((t7 p) < (-64)) from by omega))⟩
  · exact ⟨rfl, rfl, rfl, congrArg (fun z => some (Value.bool z)) (decide_eq_false (show ¬ ((t7 p) > (64)) from by omega))⟩
  · exact ⟨rfl, rfl, rfl, congrArg (fun z => some (Value.bool z)) (decide_eq_false (show ¬ ((t7 p) > (t7 p)) from by omega))⟩
  · exact ⟨rfl, rfl, rfl, congrArg (fun z => some (Value.bool z)) (show ((t7 p) == (t7 p)) = true from beq_iff_eq.2 (by omega))⟩
  · exact ⟨rfl, rfl, rfl, congrArg (fun z => some (Value.int .i64 z)) (show IntKind.i64.wrap ((0) + (t7 p)) = (t7 p) from (by have g := w_i64 (((0) + (t7 p))); omega))⟩
  · exact ⟨rfl, rfl, rfl, congrArg (fun z => some (Value.bool z)) (decide_eq_true (show ((t7 p) ≥ (-131072)) from by omega))⟩
  · exact ⟨rfl, rfl, rfl, congrArg (fun z => some (Value.bool z)) (decide_eq_true (show ((t7 p) ≤ (131072)) from by omega))⟩
def re : List (Value × Value × Bool) := []
theorem hre (p : Nat → Int) (h : H p) : ∀ x ∈ re, RuleE (θ p) x := fun x hx => nomatch hx
abbrev sy (p : Nat → Int) (h : H p) : Sy := syOf (θ p) (plain p) r1 r2 re (hr1 p h) (hr2 p h) (hre p h)
end vl_hi3
namespace vl_in4
abbrev H (p : Nat → Int) : Prop := (-9223372036854775808 ≤ p 0 ∧ p 0 ≤ 9223372036854775807) ∧ (-9223372036854775808 ≤ p 1 ∧ p 1 ≤ 9223372036854775807) ∧ (-9223372036854775808 ≤ p 2 ∧ p 2 ≤ 9223372036854775807) ∧ (-32768 ≤ p 3 ∧ p 3 ≤ 32767) ∧ ((p 1 % 18446744073709551616) % 8 = 4) ∧ (0 ≤ (p 2 % 18446744073709551616) % 129 - 64 + p 3 ∧ (p 2 % 18446744073709551616) % 129 - 64 + p 3 + 4 ≤ 1 + (p 0 % 18446744073709551616) % 64)
def t0 (p : Nat → Int) : Int := p 0
def t1 (p : Nat → Int) : Int := p 1
def t2 (p : Nat → Int) : Int := p 2
def t3 (p : Nat → Int) : Int := p 3
def t4 (p : Nat → Int) : Int := (IntKind.u64.wrap (t2 p))
def t5 (p : Nat → Int) : Int := (Int.tmod (t4 p) 129)
def t6 (p : Nat → Int) : Int := (IntKind.i64.wrap (t5 p))
def t7 (p : Nat → Int) : Int := (IntKind.i64.wrap ((t6 p) - 64))
def t8 (p : Nat → Int) : Int := (IntKind.i32.wrap (t7 p))
def t9 (p : Nat → Int) : Int := (IntKind.u64.wrap (t1 p))
def t10 (p : Nat → Int) : Int := (IntKind.u64.wrap (t0 p))
def t11 (p : Nat → Int) : Int := (Int.tmod (t10 p) 64)
def t12 (p : Nat → Int) : Int := (IntKind.i64.wrap (t11 p))
def t13 (p : Nat → Int) : Int := (IntKind.i64.wrap (1 + (t12 p)))
def t14 (p : Nat → Int) : Int := (IntKind.i64.wrap (t3 p))
def t15 (p : Nat → Int) : Int := (IntKind.i64.wrap ((t7 p) + (t14 p)))
def t16 (p : Nat → Int) : Int := (IntKind.i64.wrap ((t15 p) + 4))
def t17 (p : Nat → Int) : Int := (IntKind.u64.wrap (t7 p))
def θ (p : Nat → Int) : Nat → Value := fun j => match j with
  | 0 => .int .i64 (t0 p)
  | 1 => .int .i64 (t1 p)
  | 2 => .int .i64 (t2 p)
  | 3 => .int .i16 (t3 p)
  | 4 => .int .u64 (t4 p)
  | 5 => .int .u64 (t5 p)
  | 6 => .int .i64 (t6 p)
  | 7 => .int .i64 (t7 p)
  | 8 => .int .i32 (t8 p)
  | 9 => .int .u64 (t9 p)
  | 10 => .int .u64 (t10 p)
  | 11 => .int .u64 (t11 p)
  | 12 => .int .i64 (t12 p)
  | 13 => .int .i64 (t13 p)
  | 14 => .int .i64 (t14 p)
  | 15 => .int .i64 (t15 p)
  | 16 => .int .i64 (t16 p)
  | 17 => .int .u64 (t17 p)
  | _ => .bool false
theorem plain (p : Nat → Int) : ∀ j, plainV (θ p j) = true := by intro j; unfold θ; split <;> rfl
theorem fs (p : Nat → Int) : (t0 p = p 0) ∧ (t1 p = p 1) ∧ (t2 p = p 2) ∧ (t3 p = p 3) ∧ (t4 p = (t2 p) % 18446744073709551616) ∧ (0 ≤ (t4 p) → t5 p = (t4 p) % 129) ∧ (-9223372036854775808 ≤ t6 p ∧ t6 p < 9223372036854775808 ∧ ((t5 p) - t6 p) % 18446744073709551616 = 0) ∧ (-9223372036854775808 ≤ t7 p ∧ t7 p < 9223372036854775808 ∧ (((t6 p) - 64) - t7 p) % 18446744073709551616 = 0) ∧ (-2147483648 ≤ t8 p ∧ t8 p < 2147483648 ∧ ((t7 p) - t8 p) % 4294967296 = 0) ∧ (t9 p = (t1 p) % 18446744073709551616) ∧ (t10 p = (t0 p) % 18446744073709551616) ∧ (0 ≤ (t10 p) → t11 p = (t10 p) % 64) ∧ (-9223372036854775808 ≤ t12 p ∧ t12 p < 9223372036854775808 ∧ ((t11 p) - t12 p) % 18446744073709551616 = 0) ∧ (-9223372036854775808 ≤ t13 p ∧ t13 p < 9223372036854775808 ∧ ((1 + (t12 p)) - t13 p) % 18446744073709551616 = 0) ∧ (-9223372036854775808 ≤ t14 p ∧ t14 p < 9223372036854775808 ∧ ((t3 p) - t14 p) % 18446744073709551616 = 0) ∧ (-9223372036854775808 ≤ t15 p ∧ t15 p < 9223372036854775808 ∧ (((t7 p) + (t14 p)) - t15 p) % 18446744073709551616 = 0) ∧ (-9223372036854775808 ≤ t16 p ∧ t16 p < 9223372036854775808 ∧ (((t15 p) + 4) - t16 p) % 18446744073709551616 = 0) ∧ (t17 p = (t7 p) % 18446744073709551616) := ⟨rfl, rfl, rfl, rfl, w_u64 _, Int.tmod_eq_emod_of_nonneg, w_i64 _, w_i64 _, w_i32 _, w_u64 _, w_u64 _, Int.tmod_eq_emod_of_nonneg, w_i64 _, w_i64 _, w_i64 _, w_i64 _, w_i64 _, w_u64 _⟩
def r1 : List (U1 × Value × Value) := [((.conv .u64), (.chan (some 2)), (.chan (some 4))), ((.conv .i64), (.chan (some 5)), (.chan (some 6))), ((.conv .i32), (.chan (some 7)), (.chan (some 8))), ((.conv .u64), (.chan (some 1)), (.chan (some 9))), ((.conv .u64), (.chan (some 0)), (.chan (some 10))), ((.conv .i64), (.chan (some 11)), (.chan (some 12))), ((.conv .i64), (.chan (some 8)), (.chan (some 7))), ((.conv .i64), (.chan (some 3)), (.chan (some 14))), ((.conv .u64), (.chan (some 7)), (.chan (some 17))), ((.conv .i64), (.chan (some 17)), (.chan (some 7)))]
theorem hr1 (p : Nat → Int) (h : H p) : ∀ x ∈ r1, Rule1 (θ p) x := by
  obtain ⟨⟨a0, b0⟩, ⟨a1, b1⟩, ⟨a2, b2⟩, ⟨a3, b3⟩, hc0, hc1⟩ := h
  obtain ⟨f0, f1, f2, f3, f4, f5, f6, f7, f8, f9, f10, f11, f12, f13, f14, f15, f16, f17⟩ := fs p
  replace f5 := f5 (by omega)
  replace f11 := f11 (by omega)
  intro x hx
  simp only [r1, List.mem_cons, List.not_mem_nil, or_false] at hx
  rcases hx with rfl | rfl | rfl | rfl | rfl | rfl | rfl | rfl | rfl | rfl
  · exact ⟨rfl, rfl, congrArg (fun z => some (Value.int .u64 z)) (show IntKind.u64.wrap (t2 p) = (t4 p) from ((w_u64 _).trans (by omega)))⟩
  · exact ⟨rfl, rfl, congrArg (fun z => some (Value.int .i64 z)) (show IntKind.i64.wrap (t5 p) = (t6 p) from (by have g := w_i64 ((t5 p)); omega))⟩
  · exact ⟨rfl, rfl, congrArg (fun z => some (Value.int .i32 z)) (show IntKind.i32.wrap (t7 p) = (t8 p) from (by have g := w_i32 ((t7 p)); omega))⟩
  · exact ⟨rfl, rfl, congrArg (fun z => some (Value.int .u64 z)) (show IntKind.u64.wrap (t1 p) = (t9 p) from ((w_u64 _).trans (by omega)))⟩
  · exact ⟨rfl, rfl, congrArg (fun z => some (Value.int .u64 z)) (show IntKind.u64.wrap (t0 p) = (t10 p) from ((w_u64 _).trans (by omega)))⟩
  · exact ⟨rfl, rfl, congrArg (fun z => some (Value.int .i64 z)) (show IntKind.i64.wrap (t11 p) = (t12 p) from (by have g := w_i64 ((t11 p)); omega))⟩
  · exact ⟨rfl, rfl, congrArg (fun z => some (Value.int .i64 z)) (show IntKind.i64.wrap (t8 p) = (t7 p) from (by have g := w_i64 ((t8 p)); omega))⟩
  · exact ⟨rfl, rfl, congrArg (fun z => some (Value.int .i64 z)) (show IntKind.i64.wrap (t3 p) = (t14 p) from (by have g := w_i64 ((t3 p)); omega))⟩
  · exact ⟨rfl, rfl, congrArg (fun z => some (Value.int .u64 z)) (show IntKind.u64.wrap (t7 p) = (t17 p) from ((w_u64 _).trans (by omega)))⟩
  · exact ⟨rfl, rfl, congrArg (fun z => some (Value.int .i64 z)) (show IntKind.i64.wrap (t17 p) = (t7 p) from (by have g := w_i64 ((t17 p)); omega))⟩
def r2 : List (U2 × Value × Value × Value) := [((.bin .rem), (.chan (some 4)), (.int .u64 129), (.chan (some 5))), ((.bin .sub), (.chan (some 6)), (.int .i64 64), (.chan (some 7))), ((.bin .rem), (.chan (some 9)), (.int .u64 8), (.int .u64 4)), ((.bin .rem), (.chan (some 10)), (.int .u64 64), (.chan (some 11))), ((.bin .add), (.int .i64 1), (.chan (some 12)), (.chan (some 13))), ((.bin .add), (.chan (some 7)), (.chan (some 14)), (.chan (some 15))), ((.bin .geq), (.chan (some 15)), (.int .i64 0), (.bool true)), ((.bin .add), (.chan (some 15)), (.int .i64 4), (.chan (some 16))), ((.bin .leq), (.chan (some 16)), (.chan (some 13)), (.bool true)), ((.bin .geq), (.chan (some 13)), (.int .i64 1), (.bool true)), ((.bin .leq), (.chan (some 13)), (.int .i64 64), (.bool true)), ((.bin .lss), (.chan (some 7)), (.int .i64 (-64)), (.bool false)), ((.bin .gtr), (.chan (some 7)), (.int .i64 64), (.bool false)), ((.bin .gtr), (.chan (some 7)), (.chan (some 7)), (.bool false)), ((.bin .eql), (.chan (some 7)), (.chan (some 7)), (.bool true)), ((.bin .add), (.int .i64 0), (.chan (some 7)), (.chan (some 7))), ((.bin .geq), (.chan (some 7)), (.int .i64 (-131072)), (.bool true)), ((.bin .leq), (.chan (some 7)), (.int .i64 131072), (.bool true))]
theorem hr2 (p : Nat → Int) (h : H p) : ∀ x ∈ r2, Rule2 (θ p) x := by
  obtain ⟨⟨a0, b0⟩, ⟨a1, b1⟩, ⟨a2, b2⟩, ⟨a3, b3⟩, hc0, hc1⟩ := h
  obtain ⟨f0, f1, f2, f3, f4, f5, f6, f7, f8, f9, f10, f11, f12, f13, f14, f15, f16, f17⟩ := fs p
  replace f5 := f5 (by omega)
  replace f11 := f11 (by omega)
  intro x hx
  simp only [r2, List.mem_cons, List.not_mem_nil, or_false] at hx
  rcases hx with rfl | rfl | rfl | rfl | rfl | rfl | rfl | rfl | rfl | rfl | rfl | rfl | rfl | rfl | rfl | rfl | rfl | rfl
  · exact ⟨rfl, rfl, rfl, by show intBin .rem .u64 (t4 p) .u64 (129) = some (.int .u64 (t5 p)); rw [show intBin .rem .u64 (t4 p) .u64 (129) = if IntKind.u64 = IntKind.u64 ∧ (129) ≠ 0 then some (.int .u64 (Int.tmod (t4 p) (129))) else none from rfl, if_pos ⟨rfl, by omega⟩, Int.tmod_eq_emod_of_nonneg (by omega)]; exact congrArg (fun z => some (Value.int .u64 z)) (by omega)⟩
  · exact ⟨rfl, rfl, rfl, congrArg (fun z => some (Value.int .i64 z)) (show IntKind.i64.wrap ((t6 p) - (64)) = (t7 p) from (by have g := w_i64 (((t6 p) - (64))); omega))⟩
  · exact ⟨rfl, rfl, rfl, by show intBin .rem .u64 (t9 p) .u64 (8) = some (.int .u64 (4)); rw [show intBin .rem .u64 (t9 p) .u64 (8) = if IntKind.u64 = IntKind.u64 ∧ (8) ≠ 0 then some (.int .u64 (Int.tmod (t9 p) (8))) else none from rfl, if_pos ⟨rfl, by omega⟩, Int.tmod_eq_emod_of_nonneg (by omega)]; exact congrArg (fun z => some (Value.int .u64 z)) (by omega)⟩
  · exact ⟨rfl, rfl, rfl, by show intBin .rem .u64 (t10 p) .u64 (64) = some (.int .u64 (t11 p)); rw [show intBin .rem .u64 (t10 p) .u64 (64) = if IntKind.u64 = IntKind.u64 ∧ (64) ≠ 0 then some (.int .u64 (Int.tmod (t10 p) (64))) else none from rfl, if_pos ⟨rfl, by omega⟩, Int.tmod_eq_emod_of_nonneg (by omega)]; exact congrArg (fun z => some (Value.int .u64 z)) (by omega)⟩
  · exact ⟨rfl, rfl, rfl, congrArg (fun z => some (Value.int .i64 z)) (show IntKind.i64.wrap ((1) + (t12 p)) = (t13 p) from (by have g := w_i64 (((1) + (t12 p))); omega))⟩
  · exact ⟨rfl, rfl, rfl, congrArg (fun z => some (Value.int .i64 z)) (show IntKind.i64.wrap ((t7 p) + (t14 p)) = (t15 p) from (by have g := w_i64 (((t7 p) + (t14 p))); omega))⟩
  · exact ⟨rfl, rfl, rfl, congrArg (fun z => some (Value.bool z)) (decide_eq_true (show ((t15 p) ≥ (0)) from by omega))⟩
  · exact ⟨rfl, rfl, rfl, congrArg (fun z => some (Value.int .i64 z)) (show IntKind.i64.wrap ((t15 p) + (4)) = (t16 p) from (by have g := w_i64 (((t15 p) + (4))); omega))⟩
  · exact ⟨rfl, rfl, rfl, congrArg (fun z => some (Value.bool z)) (decide_eq_true (show ((t16 p) ≤ (t13 p)) from by omega))⟩
  · exact ⟨rfl, rfl, rfl, congrArg (fun z => some (Value.bool z)) (decide_eq_true (show ((t13 p) ≥ (1)) from by omega))⟩
  · exact ⟨rfl, rfl, rfl, congrArg (fun z => some (Value.bool z)) (decide_eq_true (show ((t13 p) ≤ (64)) from by omega))⟩
  · exact ⟨rfl, rfl, rfl, congrArg (fun z => some (Value.bool z)) (decide_eq_false (show ¬ ((t7 p) < (-64)) from by omega))⟩
  · exact ⟨rfl, rfl, rfl, congrArg (fun z => some (Value.bool z)) (decide_eq_false (show ¬ ((t7 p) > (64)) from by omega))⟩
  · exact ⟨rfl, rfl, rfl, congrArg (fun z => some (Value.bool z)) (decide_eq_false (show ¬ ((t7 p) > (t7 p)) from by omega))⟩
  · exact ⟨rfl, rfl, rfl, congrArg (fun z => some (Value.bool z)) (show ((t7 p) == (t7 p)) = true from beq_iff_eq.2 (by omega))⟩
  · exact ⟨rfl, rfl, rfl, congrArg (fun z => some (Value.int .i64 z)) (show IntKind.i64.wrap ((0) + (t7 p)) = (t7 p) from (by have g := w_i64 (((0) + (t7 p))); omega))⟩
  · exact ⟨rfl, rfl, rfl, congrArg (fun z => some (Value.bool z)) (decide_eq_true (show ((t7 p) ≥ (-131072)) from by omega))⟩
  · exact ⟨rfl, rfl, rfl, congrArg (fun z => some (Value.bool z)) (decide_eq_true (show ((t7 p) ≤ (131072)) from by omega))⟩
def re : List (Value × Value × Bool) := []
theorem hre (p : Nat → Int) (h : H p) : ∀ x ∈ re, RuleE (θ p) x := fun x hx => nomatch hx
abbrev sy (p : Nat → Int) (h : H p) : Sy := syOf (θ p) (plain p) r1 r2 re (hr1 p h) (hr2 p h) (hre p h)
end vl_in4
namespace vl_lo4
abbrev H (p : Nat → Int) : Prop := (-9223372036854775808 ≤ p 0 ∧ p 0 ≤ 9223372036854775807) ∧ (-9223372036854775808 ≤ p 1 ∧ p 1 ≤ 9223372036854775807) ∧ (-9223372036854775808 ≤ p 2 ∧ p 2 ≤ 9223372036854775807) ∧ (-32768 ≤ p 3 ∧ p 3 ≤ 32767) ∧ ((p 1 % 18446744073709551616) % 8 = 4) ∧ ((p 2 % 18446744073709551616) % 129 - 64 + p 3 < 0)
def t0 (p : Nat → Int) : Int := p 0
def t1 (p : Nat → Int) : Int := p 1
def t2 (p : Nat → Int) : Int := p 2
def t3 (p : Nat → Int) : Int := p 3
def t4 (p : Nat → Int) : Int := (IntKind.u64.wrap (t2 p))
def t5 (p : Nat → Int) : Int := (Int.tmod (t4 p) 129)
def t6 (p : Nat → Int) : Int := (IntKind.i64.wrap (t5 p))
def t7 (p : Nat → Int) : Int := (IntKind.i64.wrap ((t6 p) - 64))
def t8 (p : Nat → Int) : Int := (IntKind.i32.wrap (t7 p))
def t9 (p : Nat → Int) : Int := (IntKind.u64.wrap (t1 p))
def t10 (p : Nat → Int) : Int := (IntKind.u64.wrap (t0 p))
def t11 (p : Nat → Int) : Int := (Int.tmod (t10 p) 64)
def t12 (p : Nat → Int) : Int := (IntKind.i64.wrap (t11 p))
def t13 (p : Nat → Int) : Int := (IntKind.i64.wrap (1 + (t12 p)))
def t14 (p : Nat → Int) : Int := (IntKind.i64.wrap (t3 p))
def t15 (p : Nat → Int) : Int := (IntKind.i64.wrap ((t7 p) + (t14 p)))
def t16 (p : Nat → Int) : Int := (IntKind.u64.wrap (t7 p))
def θ (p : Nat → Int) : Nat → Value := fun j => match j with
  | 0 => .int .i64 (t0 p)
  | 1 => .int .i64 (t1 p)
  | 2 => .int .i64 (t2 p)
  | 3 => .int .i16 (t3 p)
  | 4 => .int .u64 (t4 p)
  | 5 => .int .u64 (t5 p)
  | 6 => .int .i64 (t6 p)
  | 7 => .int .i64 (t7 p)
  | 8 => .int .i32 (t8 p)
  | 9 => .int .u64 (t9 p)
  | 10 => .int .u64 (t10 p)
  | 11 => .int .u64 (t11 p)
  | 12 => .int .i64 (t12 p)
  | 13 => .int .i64 (t13 p)
  | 14 => .int .i64 (t14 p)
  | 15 => .int .i64 (t15 p)
  | 16 => .int .u64 (t16 p)
  | _ => .bool false
theorem plain (p : Nat → Int) : ∀ j, plainV (θ p j) = true := by intro j; unfold θ; split <;> rfl
theorem fs (p : Nat → Int) : (t0 p = p 0) ∧ (t1 p = p 1) ∧ (t2 p = p 2) ∧ (t3 p = p 3) ∧ (t4 p = (t2 p) % 18446744073709551616) ∧ (0 ≤ (t4 p) → t5 p = (t4 p) % 129) ∧ (-9223372036854775808 ≤ t6 p ∧ t6 p < 9223372036854775808 ∧ ((t5 p) - t6 p) % 18446744073709551616 = 0) ∧ (-9223372036854775808 ≤ t7 p ∧ t7 p < 9223372036854775808 ∧ (((t6 p) - 64) - t7 p) % 18446744073709551616 = 0) ∧ (-2147483648 ≤ t8 p ∧ t8 p < 2147483648 ∧ ((t7 p) - t8 p) % 4294967296 = 0) ∧ (t9 p = (t1 p) % 18446744073709551616) ∧ (t10 p = (t0 p) % 18446744073709551616) ∧ (0 ≤ (t10 p) → t11 p = (t10 p) % 64) ∧ (-9223372036854775808 ≤ t12 p ∧ t12 p < 9223372036854775808 ∧ ((t11 p) - t12 p) % 18446744073709551616 = 0) ∧ (-9223372036854775808 ≤ t13 p ∧ t13 p < 9223372036854775808 ∧ ((1 + (t12 p)) - t13 p) % 18446744073709551616 = 0) ∧ (-9223372036854775808 ≤ t14 p ∧ t14 p < 9223372036854775808 ∧ ((t3 p) - t14 p) % 18446744073709551616 = 0) ∧ (-9223372036854775808 ≤ t15 p ∧ t15 p < 9223372036854775808 ∧ (((t7 p) + (t14 p)) - t15 p) % 18446744073709551616 = 0) ∧ (t16 p = (t7 p) % 18446744073709551616) := ⟨rfl, rfl, rfl, rfl, w_u64 _, Int.tmod_eq_emod_of_nonneg, w_i64 _, w_i64 _, w_i32 _, w_u64 _, w_u64 _, Int.tmod_eq_emod_of_nonneg, w_i64 _, w_i64 _, w_i64 _, w_i64 _, w_u64 _⟩
def r1 : List (U1 × Value × Value) := [((.conv .u64), (.chan (some 2)), (.chan (some 4))), ((.conv .i64), (.chan (some 5)), (.chan (some 6))), ((.conv .i32), (.chan (some 7)), (.chan (some 8))), ((.conv .u64), (.chan (some 1)), (.chan (some 9))), ((.conv .u64), (.chan (some 0)), (.chan (some 10))), ((.conv .i64), (.chan (some 11)), (.chan (some 12))), ((.conv .i64), (.chan (some 8)), (.chan (some 7))), ((.conv .i64), (.chan (some 3)), (.chan (some 14))), ((.conv .u64), (.chan (some 7)), (.chan (some 16))), ((.conv .i64), (.chan (some 16)), (.chan (some 7)))]
theorem hr1 (p : Nat → Int) (h : H p) : ∀ x ∈ r1, Rule1 (θ p) x := by
  obtain ⟨⟨a0, b0⟩, ⟨a1, b1⟩, ⟨a2, b2⟩, ⟨a3, b3⟩, hc0, hc1⟩ := h
  obtain ⟨f0, f1, f2, f3, f4, f5, f6, f7, f8, f9, f10, f11, f12, f13, f14, f15, f16⟩ := fs p
  replace f5 := f5 (by omega)
  replace f11 := f11 (by omega)
  intro x hx
  simp only [r1, List.mem_cons, List.not_mem_nil, or_false] at hx
  rcases hx with rfl | rfl | rfl | rfl | rfl | rfl | rfl | rfl | rfl | rfl
  · exact ⟨rfl, rfl, congrArg (fun z => some (Value.int .u64 z)) (show IntKind.u64.wrap (t2 p) = (t4 p) from ((w_u64 _).trans (by omega)))⟩
  · exact ⟨rfl, rfl, congrArg (fun z => some (Value.int .i64 z)) (show IntKind.i64.wrap (t5 p) = (t6 p) from (by have g := w_i64 ((t5 p)); omega))⟩
  · exact ⟨rfl, rfl, congrArg (fun z => some (Value.int .i32 z)) (show IntKind.i32.wrap (t7 p) = (t8 p) from (by have g := w_i32 ((t7 p)); omega))⟩
  · exact ⟨rfl, rfl, congrArg (fun z => some (Value.int .u64 z)) (show IntKind.u64.wrap (t1 p) = (t9 p) from ((w_u64 _).trans (by omega)))⟩
  · exact ⟨rfl, rfl, congrArg (fun z => some (Value.int .u64 z)) (show IntKind.u64.wrap (t0 p) = (t10 p) from ((w_u64 _).trans (by omega)))⟩
  · exact ⟨rfl, rfl, congrArg (fun z => some (Value.int .i64 z)) (show IntKind.i64.wrap (t11 p) = (t12 p) from (by have g := w_i64 ((t11 p)); omega))⟩
  · exact ⟨rfl, rfl, congrArg (fun z => some (Value.int .i64 z)) (show IntKind.i64.wrap (t8 p) = (t7 p) from (by have g := w_i64 ((t8 p)); omega))⟩
  · exact ⟨rfl, rfl, congrArg (fun z => some (Value.int .i64 z)) (show IntKind.i64.wrap (t3 p) = (t14 p) from (by have g := w_i64 ((t3 p)); omega))⟩
  · exact ⟨rfl, rfl, congrArg (fun z => some (Value.int .u64 z)) (show IntKind.u64.wrap (t7 p) = (t16 p) from ((w_u64 _).trans (by omega)))⟩
  · exact ⟨rfl, rfl, congrArg (fun z => some (Value.int .i64 z)) (show IntKind.i64.wrap (t16 p) = (t7 p) from (by have g := w_i64 ((t16 p)); omega))⟩
def r2 : List (U2 × Value × Value × Value) := [((.bin .rem), (.chan (some 4)), (.int .u64 129), (.chan (some 5))), ((.bin .sub), (.chan (some 6)), (.int .i64 64), (.chan (some 7))), ((.bin .rem), (.chan (some 9)), (.int .u64 8), (.int .u64 4)), ((.bin .rem), (.chan (some 10)), (.int .u64 64), (.chan (some 11))), ((.bin .add), (.int .i64 1), (.chan (some 12)), (.chan (some 13))), ((.bin .add), (.chan (some 7)), (.chan (some 14)), (.chan (some 15))), ((.bin .geq), (.chan (some 15)), (.int .i64 0), (.bool false)), ((.bin .geq), (.chan (some 13)), (.int .i64 1), (.bool true)), ((.bin .leq), (.chan (some 13)), (.int .i64 64), (.bool true)), ((.bin .lss), (.chan (some 7)), (.int .i64 (-64)), (.bool false)), ((.bin .gtr), (.chan (some 7)), (.int .i64 64), (.bool false)), ((.bin .gtr), (.chan (some 7)), (.chan (some 7)), (.bool false)), ((.bin .eql), (.chan (some 7)), (.chan (some 7)), (.bool true)), ((.bin .add), (.int .i64 0), (.chan (some 7)), (.chan (some 7))), ((.bin .geq), (.chan (some 7)), (.int .i64 (-131072)), (.bool true)), ((.bin .leq), (.chan (some 7)), (.int .i64 131072), (.bool true))]
theorem hr2 (p : Nat → Int) (h : H p) : ∀ x ∈ r2, Rule2 (θ p) x := by
  obtain ⟨⟨a0, b0⟩, ⟨a1, b1⟩, ⟨a2, b2⟩, ⟨a3, b3⟩, hc0, hc1⟩ := h
  obtain ⟨f0, f1, f2, f3, f4, f5, f6, f7, f8, f9, f10, f11, f12, f13, f14, f15, f16⟩ := fs p
  replace f5 := f5 (by omega)
  replace f11 := f11 (by omega)
  intro x hx
  simp only [r2, List.mem_cons, List.not_mem_nil, or_false] at hx
  rcases hx with rfl | rfl | rfl | rfl | rfl | rfl | rfl | rfl | rfl | rfl | rfl | rfl | rfl | rfl | rfl | rfl
  · exact ⟨rfl, rfl, rfl, by show intBin .rem .u64 (t4 p) .u64 (129) = some (.int .u64 (t5 p)); rw [show intBin .rem .u64 (t4 p) .u64 (129) = if IntKind.u64 = IntKind.u64 ∧ (129) ≠ 0 then some (.int .u64 (Int.tmod (t4 p) (129))) else none from rfl, if_pos ⟨rfl, by omega⟩, Int.tmod_eq_emod_of_nonneg (by omega)]; exact congrArg (fun z => some (Value.int .u64 z)) (by omega)⟩
  · exact ⟨rfl, rfl, rfl, congrArg (fun z => some (Value.int .i64 z)) (show IntKind.i64.wrap ((t6 p) - (64)) = (t7 p) from (by have g := w_i64 (((t6 p) - (64))); omega))⟩
  · exact ⟨rfl, rfl, rfl, by show intBin .rem .u64 (t9 p) .u64 (8) = some (.int .u64 (4)); rw [show intBin .rem .u64 (t9 p) .u64 (8) = if IntKind.u64 = IntKind.u64 ∧ (8) ≠ 0 then some (.int .u64 (Int.tmod (t9 p) (8))) else none from rfl, if_pos ⟨rfl, by omega⟩, Int.tmod_eq_emod_of_nonneg (by omega)]; exact congrArg (fun z => some (Value.int .u64 z)) (by omega)⟩
  · exact ⟨rfl, rfl, rfl, by show intBin .rem .u64 (t10 p) .u64 (64) = some (.int .u64 (t11 p)); rw [show intBin .rem .u64 (t10 p) .u64 (64) = if IntKind.u64 = IntKind.u64 ∧ (64) ≠ 0 then some (.int .u64 (Int.tmod (t10 p) (64))) else none from rfl, if_pos ⟨rfl, by omega⟩, Int.tmod_eq_emod_of_nonneg (by omega)]; exact congrArg (fun z => some (Value.int .u64 z)) (by omega)⟩
  · exact ⟨rfl, rfl, rfl, congrArg (fun z => some (Value.int .i64 z)) (show IntKind.i64.wrap ((1) + (t12 p)) = (t13 p) from (by have g := w_i64 (((1) + (t12 p))); omega))⟩
  · exact ⟨rfl, rfl, rfl, congrArg (fun z => some (Value.int .i64 z)) (show IntKind.i64.wrap ((t7 p) + (t14 p)) = (t15 p) from (by have g := w_i64 (((t7 p) + (t14 p))); omega))⟩
  · exact ⟨rfl, rfl, rfl, congrArg (fun z => some (Value.bool z)) (decide_eq_false (show ¬ ((t15 p) ≥ (0)) from by omega))⟩
  · exact ⟨rfl, rfl, rfl, congrArg (fun z => some (Value.bool z)) (decide_eq_true (show ((t13 p) ≥ (1)) from by omega))⟩
  · exact ⟨rfl, rfl, rfl, congrArg (fun z => some (Value.bool z)) (decide_eq_true (show ((t13 p) ≤ (64)) from by omega))⟩
  · exact ⟨rfl, rfl, rfl, congrArg (fun z => some (Value.bool z)) (decide_eq_false (show ¬ ((t7 p) < (-64)) from by omega))⟩
  · exact ⟨rfl, rfl, rfl, congrArg (fun z => some (Value.bool z)) (decide_eq_false (show ¬ ((t7 p) > (64)) from by omega))⟩
  · exact ⟨rfl, rfl, rfl, congrArg (fun z => some (Value.bool z)) (decide_eq_false (show ¬ ((t7 p) > (t7 p)) from by omega))⟩
  · exact ⟨rfl, rfl, rfl, congrArg (fun z => some (Value.bool z)) (show ((t7 p) == (t7 p)) = true from beq_iff_eq.2 (by omega))⟩
  · exact ⟨rfl, rfl, rfl, congrArg (fun z => some (Value.int .i64 z)) (show IntKind.i64.wrap ((0) + (t7 p)) = (t7 p) from (by have g := w_i64 (((0) + (t7 p))); omega))⟩
  · exact ⟨rfl, rfl, rfl, congrArg (fun z => some (Value.bool z)) (decide_eq_true (show ((t7 p) ≥ (-131072)) from by omega))⟩
  · exact ⟨rfl, rfl, rfl, congrArg (fun z => some (Value.bool z)) (decide_eq_true (show ((t7 p) ≤ (131072)) from by omega))⟩
def re : List (Value × Value × Bool) := []
theorem hre (p : Nat → Int) (h : H p) : ∀ x ∈ re, RuleE (θ p) x := fun x hx => nomatch hx
abbrev sy (p : Nat → Int) (h : H p) : Sy := syOf (θ p) (plain p) r1 r2 re (hr1 p h) (hr2 p h) (hre p h)
end vl_lo4
namespace vl_hi4
abbrev H (p : Nat → Int) : Prop := (-9223372036854775808 ≤ p 0 ∧ p 0 ≤ 9223372036854775807) ∧ (-9223372036854775808 ≤ p 1 ∧ p 1 ≤ 9223372036854775807) ∧ (-9223372036854775808 ≤ p 2 ∧ p 2 ≤ 9223372036854775807) ∧ (-32768 ≤ p 3 ∧ p 3 ≤ 32767) ∧ ((p 1 % 18446744073709551616) % 8 = 4) ∧ (0 ≤ (p 2 % 18446744073709551616) % 129 - 64 + p 3 ∧ 1 + (p 0 % 18446744073709551616) % 64 < (p 2 % 18446744073709551616) % 129 - 64 + p 3 + 4)
def t0 (p : Nat → Int) : Int := p 0
def t1 (p : Nat → Int) : Int := p 1
def t2 (p : Nat → Int) : Int := p 2
def t3 (p : Nat → Int) : Int := p 3
def t4 (p : Nat → Int) : Int := (IntKind.u64.wrap (t2 p))
def t5 (p : Nat → Int) : Int := (Int.tmod (t4 p) 129)
def t6 (p : Nat → Int) : Int := (IntKind.i64.wrap (t5 p))
def t7 (p : Nat → Int) : Int := (IntKind.i64.wrap ((t6 p) - 64))
def t8 (p : Nat → Int) : Int := (IntKind.i32.wrap (t7 p))
def t9 (p : Nat → Int) : Int := (IntKind.u64.wrap (t1 p))
def t10 (p : Nat → Int) : Int := (IntKind.u64.wrap (t0 p))
def t11 (p : Nat → Int) : Int := (Int.tmod (t10 p) 64)
def t12 (p : Nat → Int) : Int := (IntKind.i64.wrap (t11 p))
def t13 (p : Nat → Int) : Int := (IntKind.i64.wrap (1 + (t12 p)))
def t14 (p : Nat → Int) : Int := (IntKind.i64.wrap (t3 p))
def t15 (p : Nat → Int) : Int := (IntKind.i64.wrap ((t7 p) + (t14 p)))
def t16 (p : Nat → Int) : Int := (IntKind.i64.wrap ((t15 p) + 4))
def t17 (p : Nat → Int) : Int := (IntKind.u64.wrap (t7 p))
def θ (p : Nat → Int) : Nat → Value := fun j => match j with
  | 0 => .int .i64 (t0 p)
  | 1 => .int .i64 (t1 p)
  | 2 => .int .i64 (t2 p)
  | 3 => .int .i16 (t3 p)
  | 4 => .int .u64 (t4 p)
  | 5 => .int .u64 (t5 p)
  | 6 => .int .i64 (t6 p)
  | 7 => .int .i64 (t7 p)
  | 8 => .int .i32 (t8 p)
  | 9 => .int .u64 (t9 p)
  | 10 => .int .u64 (t10 p)
  | 11 => .int .u64 (t11 p)
  | 12 => .int .i64 (t12 p)
  | 13 => .int .i64 (t13 p)
  | 14 => .int .i64 (t14 p)
  | 15 => .int .i64 (t15 p)
  | 16 => .int .i64 (t16 p)
  | 17 => .int .u64 (t17 p)
  | _ => .bool false
theorem plain (p : Nat → Int) : ∀ j, plainV (θ p j) = true := by intro j; unfold θ; split <;> rfl
theorem fs (p : Nat → Int) : (t0 p = p 0) ∧ (t1 p = p 1) ∧ (t2 p = p 2) ∧ (t3 p = p 3) ∧ (t4 p = (t2 p) % 18446744073709551616) ∧ (0 ≤ (t4 p) → t5 p = (t4 p) % 129) ∧ (-9223372036854775808 ≤ t6 p ∧ t6 p < 9223372036854775808 ∧ ((t5 p) - t6 p) % 18446744073709551616 = 0) ∧ (-9223372036854775808 ≤ t7 p ∧ t7 p < 9223372036854775808 ∧ (((t6 p) - 64) - t7 p) % 18446744073709551616 = 0) ∧ (-2147483648 ≤ t8 p ∧ t8 p < 2147483648 ∧ ((t7 p) - t8 p) % 4294967296 = 0) ∧ (t9 p = (t1 p) % 18446744073709551616) ∧ (t10 p = (t0 p) % 18446744073709551616) ∧ (0 ≤ (t10 p) → t11 p = (t10 p) % 64) ∧ (-9223372036854775808 ≤ t12 p ∧ t12 p < 9223372036854775808 ∧ ((t11 p) - t12 p) % 18446744073709551616 = 0) ∧ (-9223372036854775808 ≤ t13 p ∧ t13 p < 9223372036854775808 ∧ ((1 + (t12 p)) - t13 p) % 18446744073709551616 = 0) ∧ (-9223372036854775808 ≤ t14 p ∧ t14 p < 9223372036854775808 ∧ ((t3 p) - t14 p) % 18446744073709551616 = 0) ∧ (-9223372036854775808 ≤ t15 p ∧ t15 p < 9223372036854775808 ∧ (((t7 p) + (t14 p)) - t15 p) % 18446744073709551616 = 0) ∧ (-9223372036854775808 ≤ t16 p ∧ t16 p < 9223372036854775808 ∧ (((t15 p) + 4) - t16 p) % 18446744073709551616 = 0) ∧ (t17 p = (t7 p) % 18446744073709551616) := ⟨rfl, rfl, rfl, rfl, w_u64 _, Int.tmod_eq_emod_of_nonneg, w_i64 _, w_i64 _, w_i32 _, w_u64 _, w_u64 _, Int.tmod_eq_emod_of_nonneg, w_i64 _, w_i64 _, w_i64 _, w_i64 _, w_i64 _, w_u64 _⟩
def r1 : List (U1 × Value × Value) := [((.conv .u64), (.chan (some 2)), (.chan (some 4))), ((.conv .i64), (.chan (some 5)), (.chan (some 6))), ((.conv .i32), (.chan (some 7)), (.chan (some 8))), ((.conv .u64), (.chan (some 1)), (.chan (some 9))), ((.conv .u64), (.chan (some 0)), (.chan (some 10))), ((.conv .i64), (.chan (some 11)), (.chan (some 12))), ((.conv .i64), (.chan (some 8)), (.chan (some 7))), ((.conv .i64), (.chan (some 3)), (.chan (some 14))), ((.conv .u64), (.chan (some 7)), (.chan (some 17))), ((.conv .i64), (.chan (some 17)), (.chan (some 7)))]
theorem hr1 (p : Nat → Int) (h : H p) : ∀ x ∈ r1, Rule1 (θ p) x := by
  obtain ⟨⟨a0, b0⟩, ⟨a1, b1⟩, ⟨a2, b2⟩, ⟨a3, b3⟩, hc0, hc1⟩ := h
  obtain ⟨f0, f1, f2, f3, f4, f5, f6, f7, f8, f9, f10, f11, f12, f13, f14, f15, f16, f17⟩ := fs p
  replace f5 := f5 (by omega)
  replace f11 := f11 (by omega)
  intro x hx
  simp only [r1, List.mem_cons, List.not_mem_nil, or_false] at hx
  rcases hx with rfl | rfl | rfl | rfl | rfl | rfl | rfl | rfl | rfl | rfl
  · exact ⟨rfl, rfl, congrArg (fun z => some (Value.int .u64 z)) (show IntKind.u64.wrap (t2 p) = (t4 p) from ((w_u64 _).trans (by omega)))⟩
  · exact ⟨rfl, rfl, congrArg (fun z => some (Value.int .i64 z)) (show IntKind.i64.wrap (t5 p) = (t6 p) from (by have g := w_i64 ((t5 p)); omega))⟩
  · exact ⟨rfl, rfl, congrArg (fun z => some (Value.int .i32 z)) (show IntKind.i32.wrap (t7 p) = (t8 p) from (by have g := w_i32 ((t7 p)); omega))⟩
  · exact ⟨rfl, rfl, congrArg (fun z => some (Value.int .u64 z)) (show IntKind.u64.wrap (t1 p) = (t9 p) from ((w_u64 _).trans (by omega)))⟩
  · exact ⟨rfl, rfl, congrArg (fun z => some (Value.int .u64 z)) (show IntKind.u64.wrap (t0 p) = (t10 p) from ((w_u64 _).trans (by omega)))⟩
  · exact ⟨rfl, rfl, congrArg (fun z => some (Value.int .i64 z)) (show IntKind.i64.wrap (t11 p) = (t12 p) from (by have g := w_i64 ((t11 p)); omega))⟩
  · exact ⟨rfl, rfl, congrArg (fun z => some (Value.int .i64 z)) (show IntKind.i64.wrap (t8 p) = (t7 p) from (by have g := w_i64 ((t8 p)); omega))⟩
  · exact ⟨rfl, rfl, congrArg (fun z => some (Value.int .i64 z)) (show IntKind.i64.wrap (t3 p) = (t14 p) from (by have g := w_i64 ((t3 p)); omega))⟩
  · exact ⟨rfl, rfl, congrArg (fun z => some (Value.int .u64 z)) (show IntKind.u64.wrap (t7 p) = (t17 p) from ((w_u64 _).trans (by omega)))⟩
  · exact ⟨rfl, rfl, congrArg (fun z => some (Value.int .i64 z)) (show IntKind.i64.wrap (t17 p) = (t7 p) from (by have g := w_i64 ((t17 p)); omega))⟩
def r2 : List (U2 × Value × Value × Value) := [((.bin .rem), (.chan (some 4)), (.int .u64 129), (.chan (some 5))), ((.bin .sub), (.chan (some 6)), (.int .i64 64), (.chan (some 7))), ((.bin .rem), (.chan (some 9)), (.int .u64 8), (.int .u64 4)), ((.bin .rem), (.chan (some 10)), (.int .u64 64), (.chan (some 11))), ((.bin .add), (.int .i64 1), (.chan (some 12)), (.chan (some 13))), ((.bin .add), (.chan (some 7)), (.chan (some 14)), (.chan (some 15))), ((.bin .geq), (.chan (some 15)), (.int .i64 0), (.bool true)), ((.bin .add), (.chan (some 15)), (.int .i64 4), (.chan (some 16))), ((.bin .leq), (.chan (some 16)), (.chan (some 13)), (.bool false)), ((.bin .geq), (.chan (some 13)), (.int .i64 1), (.bool true)), ((.bin .leq), (.chan (some 13)), (.int .i64 64), (.bool true)), ((.bin .lss), (.chan (some 7)), (.int .i64 (-64)), (.bool false)), ((.bin .gtr), (.chan (some 7)), (.int .i64 64), (.bool false)), ((.bin .gtr), (.chan (some 7)), (.chan (some 7)), (.bool false)), ((.bin .eql), (.chan (some 7)), (.chan (some 7)), (.bool true)), ((.bin .add), (.int .i64 0), (.chan (some 7)), (.chan (some 7))), ((.bin .geq), (.chan (some 7)), (.int .i64 (-131072)), (.bool true)), ((.bin .leq), (.chan (some 7)), (.int .i64 131072), (.bool true))]
theorem hr2 (p : Nat → Int) (h : H p) : ∀ x ∈ r2, Rule2 (θ p) x := by
  obtain ⟨⟨a0, b0⟩, ⟨a1, b1⟩, ⟨a2, b2⟩, ⟨a3, b3⟩, hc0, hc1⟩ := h
  obtain ⟨f0, f1, f2, f3, f4, f5, f6, f7, f8, f9, f10, f11, f12, f13, f14, f15, f16, f17⟩ := fs p
  replace f5 := f5 (by omega)
  replace f11 := f11 (by omega)
  intro x hx
  simp only [r2, List.mem_cons, List.not_mem_nil, or_false] at hx
  rcases hx with rfl | rfl | rfl | rfl | rfl | rfl | rfl | rfl | rfl | rfl | rfl | rfl | rfl | rfl | rfl | rfl | rfl | rfl
  · exact ⟨rfl, rfl, rfl, by show intBin .rem .u64 (t4 p) .u64 (129) = some (.int .u64 (t5 p)); rw [show intBin .rem .u64 (t4 p) .u64 (129) = if IntKind.u64 = IntKind.u64 ∧ (129) ≠ 0 then some (.int .u64 (Int.tmod (t4 p) (129))) else none from rfl, if_pos ⟨rfl, by omega⟩, Int.tmod_eq_emod_of_nonneg (by omega)]; exact congrArg (fun z => some (Value.int .u64 z)) (by omega)⟩
  · exact ⟨rfl, rfl, rfl, congrArg (fun z => some (Value.int .i64 z)) (show IntKind.i64.wrap ((t6 p) - (64)) = (t7 p) from (by have g := w_i64 (((t6 p) - (64))); omega))⟩
  · exact ⟨rfl, rfl, rfl, by show intBin .rem .u64 (t9 p) .u64 (8) = some (.int .u64 (4)); rw [show intBin .rem .u64 (t9 p) .u64 (8) = if IntKind.u64 = IntKind.u64 ∧ (8) ≠ 0 then some (.int .u64 (Int.tmod (t9 p) (8))) else none from rfl, if_pos ⟨rfl, by omega⟩, Int.tmod_eq_emod_of_nonneg (by omega)]; exact congrArg (fun z => some (Value.int .u64 z)) (by omega)⟩
  · exact ⟨rfl, rfl, rfl, by show intBin .rem .u64 (t10 p) .u64 (64) = some (.int .u64 (t11 p)); rw [show intBin .rem .u64 (t10 p) .u64 (64) = if IntKind.u64 = IntKind.u64 ∧ (64) ≠ 0 then some (.int .u64 (Int.tmod (t10 p) (64))) else none from rfl, if_pos ⟨rfl, by omega⟩, Int.tmod_eq_emod_of_nonneg (by omega)]; exact congrArg (fun z => some (Value.int .u64 z)) (by omega)⟩
  · exact ⟨rfl, rfl, rfl, congrArg (fun z => some (Value.int .i64 z)) (show IntKind.i64.wrap ((1) + (t12 p)) = (t13 p) from (by have g := w_i64 (((1) + (t12 p))); omega))⟩
  · exact ⟨rfl, rfl, rfl, congrArg (fun z => some (Value.int .i64 z)) (show IntKind.i64.wrap ((t7 p) + (t14 p)) = (t15 p) from (by have g := w_i64 (((t7 p) + (t14 p))); omega))⟩
  · exact ⟨rfl, rfl, rfl, congrArg (fun z => some (Value.bool z)) (decide_eq_true (show ((t15 p) ≥ (0)) from by omega))⟩
  · exact ⟨rfl, rfl, rfl, congrArg (fun z => some (Value.int .i64 z)) (show IntKind.i64.wrap ((t15 p) + (4)) = (t16 p) from (by have g := w_i64 (((t15 p) + (4))); omega))⟩
  · exact ⟨rfl, rfl, rfl, congrArg (fun z => some (Value.bool z)) (decide_eq_false (show ¬ ((t16 p) ≤ (t13 p)) from by omega))⟩
  · exact ⟨rfl, rfl, rfl, congrArg (fun z => some (Value.bool z)) (decide_eq_true (show ((t13 p) ≥ (1)) from by omega))⟩
  · exact ⟨rfl, rfl, rfl, congrArg (fun z => some (Value.bool z)) (decide_eq_true (show ((t13 p) ≤ (64)) from by omega))⟩
  · exact ⟨rfl, rfl, rfl, congrArg (fun z => some (Value.bool z)) (decide_eq_false (show ¬ ((t7 p) < (-64)) from by omega))⟩
  · exact ⟨rfl, rfl, rfl, congrArg (fun z => some (Value.bool z)) (decide_eq_false (show ¬ ((t7 p) > (64)) from by omega))⟩
  · exact ⟨rfl, rfl, rfl, congrArg (fun z => some (Value.bool z)) (decide_eq_false (show ¬ ((t7 p) > (t7 p)) from by omega))⟩
  · exact ⟨rfl, rfl, rfl, congrArg (fun z => some (Value.bool z)) (show ((t7 p) == (t7 p)) = true from beq_iff_eq.2 (by omega))⟩
  · exact ⟨rfl, rfl, rfl, congrArg (fun z => some (Value.int .i64 z)) (show IntKind.i64.wrap ((0) + (t7 p)) = (t7 p) from (by have g := w_i64 (((0) + (t7 p))); omega))⟩
  · exact ⟨rfl, rfl, rfl, congrArg (fun z => some (Value.bool z)) (decide_eq_true (show ((t7 p) ≥ (-131072)) from by omega))⟩
  · exact ⟨rfl, rfl, rfl, congrArg (fun z => some (Value.bool z)) (decide_eq_true (show ((t7 p) ≤ (131072)) from by omega))⟩
def re : List (Value × Value × Bool) := []
theorem hre (p : Nat → Int) (h : H p) : ∀ x ∈ re, RuleE (θ p) x := fun x hx => nomatch hx
abbrev sy (p : Nat → Int) (h : H p) : Sy := syOf (θ p) (plain p) r1 r2 re (hr1 p h) (hr2 p h) (hre p h)
end vl_hi4
namespace vl_in5
abbrev H (p : Nat → Int) : Prop := (-9223372036854775808 ≤ p 0 ∧ p 0 ≤ 9223372036854775807) ∧ (-9223372036854775808 ≤ p 1 ∧ p 1 ≤ 9223372036854775807) ∧ (-9223372036854775808 ≤ p 2 ∧ p 2 ≤ 9223372036854775807) ∧ (-32768 ≤ p 3 ∧ p 3 ≤ 32767) ∧ ((p 1 % 18446744073709551616) % 8 = 5) ∧ (0 ≤ (p 2 % 18446744073709551616) % 129 - 64 + p 3 ∧ (p 2 % 18446744073709551616) % 129 - 64 + p 3 + 2 ≤ 1 + (p 0 % 18446744073709551616) % 64)
def t0 (p : Nat → Int) : Int := p 0
def t1 (p : Nat → Int) : Int := p 1
def t2 (p : Nat → Int) : Int := p 2
def t3 (p : Nat → Int) : Int := p 3
def t4 (p : Nat → Int) : Int := (IntKind.u64.wrap (t2 p))
def t5 (p : Nat → Int) : Int := (Int.tmod (t4 p) 129)
def t6 (p : Nat → Int) : Int := (IntKind.i64.wrap (t5 p))
def t7 (p : Nat → Int) : Int := (IntKind.i64.wrap ((t6 p) - 64))
def t8 (p : Nat → Int) : Int := (IntKind.i32.wrap (t7 p))
def t9 (p : Nat → Int) : Int := (IntKind.u64.wrap (t1 p))
def t10 (p : Nat → Int) : Int := (IntKind.u64.wrap (t0 p))
def t11 (p : Nat → Int) : Int := (Int.tmod (t10 p) 64)
def t12 (p : Nat → Int) : Int := (IntKind.i64.wrap (t11 p))
def t13 (p : Nat → Int) : Int := (IntKind.i64.wrap (1 + (t12 p)))
def t14 (p : Nat → Int) : Int := (IntKind.i64.wrap (t3 p))
def t15 (p : Nat → Int) : Int := (IntKind.i64.wrap ((t7 p) + (t14 p)))
def t16 (p : Nat → Int) : Int := (IntKind.i64.wrap ((t15 p) + 2))
def t17 (p : Nat → Int) : Int := (IntKind.u64.wrap (t7 p))
def θ (p : Nat → Int) : Nat → Value := fun j => match j with
  | 0 => .int .i64 (t0 p)
  | 1 => .int .i64 (t1 p)
  | 2 => .int .i64 (t2 p)
  | 3 => .int .i16 (t3 p)
  | 4 => .int .u64 (t4 p)
  | 5 => .int .u64 (t5 p)
  | 6 => .int .i64 (t6 p)
  | 7 => .int .i64 (t7 p)
  | 8 => .int .i32 (t8 p)
  | 9 => .int .u64 (t9 p)
  | 10 => .int .u64 (t10 p)
  | 11 => .int .u64 (t11 p)
  | 12 => .int .i64 (t12 p)
  | 13 => .int .i64 (t13 p)
  | 14 => .int .i64 (t14 p)
  | 15 => .int .i64 (t15 p)
  | 16 => .int .i64 (t16 p)
  | 17 => .int .u64 (t17 p)
  | _ => .bool false
theorem plain (p : Nat → Int) : ∀ j, plainV (θ p j) = true := by intro j; unfold θ; split <;> rfl
theorem fs (p : Nat → Int) : (t0 p = p 0) ∧ (t1 p = p 1) ∧ (t2 p = p 2) ∧ (t3 p = p 3) ∧ (t4 p = (t2 p) % 18446744073709551616) ∧ (0 ≤ (t4 p) → t5 p = (t4 p) % 129) ∧ (-9223372036854775808 ≤ t6 p ∧ t6 p < 9223372036854775808 ∧ ((t5 p) - t6 p) % 18446744073709551616 = 0) ∧ (-9223372036854775808 ≤ t7 p ∧ t7 p < 9223372036854775808 ∧ (((t6 p) - 64) - t7 p) % 18446744073709551616 = 0) ∧ (-2147483648 ≤ t8 p ∧ t8 p < 2147483648 ∧ ((t7 p) - t8 p) % 4294967296 = 0) ∧ (t9 p = (t1 p) % 18446744073709551616) ∧ (t10 p = (t0 p) % 18446744073709551616) ∧ (0 ≤ (t10 p) → t11 p = (t10 p) % 64) ∧ (-9223372036854775808 ≤ t12 p ∧ t12 p < 9223372036854775808 ∧ ((t11 p) - t12 p) % 18446744073709551616 = 0) ∧ (-9223372036854775808 ≤ t13 p ∧ t13 p < 9223372036854775808 ∧ ((1 + (t12 p)) - t13 p) % 18446744073709551616 = 0) ∧ (-9223372036854775808 ≤ t14 p ∧ t14 p < 9223372036854775808 ∧ ((t3 p) - t14 p) % 18446744073709551616 = 0) ∧ (-9223372036854775808 ≤ t15 p ∧ t15 p < 9223372036854775808 ∧ (((t7 p) + (t14 p)) - t15 p) % 18446744073709551616 = 0) ∧ (-9223372036854775808 ≤ t16 p ∧ t16 p < 9223372036854775808 ∧ (((t15 p) + 2) - t16 p) % 18446744073709551616 = 0) ∧ (t17 p = (t7 p) % 18446744073709551616) := ⟨rfl, rfl, rfl, rfl, w_u64 _, Int.tmod_eq_emod_of_nonneg, w_i64 _, w_i64 _, w_i32 _, w_u64 _, w_u64 _, Int.tmod_eq_emod_of_nonneg, w_i64 _, w_i64 _, w_i64 _, w_i64 _, w_i64 _, w_u64 _⟩
def r1 : List (U1 × Value × Value) := [((.conv .u64), (.chan (some 2)), (.chan (some 4))), ((.conv .i64), (.chan (some 5)), (.chan (some 6))), ((.conv .i32), (.chan (some 7)), (.chan (some 8))), ((.conv .u64), (.chan (some 1)), (.chan (some 9))), ((.conv .u64), (.chan (some 0)), (.chan (some 10))), ((.conv .i64), (.chan (some 11)), (.chan (some 12))), ((.conv .i64), (.chan (some 8)), (.chan (some 7))), ((.conv .i64), (.chan (some 3)), (.chan (some 14))), ((.conv .u64), (.chan (some 7)), (.chan (some 17))), ((.conv .i64), (.chan (some 17)), (.chan (some 7)))]
theorem hr1 (p : Nat → Int) (h : H p) : ∀ x ∈ r1, Rule1 (θ p) x := by
  obtain ⟨⟨a0, b0⟩, ⟨a1, b1⟩, ⟨a2, b2⟩, ⟨a3, b3⟩, hc0, hc1⟩ := h
  obtain ⟨f0, f1, f2, f3, f4, f5, f6, f7, f8, f9, f10, f11, f12, f13, f14, f15, f16, f17⟩ := fs p
  replace f5 := f5 (by omega)
  replace f11 := f11 (by omega)
  intro x hx
  simp only [r1, List.mem_cons, List.not_mem_nil, or_false] at hx
  rcases hx with rfl | rfl | rfl | rfl | rfl | rfl | rfl | rfl | rfl | rfl
  · exact ⟨rfl, rfl, congrArg (fun z => some (Value.int .u64 z)) (show IntKind.u64.wrap (t2 p) = (t4 p) from ((w_u64 _).trans (by omega)))⟩
  · exact ⟨rfl, rfl, congrArg (fun z => some (Value.int .i64 z)) (show IntKind.i64.wrap (t5 p) = (t6 p) from (by have g := w_i64 ((t5 p)); omega))⟩
  · exact ⟨rfl, rfl, congrArg (fun z => some (Value.int .i32 z)) (show IntKind.i32.wrap (t7 p) = (t8 p) from (by have g := w_i32 ((t7 p)); omega))⟩
  · exact ⟨rfl, rfl, congrArg (fun z => some (Value.int .u64 z)) (show IntKind.u64.wrap (t1 p) = (t9 p) from ((w_u64 _).trans (by omega)))⟩
  · exact ⟨rfl, rfl, congrArg (fun z => some (Value.int .u64 z)) (show IntKind.u64.wrap (t0 p) = (t10 p) from ((w_u64 _).trans (by omega)))⟩
  · exact ⟨rfl, rfl, congrArg (fun z => some (Value.int .i64 z)) (show IntKind.i64.wrap (t11 p) = (t12 p) from (by have g := w_i64 ((t11 p)); omega))⟩
  · exact ⟨rfl, rfl, congrArg (fun z => some (Value.int .i64 z)) (show IntKind.i64.wrap (t8 p) = (t7 p) from (by have g := w_i64 ((t8 p)); omega))⟩
  · exact ⟨rfl, rfl, congrArg (fun z => some (Value.int .i64 z)) (show IntKind.i64.wrap (t3 p) = (t14 p) from (by have g := w_i64 ((t3 p)); omega))⟩
  · exact ⟨rfl, rfl, congrArg (fun z => some (Value.int .u64 z)) (show IntKind.u64.wrap (t7 p) = (t17 p) from ((w_u64 _).trans (by omega)))⟩
  · exact ⟨rfl, rfl, congrArg (fun z => some (Value.int .i64 z)) (show IntKind.i64.wrap (t17 p) = (t7 p) from (by have g := w_i64 ((t17 p)); omega))⟩
def r2 : List (U2 × Value × Value × Value) := [((.bin .rem), (.chan (some 4)), (.int .u64 129), (.chan (some 5))), ((.bin .sub), (.chan (some 6)), (.int .i64 64), (.chan (some 7))), ((.bin .rem), (.chan (some 9)), (.int .u64 8), (.int .u64 5)), ((.bin .rem), (.chan (some 10)), (.int .u64 64), (.chan (some 11))), ((.bin .add), (.int .i64 1), (.chan (some 12)), (.chan (some 13))), ((.bin .add), (.chan (some 7)), (.chan (some 14)), (.chan (some 15))), ((.bin .geq), (.chan (some 15)), (.int .i64 0), (.bool true)), ((.bin .add), (.chan (some 15)), (.int .i64 2), (.chan (some 16))), ((.bin .leq), (.chan (some 16)), (.chan (some 13)), (.bool true)), ((.bin .geq), (.chan (some 13)), (.int .i64 1), (.bool true)), ((.bin .leq), (.chan (some 13)), (.int .i64 64), (.bool true)), ((.bin .lss), (.chan (some 7)), (.int .i64 (-64)), (.bool false)), ((.bin .gtr), (.chan (some 7)), (.int .i64 64), (.bool false)), ((.bin .gtr), (.chan (some 7)), (.chan (some 7)), (.bool false)), ((.bin .eql), (.chan (some 7)), (.chan (some 7)), (.bool true)), ((.bin .add), (.int .i64 0), (.chan (some 7)), (.chan (some 7))), ((.bin .geq), (.chan (some 7)), (.int .i64 (-131072)), (.bool true)), ((.bin .leq), (.chan (some 7)), (.int .i64 131072), (.bool true))]
theorem hr2 (p : Nat → Int) (h : H p) : ∀ x ∈ r2, Rule2 (θ p) x := by
  obtain ⟨⟨a0, b0⟩, ⟨a1, b1⟩, ⟨a2, b2⟩, ⟨a3, b3⟩, hc0, hc1⟩ := h
  obtain ⟨f0, f1, f2, f3, f4, f5, f6, f7, f8, f9, f10, f11, f12, f13, f14, f15, f16, f17⟩ := fs p
  replace f5 := f5 (by omega)
  replace f11 := f11 (by omega)
  intro x hx
  simp only [r2, List.mem_cons, List.not_mem_nil, or_false] at hx
  rcases hx with rfl | rfl | rfl | rfl | rfl | rfl | rfl | rfl | rfl | rfl | rfl | rfl | rfl | rfl | rfl | rfl | rfl | rfl
  · exact ⟨rfl, rfl, rfl, by show intBin .rem .u64 (t4 p) .u64 (129) = some (.int .u64 (t5 p)); rw [show intBin .rem .u64 (t4 p) .u64 (129) = if IntKind.u64 = IntKind.u64 ∧ (129) ≠ 0 then some (.int .u64 (Int.tmod (t4 p) (129))) else none from rfl, if_pos ⟨rfl, by omega⟩, Int.tmod_eq_emod_of_nonneg (by omega)]; exact congrArg (fun z => some (Value.int .u64 z)) (by omega)⟩
  · exact ⟨rfl, rfl, rfl, congrArg (fun z => some (Value.int .i64 z)) (show IntKind.i64.wrap ((t6 p) - (64)) = (t7 p) from (by have g := w_i64 (((t6 p) - (64))); omega))⟩
  · exact ⟨rfl, rfl, rfl, by show intBin .rem .u64 (t9 p) .u64 (8) = some (.int .u64 (5)); rw [show intBin .rem .u64 (t9 p) .u64 (8) = if IntKind.u64 = IntKind.u64 ∧ (8) ≠ 0 then some (.int .u64 (Int.tmod (t9 p) (8))) else none from rfl, if_pos ⟨rfl, by omega⟩, Int.tmod_eq_emod_of_nonneg (by omega)]; exact congrArg (fun z => some (Value.int .u64 z)) (by omega)⟩
  · exact ⟨rfl, rfl, rfl, by show intBin .rem .u64 (t10 p) .u64 (64) = some (.int .u64 (t11 p)); rw [show intBin .rem .u64 (t10 p) .u64 (64) = if IntKind.u64 = IntKind.u64 ∧ (64) ≠ 0 then some (.int .u64 (Int.tmod (t10 p) (64))) else none from rfl, if_pos ⟨rfl, by omega⟩, Int.tmod_eq_emod_of_nonneg (by omega)]; exact congrArg (fun z => some (Value.int .u64 z)) (by omega)⟩
  · exact ⟨rfl, rfl, rfl, congrArg (fun z => some (Value.int .i64 z)) (show IntKind.i64.wrap ((1) + (t12 p)) = (t13 p) from (by have g := w_i64 (((1) + (t12 p))); omega))⟩
  · exact ⟨rfl, rfl, rfl, congrArg (fun z => some (Value.int .i64 z)) (show IntKind.i64.wrap ((t7 p) + (t14 p)) = (t15 p) from (by have g := w_i64 (((t7 p) + (t14 p))); omega))⟩
  · exact ⟨rfl, rfl, rfl, congrArg (fun z => some (Value.bool z)) (decide_eq_true (show ((t15 p) ≥ (0)) from by omega))⟩
  · exact ⟨rfl, rfl, rfl, congrArg (fun z => some (Value.int .i64 z)) (show IntKind.i64.wrap ((t15 p) + (2)) = (t16 p) from (by have g := w_i64 (((t15 p) + (2))); omega))⟩
  · exact ⟨rfl, rfl, rfl, congrArg (fun z => some (Value.bool z)) (decide_eq_true (show ((t16 p) ≤ (t13 p)) from by omega))⟩
  · exact ⟨rfl, rfl, rfl, congrArg (fun z => some (Value.bool z)) (decide_eq_true (show ((t13 p) ≥ (1)) from by omega))⟩
  · exact ⟨rfl, rfl, rfl, congrArg (fun z => some (Value.bool z)) (decide_eq_true (show ((t13 p) ≤ (64)) from by omega))⟩
  · exact ⟨rfl, rfl, rfl, congrArg (fun z => some (Value.bool z)) (decide_eq_false (show ¬ ((t7 p) < (-64)) from by omega))⟩
  · exact ⟨rfl, rfl, rfl, congrArg (fun z => some (Value.bool z)) (decide_eq_false (show ¬ ((t7 p) > (64)) from by omega))⟩
  · exact ⟨rfl, rfl, rfl, congrArg (fun z => some (Value.bool z)) (decide_eq_false (show ¬ ((t7 p) > (t7 p)) from by omega))⟩
  · exact ⟨rfl, rfl, rfl, congrArg (fun z => some (Value.bool z)) (show ((t7 p) == (t7 p)) = true from beq_iff_eq.2 (by omega))⟩
  · exact ⟨rfl, rfl, rfl, congrArg (fun z => some (Value.int .i64 z)) (show IntKind.i64.wrap ((0) + (t7 p)) = (t7 p) from (by have g := w_i64 (((0) + (t7 p))); omega))⟩
  · exact ⟨rfl, rfl, rfl, congrArg (fun z => some (Value.bool z)) (decide_eq_true (show ((t7 p) ≥ (-131072)) from by omega))⟩
  · exact ⟨rfl, rfl, rfl, congrArg (fun z => some (Value.bool z)) (decide_eq_true (show ((t7 p) ≤ (131072)) from by omega))⟩
def re : List (Value × Value × Bool) := []
theorem hre (p : Nat → Int) (h : H p) : ∀ x ∈ re, RuleE (θ p) x := fun x hx => nomatch hx
abbrev sy (p : Nat → Int) (h : H p) : Sy := syOf (θ p) (plain p) r1 r2 re (hr1 p h) (hr2 p h) (hre p h)
end vl_in5
namespace vl_lo5
abbrev H (p : Nat → Int) : Prop := (-9223372036854775808 ≤ p 0 ∧ p 0 ≤ 9223372036854775807) ∧ (-9223372036854775808 ≤ p 1 ∧ p 1 ≤ 9223372036854775807) ∧ (-9223372036854775808 ≤ p 2 ∧ p 2 ≤ 9223372036854775807) ∧ (-32768 ≤ p 3 ∧ p 3 ≤ 32767) ∧ ((p 1 % 18446744073709551616) % 8 = 5) ∧ ((p 2 % 18446744073709551616) % 129 - 64 + p 3 < 0)
def t0 (p : Nat → Int) : Int := p 0
def t1 (p : Nat → Int) : Int := p 1
def t2 (p : Nat → Int) : Int := p 2
def t3 (p : Nat → Int) : Int := p 3
def t4 (p : Nat → Int) : Int := (IntKind.u64.wrap (t2 p))
def t5 (p : Nat → Int) : Int := (Int.tmod (t4 p) 129)
def t6 (p : Nat → Int) : Int := (IntKind.i64.wrap (t5 p))
def t7 (p : Nat → Int) : Int := (IntKind.i64.wrap ((t6 p) - 64))
def t8 (p : Nat → Int) : Int := (IntKind.i32.wrap (t7 p))
def t9 (p : Nat → Int) : Int := (IntKind.u64.wrap (t1 p))
def t10 (p : Nat → Int) : Int := (IntKind.u64.wrap (t0 p))
def t11 (p : Nat → Int) : Int := (Int.tmod (t10 p) 64)
def t12 (p : Nat → Int) : Int := (IntKind.i64.wrap (t11 p))
def t13 (p : Nat → Int) : Int := (IntKind.i64.wrap (1 + (t12 p)))
def t14 (p : Nat → Int) : Int := (IntKind.i64.wrap (t3 p))
def t15 (p : Nat → Int) : Int := (IntKind.i64.wrap ((t7 p) + (t14 p)))
def t16 (p : Nat → Int) : Int := (IntKind.u64.wrap (t7 p))
def θ (p : Nat → Int) : Nat → Value := fun j => match j with
  | 0 => .int .i64 (t0 p)
  | 1 => .int .i64 (t1 p)
  | 2 => .int .i64 (t2 p)
  | 3 => .int .i16 (t3 p)
  | 4 => .int .u64 (t4 p)
  | 5 => .int .u64 (t5 p)
  | 6 => .int .i64 (t6 p)
  | 7 => .int .i64 (t7 p)
  | 8 => .int .i32 (t8 p)
  | 9 => .int .u64 (t9 p)
  | 10 => .int .u64 (t10 p)
  | 11 => .int .u64 (t11 p)
  | 12 => .int .i64 (t12 p)
  | 13 => .int .i64 (t13 p)
  | 14 => .int .i64 (t14 p)
  | 15 => .int .i64 (t15 p)
  | 16 => .int .u64 (t16 p)
  | _ => .bool false
theorem plain (p : Nat → Int) : ∀ j, plainV (θ p j) = true := by intro j; unfold θ; split <;> rfl
theorem fs (p : Nat → Int) : (t0 p = p 0) ∧ (t1 p = p 1) ∧ (t2 p = p 2) ∧ (t3 p = p 3) ∧ (t4 p = (t2 p) % 18446744073709551616) ∧ (0 ≤ (t4 p) → t5 p = (t4 p) % 129) ∧ (-9223372036854775808 ≤ t6 p ∧ t6 p < 9223372036854775808 ∧ ((t5 p) - t6 p) % 18446744073709551616 = 0) ∧ (-9223372036854775808 ≤ t7 p ∧ t7 p < 9223372036854775808 ∧ (((t6 p) - 64) - t7 p) % 18446744073709551616 = 0) ∧ (-2147483648 ≤ t8 p ∧ t8 p < 2147483648 ∧ ((t7 p) - t8 p) % 4294967296 = 0) ∧ (t9 p = (t1 p) % 18446744073709551616) ∧ (t10 p = (t0 p) % 18446744073709551616) ∧ (0 ≤ (t10 p) → t11 p = (t10 p) % 64) ∧ (-9223372036854775808 ≤ t12 p ∧ t12 p < 9223372036854775808 ∧ ((t11 p) - t12 p) % 18446744073709551616 = 0) ∧ (-9223372036854775808 ≤ t13 p ∧ t13 p < 9223372036854775808 ∧ ((1 + (t12 p)) - t13 p) % 18446744073709551616 = 0) ∧ (-9223372036854775808 ≤ t14 p ∧ t14 p < 9223372036854775808 ∧ ((t3 p) - t14 p) % 18446744073709551616 = 0) ∧ (-9223372036854775808 ≤ t15 p ∧ t15 p < 9223372036854775808 ∧ (((t7 p) + (t14 p)) - t15 p) % 18446744073709551616 = 0) ∧ (t16 p = (t7 p) % 18446744073709551616) := ⟨rfl, rfl, rfl, rfl, w_u64 _, Int.tmod_eq_emod_of_nonneg, w_i64 _, w_i64 _, w_i32 _, w_u64 _, w_u64 _, Int.tmod_eq_emod_of_nonneg, w_i64 _, w_i64 _, w_i64 _, w_i64 _, w_u64 _⟩
def r1 : List (U1 × Value × Value) := [((.conv .u64), (.chan (some 2)), (.chan (some 4))), ((.conv .i64), (.chan (some 5)), (.chan (some 6))), ((.conv .i32), (.chan (some 7)), (.chan (some 8))), ((.conv .u64), (.chan (some 1)), (.chan (some 9))), ((.conv .u64), (.chan (some 0)), (.chan (some 10))), ((.conv .i64), (.chan (some 11)), (.chan (some 12))), ((.conv .i64), (.chan (some 8)), (.chan (some 7))), ((.conv .i64), (.chan (some 3)), (.chan (some 14))), ((.conv .u64), (.chan (some 7)), (.chan (some 16))), ((.conv .i64), (.chan (some 16)), (.chan (some 7)))]
theorem hr1 (p : Nat → Int) (h : H p) : ∀ x ∈ r1, Rule1 (θ p) x := by
  obtain ⟨⟨a0, b0⟩, ⟨a1, b1⟩, ⟨a2, b2⟩, ⟨a3, b3⟩, hc0, hc1⟩ := h
  obtain ⟨f0, f1, f2, f3, f4, f5, f6, f7, f8, f9, f10, f11, f12, f13, f14, f15, f16⟩ := fs p
  replace f5 := f5 (by omega)
  replace f11 := f11 (by omega)
  intro x hx
  simp only [r1, List.mem_cons, List.not_mem_nil, or_false] at hx
  rcases hx with rfl | rfl | rfl | rfl | rfl | rfl | rfl | rfl | rfl | rfl
  · exact ⟨rfl, rfl, congrArg (fun z => some (Value.int .u64 z)) (show IntKind.u64.wrap (t2 p) = (t4 p) from ((w_u64 _).trans (by omega)))⟩
  · exact ⟨rfl, rfl, congrArg (fun z => some (Value.int .i64 z)) (show IntKind.i64.wrap (t5 p) = (t6 p) from (by have g := w_i64 ((t5 p)); omega))⟩
  · exact ⟨rfl, rfl, congrArg (fun z => some (Value.int .i32 z)) (show IntKind.i32.wrap (t7 p) = (t8 p) from (by have g := w_i32 ((t7 p)); omega))⟩
  · exact ⟨rfl, rfl, congrArg (fun z => some (Value.int .u64 z)) (show IntKind.u64.wrap (t1 p) = (t9 p) from ((w_u64 _).trans (by omega)))⟩
  · exact ⟨rfl, rfl, congrArg (fun z => some (Value.int .u64 z)) (show IntKind.u64.wrap (t0 p) = (t10 p) from ((w_u64 _).trans (by omega)))⟩
  · exact ⟨rfl, rfl, congrArg (fun z => some (Value.int .i64 z)) (show IntKind.i64.wrap (t11 p) = (t12 p) from (by have g := w_i64 ((t11 p)); omega))⟩
  · exact ⟨rfl, rfl, congrArg (fun z => some (Value.int .i64 z)) (show IntKind.i64.wrap (t8 p) = (t7 p) from (by have g := w_i64 ((t8 p)); omega))⟩
  · exact ⟨rfl, rfl, congrArg (fun z => some (Value.int .i64 z)) (show IntKind.i64.wrap (t3 p) = (t14 p) from (by have g := w_i64 ((t3 p)); omega))⟩
  · exact ⟨rfl, rfl, congrArg (fun z => some (Value.int .u64 z)) (show IntKind.u64.wrap (t7 p) = (t16 p) from ((w_u64 _).trans (by omega)))⟩
  · exact ⟨rfl, rfl, congrArg (fun z => some (Value.int .i64 z)) (show IntKind.i64.wrap (t16 p) = (t7 p) from (by have g := w_i64 ((t16 p)); omega))⟩
def r2 : List (U2 × Value × Value × Value) := [((.bin .rem), (.chan (some 4)), (.int .u64 129), (.chan (some 5))), ((.bin .sub), (.chan (some 6)), (.int .i64 64), (.chan (some 7))), ((.bin .rem), (.chan (some 9)), (.int .u64 8), (.int .u64 5)), ((.bin .rem), (.chan (some 10)), (.int .u64 64), (.chan (some 11))), ((.bin .add), (.int .i64 1), (.chan (some 12)), (.chan (some 13))), ((.bin .add), (.chan (some 7)), (.chan (some 14)), (.chan (some 15))), ((.bin .geq), (.chan (some 15)), (.int .i64 0), (.bool false)), ((.bin .geq), (.chan (some 13)), (.int .i64 1), (.bool true)), ((.bin .leq), (.chan (some 13)), (.int .i64 64), (.bool true)), ((.bin .lss), (.chan (some 7)), (.int .i64 (-64)), (.bool false)), ((.bin .gtr), (.chan (some 7)), (.int .i64 64), (.bool false)), ((.bin .gtr), (.chan (some 7)), (.chan (some 7)), (.bool false)), ((.bin .eql), (.chan (some 7)), (.chan (some 7)), (.bool true)), ((.bin .add), (.int .i64 0), (.chan (some 7)), (.chan (some 7))), ((.bin .geq), (.chan (some 7)), (.int .i64 (-131072)), (.bool true)), ((.bin .leq), (.chan (some 7)), (.int .i64 131072), (.bool true))]
theorem hr2 (p : Nat → Int) (h : H p) : ∀ x ∈ r2, Rule2 (θ p) x := by
  obtain ⟨⟨a0, b0⟩, ⟨a1, b1⟩, ⟨a2, b2⟩, ⟨a3, b3⟩, hc0, hc1⟩ := h
  obtain ⟨f0, f1, f2, f3, f4, f5, f6, f7, f8, f9, f10, f11, f12, f13, f14, f15, f16⟩ := fs p
  replace f5 := f5 (by omega)
  replace f11 := f11 (by omega)
  intro x hx
  simp only [r2, List.mem_cons, List.not_mem_nil, or_false] at hx
  rcases hx with rfl | rfl | rfl | rfl | rfl | rfl | rfl | rfl | rfl | rfl | rfl | rfl | rfl | rfl | rfl | rfl
  · exact ⟨rfl, rfl, rfl, by show intBin .rem .u64 (t4 p) .u64 (129) = some (.int .u64 (t5 p)); rw [show intBin .rem .u64 (t4 p) .u64 (129) = if IntKind.u64 = IntKind.u64 ∧ (129) ≠ 0 then some (.int .u64 (Int.tmod (t4 p) (129))) else none from rfl, if_pos ⟨rfl, by omega⟩, Int.tmod_eq_emod_of_nonneg (by omega)]; exact congrArg (fun z => some (Value.int .u64 z)) (by omega)⟩
  · exact ⟨rfl, rfl, rfl, congrArg (fun z => some (Value.int .i64 z)) (show IntKind.i64.wrap ((t6 p) - (64)) = (t7 p) from (by have g := w_i64 (((t6 p) - (64))); omega))⟩
  · exact ⟨rfl, rfl, rfl, by show intBin .rem .u64 (t9 p) .u64 (8) = some (.int .u64 (5)); rw [show intBin .rem .u64 (t9 p) .u64 (8) = if IntKind.u64 = IntKind.u64 ∧ (8) ≠ 0 then some (.int .u64 (Int.tmod (t9 p) (8))) else none from rfl, if_pos ⟨rfl, by omega⟩, Int.tmod_eq_emod_of_nonneg (by omega)]; exact congrArg (fun z => some (Value.int .u64 z)) (by omega)⟩
  · exact ⟨rfl, rfl, rfl, by show intBin .rem .u64 (t10 p) .u64 (64) = some (.int .u64 (t11 p)); rw [show intBin .rem .u64 (t10 p) .u64 (64) = if IntKind.u64 = IntKind.u64 ∧ (64) ≠ 0 then some (.int .u64 (Int.tmod (t10 p) (64))) else none from rfl, if_pos ⟨rfl, by omega⟩, Int.tmod_eq_emod_of_nonneg (by omega)]; exact congrArg (fun z => some (Value.int .u64 z)) (by omega)⟩
  · exact ⟨rfl, rfl, rfl, congrArg (fun z => some (Value.int .i64 z)) (show IntKind.i64.wrap ((1) + (t12 p)) = (t13 p) from (by have g := w_i64 (((1) + (t12 p))); omega))⟩
  · exact ⟨rfl, rfl, rfl, congrArg (fun z => some (Value.int .i64 z)) (show IntKind.i64.wrap ((t7 p) + (t14 p)) = (t15 p) from (by have g := w_i64 (((t7 p) + (t14 p))); omega))⟩
  · exact ⟨rfl, rfl, rfl, congrArg (fun z => some (Value.bool z)) (decide_eq_false (show ¬ ((t15 p) ≥ (0)) from by omega))⟩
  · exact ⟨rfl, rfl, rfl, congrArg (fun z => some (Value.bool z)) (decide_eq_true (show ((t13 p) ≥ (1)) from by omega))⟩
  · exact ⟨rfl, rfl, rfl, congrArg (fun z => some (Value.bool z)) (decide_eq_true (show ((t13 p) ≤ (64)) from by omega))⟩
  · exact ⟨rfl, rfl, rfl, congrArg (fun z => some (Value.bool z)) (decide_eq_false (show ¬ ((t7 p) < (-64)) from by omega))⟩
  · exact ⟨rfl, rfl, rfl, congrArg (fun z => some (Value.bool z)) (decide_eq_false (show ¬ ((t7 p) > (64)) from by omega))⟩
  · exact ⟨rfl, rfl, rfl, congrArg (fun z => some (Value.bool z)) (decide_eq_false (show ¬ ((t7 p) > (t7 p)) from by omega))⟩
  · exact ⟨rfl, rfl, rfl, congrArg (fun z => some (Value.bool z)) (show ((t7 p) == (t7 p)) = true from beq_iff_eq.2 (by omega))⟩
  · exact ⟨rfl, rfl, rfl, congrArg (fun z => some (Value.int .i64 z)) (show IntKind.i64.wrap ((0) + (t7 p)) = (t7 p) from (by have g := w_i64 (((0) + (t7 p))); omega))⟩
  · exact ⟨rfl, rfl, rfl, congrArg (fun z => some (Value.bool z)) (decide_eq_true (show ((t7 p) ≥ (-131072)) from by omega))⟩
  · exact ⟨rfl, rfl, rfl, congrArg (fun z => some (Value.bool z)) (decide_eq_true (show ((t7 p) ≤ (131072)) from by omega))⟩
def re : List (Value × Value × Bool) := []
theorem hre (p : Nat → Int) (h : H p) : ∀ x ∈ re, RuleE (θ p) x := fun x hx => nomatch hx
abbrev sy (p : Nat → Int) (h : H p) : Sy := syOf (θ p) (plain p) r1 r2 re (hr1 p h) (hr2 p h) (hre p h)
end vl_lo5
namespace vl_hi5
abbrev H (p : Nat → Int) : Prop := (-9223372036854775808 ≤ p 0 ∧ p 0 ≤ 9223372036854775807) ∧ (-9223372036854775808 ≤ p 1 ∧ p 1 ≤ 9223372036854775807) ∧ (-9223372036854775808 ≤ p 2 ∧ p 2 ≤ 9223372036854775807) ∧ (-32768 ≤ p 3 ∧ p 3 ≤ 32767) ∧ ((p 1 % 18446744073709551616) % 8 = 5) ∧ (0 ≤ (p 2 % 18446744073709551616) % 129 - 64 + p 3 ∧ 1 + (p 0 % 18446744073709551616) % 64 < (p 2 % 18446744073709551616) % 129 - 64 + p 3 + 2)
def t0 (p : Nat → Int) : Int := p 0
def t1 (p : Nat → Int) : Int := p 1
def t2 (p : Nat → Int) : Int := p 2
def t3 (p : Nat → Int) : Int := p 3
def t4 (p : Nat → Int) : Int := (IntKind.u64.wrap (t2 p))
def t5 (p : Nat → Int) : Int := (Int.tmod (t4 p) 129)
def t6 (p : Nat → Int) : Int := (IntKind.i64.wrap (t5 p))
def t7 (p : Nat → Int) : Int := (IntKind.i64.wrap ((t6 p) - 64))
def t8 (p : Nat → Int) : Int := (IntKind.i32.wrap (t7 p))
def t9 (p : Nat → Int) : Int := (IntKind.u64.wrap (t1 p))
def t10 (p : Nat → Int) : Int := (IntKind.u64.wrap (t0 p))
def t11 (p : Nat → Int) : Int := (Int.tmod (t10 p) 64)
def t12 (p : Nat → Int) : Int := (IntKind.i64.wrap (t11 p))
def t13 (p : Nat → Int) : Int := (IntKind.i64.wrap (1 + (t12 p)))
def t14 (p : Nat → Int) : Int := (IntKind.i64.wrap (t3 p))
def t15 (p : Nat → Int) : Int := (IntKind.i64.wrap ((t7 p) + (t14 p)))
def t16 (p : Nat → Int) : Int := (IntKind.i64.wrap ((t15 p) + 2))
def t17 (p : Nat → Int) : Int := (IntKind.u64.wrap (t7 p))
def θ (p : Nat → Int) : Nat → Value := fun j => match j with
  | 0 => .int .i64 (t0 p)
  | 1 => .int .i64 (t1 p)
  | 2 => .int .i64 (t2 p)
  | 3 => .int .i16 (t3 p)
  | 4 => .int .u64 (t4 p)
  | 5 => .int .u64 (t5 p)
  | 6 => .int .i64 (t6 p)
  | 7 => .int .i64 (t7 p)
  | 8 => .int .i32 (t8 p)
  | 9 => .int .u64 (t9 p)
  | 10 => .int .u64 (t10 p)
  | 11 => .int .u64 (t11 p)
  | 12 => .int .i64 (t12 p)
  | 13 => .int .i64 (t13 p)
  | 14 => .int .i64 (t14 p)
  | 15 => .int .i64 (t15 p)
  | 16 => .int .i64 (t16 p)
  | 17 => .int .u64 (t17 p)
  | _ => .bool false
theorem plain (p : Nat → Int) : ∀ j, plainV (θ p j) = true := by intro j; unfold θ; split <;> rfl
theorem fs (p : Nat → Int) : (t0 p = p 0) ∧ (t1 p = p 1) ∧ (t2 p = p 2) ∧ (t3 p = p 3) ∧ (t4 p = (t2 p) % 18446744073709551616) ∧ (0 ≤ (t4 p) → t5 p = (t4 p) % 129) ∧ (-9223372036854775808 ≤ t6 p ∧ t6 p < 9223372036854775808 ∧ ((t5 p) - t6 p) % 18446744073709551616 = 0) ∧ (-9223372036854775808 ≤ t7 p ∧ t7 p < 9223372036854775808 ∧ (((t6 p) - 64) - t7 p) % 18446744073709551616 = 0) ∧ (-2147483648 ≤ t8 p ∧ t8 p < 2147483648 ∧ ((t7 p) - t8 p) % 4294967296 = 0) ∧ (t9 p = (t1 p) % 18446744073709551616) ∧ (t10 p = (t0 p) % 18446744073709551616) ∧ (0 ≤ (t10 p) → t11 p = (t10 p) % 64) ∧ (-9223372036854775808 ≤ t12 p ∧ t12 p < 9223372036854775808 ∧ ((t11 p) - t12 p) % 18446744073709551616 = 0) ∧ (-9223372036854775808 ≤ t13 p ∧ t13 p < 9223372036854775808 ∧ ((1 + (t12 p)) - t13 p) % 18446744073709551616 = 0) ∧ (-9223372036854775808 ≤ t14 p ∧ t14 p < 9223372036854775808 ∧ ((t3 p) - t14 p) % 18446744073709551616 = 0) ∧ (-9223372036854775808 ≤ t15 p ∧ t15 p < 9223372036854775808 ∧ (((t7 p) + (t14 p)) - t15 p) % 18446744073709551616 = 0) ∧ (-9223372036854775808 ≤ t16 p ∧ t16 p < 9223372036854775808 ∧ (((t15 p) + 2) - t16 p) % 18446744073709551616 = 0) ∧ (t17 p = (t7 p) % 18446744073709551616) := ⟨rfl, rfl, rfl, rfl, w_u64 _, Int.tmod_eq_emod_of_nonneg, w_i64 _, w_i64 _, w_i32 _, w_u64 _, w_u64 _, Int.tmod_eq_emod_of_nonneg, w_i64 _, w_i64 _, w_i64 _, w_i64 _, w_i64 _, w_u64 _⟩
def r1 : List (U1 × Value × Value) := [((.conv .u64), (.chan (some 2)), (.chan (some 4))), ((.conv .i64), (.chan (some 5)), (.chan (some 6))), ((.conv .i32), (.chan (some 7)), (.chan (some 8))), ((.conv .u64), (.chan (some 1)), (.chan (some 9))), ((.conv .u64), (.chan (some 0)), (.chan (some 10))), ((.conv .i64), (.chan (some 11)), (.chan (some 12))), ((.conv .i64), (.chan (some 8)), (.chan (some 7))), ((.conv .i64), (.chan (some 3)), (.chan (some 14))), ((.conv .u64), (.chan (some 7)), (.chan (some 17))), ((.conv .i64), (.chan (some 17)), (.chan (some 7)))]
theorem hr1 (p : Nat → Int) (h : H p) : ∀ x ∈ r1, Rule1 (θ p) x := by
  obtain ⟨⟨a0, b0⟩, ⟨a1, b1⟩, ⟨a2, b2⟩, ⟨a3, b3⟩, hc0, hc1⟩ := h
  obtain ⟨f0, f1, f2, f3, f4, f5, f6, f7, f8, f9, f10, f11, f12, f13, f14, f15, f16, f17⟩ := fs p
  replace f5 := f5 (by omega)
  replace f11 := f11 (by omega)
  intro x hx
  simp only [r1, List.mem_cons, List.not_mem_nil, or_false] at hx
  rcases hx with rfl | rfl | rfl | rfl | rfl | rfl | rfl | rfl | rfl | rfl
  · exact ⟨rfl, rfl, congrArg (fun z => some (Value.int .u64 z)) (show IntKind.u64.wrap (t2 p) = (t4 p) from ((w_u64 _).trans (by omega)))⟩
  · exact ⟨rfl, rfl, congrArg (fun z => some (Value.int .i64 z)) (show IntKind.i64.wrap (t5 p) = (t6 p) from (by have g := w_i64 ((t5 p)); omega))⟩
  · exact ⟨rfl, rfl, congrArg (fun z => some (Value.int .i32 z)) (show IntKind.i32.wrap (t7 p) = (t8 p) from (by have g := w_i32 ((t7 p)); omega))⟩
  · exact ⟨rfl, rfl, congrArg (fun z => some (Value.int .u64 z)) (show IntKind.u64.wrap (t1 p) = (t9 p) from ((w_u64 _).trans (by omega)))⟩
  · exact ⟨rfl, rfl, congrArg (fun z => some (Value.int .u64 z)) (show IntKind.u64.wrap (t0 p) = (t10 p) from ((w_u64 _).trans (by omega)))⟩
  · exact ⟨rfl, rfl, congrArg (fun z => some (Value.int .i64 z)) (show IntKind.i64.wrap (t11 p) = (t12 p) from (by have g := w_i64 ((t11 p)); omega))⟩
  · exact ⟨rfl, rfl, congrArg (fun z => some (Value.int .i64 z)) (show IntKind.i64.wrap (t8 p) = (t7 p) from (by have g := w_i64 ((t8 p)); omega))⟩
  · exact ⟨rfl, rfl, congrArg (fun z => some (Value.int .i64 z)) (show IntKind.i64.wrap (t3 p) = (t14 p) from (by have g := w_i64 ((t3 p)); omega))⟩
  · exact ⟨rfl, rfl, congrArg (fun z => some (Value.int .u64 z)) (show IntKind.u64.wrap (t7 p) = (t17 p) from ((w_u64 _).trans (by omega)))⟩
  · exact ⟨rfl, rfl, congrArg (fun z => some (Value.int .i64 z)) (show IntKind.i64.wrap (t17 p) = (t7 p) from (by have g := w_i64 ((t17 p)); omega))⟩
def r2 : List (U2 × Value × Value × Value) := [((.bin .rem), (.chan (some 4)), (.int .u64 129), (.chan (some 5))), ((.bin .sub), (.chan (some 6)), (.int .i64 64), (.chan (some 7))), ((.bin .rem), (.chan (some 9)), (.int .u64 8), (.int .u64 5)), ((.bin .rem), (.chan (some 10)), (.int .u64 64), (.chan (some 11))), ((.bin .add), (.int .i64 1), (.chan (some 12)), (.chan (some 13))), ((.bin .add), (.chan (some 7)), (.chan (some 14)), (.chan (some 15))), ((.bin .geq), (.chan (some 15)), (.int .i64 0), (.bool true)), ((.bin .add), (.chan (some 15)), (.int .i64 2), (.chan (some 16))), ((.bin .leq), (.chan (some 16)), (.chan (some 13)), (.bool false)), ((.bin .geq), (.chan (some 13)), (.int .i64 1), (.bool true)), ((.bin .leq), (.chan (some 13)), (.int .i64 64), (.bool true)), ((.bin .lss), (.chan (some 7)), (.int .i64 (-64)), (.bool false)), ((.bin .gtr), (.chan (some 7)), (.int .i64 64), (.bool false)), ((.bin .gtr), (.chan (some 7)), (.chan (some 7)), (.bool false)), ((.bin .eql), (.chan (some 7)), (.chan (some 7)), (.bool true)), ((.bin .add), (.int .i64 0), (.chan (some 7)), (.chan (some 7))), ((.bin .geq), (.chan (some 7)), (.int .i64 (-131072)), (.bool true)), ((.bin .leq), (.chan (some 7)), (.int .i64 131072), (.bool true))]
theorem hr2 (p : Nat → Int) (h : H p) : ∀ x ∈ r2, Rule2 (θ p) x := by
  obtain ⟨⟨a0, b0⟩, ⟨a1, b1⟩, ⟨a2, b2⟩, ⟨a3, b3⟩, hc0, hc1⟩ := h
  obtain ⟨f0, f1, f2, f3, f4, f5, f6, f7, f8, f9, f10, f11, f12, f13, f14, f15, f16, f17⟩ := fs p
  replace f5 := f5 (by omega)
  replace f11 := f11 (by omega)
  intro x hx
  simp only [r2, List.mem_cons, List.not_mem_nil, or_false] at hx
  rcases hx with rfl | rfl | rfl | rfl | rfl | rfl | rfl | rfl | rfl | rfl | rfl | rfl | rfl | rfl | rfl | rfl | rfl | rfl
  · exact ⟨rfl, rfl, rfl, by show intBin .rem .u64 (t4 p) .u64 (129) = some (.int .u64 (t5 p)); rw [show intBin .rem .u64 (t4 p) .u64 (129) = if IntKind.u64 = IntKind.u64 ∧ (129) ≠ 0 then some (.int .u64 (Int.tmod (t4 p) (129))) else none from rfl, if_pos ⟨rfl, by omega⟩, Int.tmod_eq_emod_of_nonneg (by omega)]; exact congrArg (fun z => some (Value.int .u64 z)) (by omega)⟩
  · exact ⟨rfl, rfl, rfl, congrArg (fun z => some (Value.int .i64 z)) (show IntKind.i64.wrap ((t6 p) - (64)) = (t7 p) from (by have g := w_i64 (((t6 p) - (64))); omega))⟩
  · exact ⟨rfl, rfl, rfl, by show intBin .rem .u64 (t9 p) .u64 (8) = some (.int .u64 (5)); rw [show intBin .rem .u64 (t9 p) .u64 (8) = if IntKind.u64 = IntKind.u64 ∧ (8) ≠ 0 then some (.int .u64 (Int.tmod (t9 p) (8))) else none from rfl, if_pos ⟨rfl, by omega⟩, Int.tmod_eq_emod_of_nonneg (by omega)]; exact congrArg (fun z => some (Value.int .u64 z)) (by omega)⟩
  · exact ⟨rfl, rfl, rfl, by show intBin .rem .u64 (t10 p) .u64 (64) = some (.int .u64 (t11 p)); rw [show intBin .rem .u64 (t10 p) .u64 (64) = if IntKind.u64 = IntKind.u64 ∧ (64) ≠ 0 then some (.int .u64 (Int.tmod (t10 p) (64))) else none from rfl, if_pos ⟨rfl, by omega⟩, Int.tmod_eq_emod_of_nonneg (by omega)]; exact congrArg (fun z => some (Value.int .u64 z)) (by omega)⟩
  · exact ⟨rfl, rfl, rfl, congrArg (fun z => some (Value.int .i64 z)) (show IntKind.i64.wrap ((1) + (t12 p)) = (t13 p) from (by have g := w_i64 (((1) + (t12 p))); omega))⟩
  · exact ⟨rfl, rfl, rfl, congrArg (fun z => some (Value.int .i64 z)) (show IntKind.i64.wrap ((t7 p) + (t14 p)) = (t15 p) from (by have g := w_i64 (((t7 p) + (t14 p))); omega))⟩
  · exact ⟨rfl, rfl, rfl, congrArg (fun z => some (Value.bool z)) (decide_eq_true (show ((t15 p) ≥ (0)) from by omega))⟩
  · exact ⟨rfl, rfl, rfl, congrArg (fun z => some (Value.int .i64 z)) (show IntKind.i64.wrap ((t15 p) + (2)) = (t16 p) from (by have g := w_i64 (((t15 p) + (2))); omega))⟩
  · exact ⟨rfl, rfl, rfl, congrArg (fun z => some (Value.bool z)) (decide_eq_false (show ¬ ((t16 p) ≤ (t13 p)) from by omega))⟩
  · exact ⟨rfl, rfl, rfl, congrArg (fun z => some (Value.bool z)) (decide_eq_true (show ((t13 p) ≥ (1)) from by omega))⟩
  · exact ⟨rfl, rfl, rfl, congrArg (fun z => some (Value.bool z)) (decide_eq_true (show ((t13 p) ≤ (64)) from by omega))⟩
  · exact ⟨rfl, rfl, rfl, congrArg (fun z => some (Value.bool z)) (decide_eq_false (show ¬ ((t7 p) < (-64)) from by omega))⟩
  · exact ⟨rfl, rfl, rfl, congrArg (fun z => some (Value.bool z)) (decide_eq_false (show ¬ ((t7 p) > (64)) from by omega))⟩
  · exact ⟨rfl, rfl, rfl, congrArg (fun z => some (Value.bool z)) (decide_eq_false (show ¬ ((t7 p) > (t7 p)) from by omega))⟩
  · exact ⟨rfl, rfl, rfl, congrArg (fun z => some (Value.bool z)) (show ((t7 p) == (t7 p)) = true from beq_iff_eq.2 (by omega))⟩
  · exact ⟨rfl, rfl, rfl, congrArg (fun z => some (Value.int .i64 z)) (show IntKind.i64.wrap ((0) + (t7 p)) = (t7 p) from (by have g := w_i64 (((0) + (t7 p))); omega))⟩
  · exact ⟨rfl, rfl, rfl, congrArg (fun z => some (Value.bool z)) (decide_eq_true (show ((t7 p) ≥ (-131072)) from by omega))⟩
  · exact ⟨rfl, rfl, rfl, congrArg (fun z => some (Value.bool z)) (decide_eq_true (show ((t7 p) ≤ (131072)) from by omega))⟩
def re : List (Value × Value × Bool) := []
theorem hre (p : Nat → Int) (h : H p) : ∀ x ∈ re, RuleE (θ p) x := fun x hx => nomatch hx
abbrev sy (p : Nat → Int) (h : H p) : Sy := syOf (θ p) (plain p) r1 r2 re (hr1 p h) (hr2 p h) (hre p h)
end vl_hi5
namespace vl_in6
abbrev H (p : Nat → Int) : Prop := (-9223372036854775808 ≤ p 0 ∧ p 0 ≤ 9223372036854775807) ∧ (-9223372036854775808 ≤ p 1 ∧ p 1 ≤ 9223372036854775807) ∧ (-9223372036854775808 ≤ p 2 ∧ p 2 ≤ 9223372036854775807) ∧ (-32768 ≤ p 3 ∧ p 3 ≤ 32767) ∧ ((p 1 % 18446744073709551616) % 8 = 6) ∧ (0 ≤ (p 2 % 18446744073709551616) % 129 - 64 + p 3 ∧ (p 2 % 18446744073709551616) % 129 - 64 + p 3 + 1 ≤ 1 + (p 0 % 18446744073709551616) % 64)
def t0 (p : Nat → Int) : Int := p 0
def t1 (p : Nat → Int) : Int := p 1
def t2 (p : Nat → Int) : Int := p 2
def t3 (p : Nat → Int) : Int := p 3
def t4 (p : Nat → Int) : Int := (IntKind.u64.wrap (t2 p))
def t5 (p : Nat → Int) : Int := (Int.tmod (t4 p) 129)
def t6 (p : Nat → Int) : Int := (IntKind.i64.wrap (t5 p))
def t7 (p : Nat → Int) : Int := (IntKind.i64.wrap ((t6 p) - 64))
def t8 (p : Nat → Int) : Int := (IntKind.i32.wrap (t7 p))
def t9 (p : Nat → Int) : Int := (IntKind.u64.wrap (t1 p))
def t10 (p : Nat → Int) : Int := (IntKind.u64.wrap (t0 p))
def t11 (p : Nat → Int) : Int := (Int.tmod (t10 p) 64)
def t12 (p : Nat → Int) : Int := (IntKind.i64.wrap (t11 p))
def t13 (p : Nat → Int) : Int := (IntKind.i64.wrap (1 + (t12 p)))
def t14 (p : Nat → Int) : Int := (IntKind.i64.wrap (t3 p))
def t15 (p : Nat → Int) : Int := (IntKind.i64.wrap ((t7 p) + (t14 p)))
def t16 (p : Nat → Int) : Int := (IntKind.i64.wrap ((t15 p) + 1))
def t17 (p : Nat → Int) : Int := (IntKind.u64.wrap (t7 p))
def θ (p : Nat → Int) : Nat → Value := fun j => match j with
  | 0 => .int .i64 (t0 p)
  | 1 => .int .i64 (t1 p)
  | 2 => .int .i64 (t2 p)
  | 3 => .int .i16 (t3 p)
  | 4 => .int .u64 (t4 p)
  | 5 => .int .u64 (t5 p)
  | 6 => .int .i64 (t6 p)
  | 7 => .int .i64 (t7 p)
  | 8 => .int .i32 (t8 p)
  | 9 => .int .u64 (t9 p)
  | 10 => .int .u64 (t10 p)
  | 11 => .int .u64 (t11 p)
  | 12 => .int .i64 (t12 p)
  | 13 => .int .i64 (t13 p)
  | 14 => .int .i64 (t14 p)
  | 15 => .int .i64 (t15 p)
  | 16 => .int .i64 (t16 p)
  | 17 => .int .u64 (t17 p)
  | _ => .bool false
theorem plain (p : Nat → Int) : ∀ j, plainV (θ p j) = true := by intro j; unfold θ; split <;> rfl
theorem fs (p : Nat → Int) : (t0 p = p 0) ∧ (t1 p = p 1) ∧ (t2 p = p 2) ∧ (t3 p = p 3) ∧ (t4 p = (t2 p) % 18446744073709551616) ∧ (0 ≤ (t4 p) → t5 p = (t4 p) % 129) ∧ (-9223372036854775808 ≤ t6 p ∧ t6 p < 9223372036854775808 ∧ ((t5 p) - t6 p) % 18446744073709551616 = 0) ∧ (-9223372036854775808 ≤ t7 p ∧ t7 p < 9223372036854775808 ∧ (((t6 p) - 64) - t7 p) % 18446744073709551616 = 0) ∧ (-2147483648 ≤ t8 p ∧ t8 p < 2147483648 ∧ ((t7 p) - t8 p) % 4294967296 = 0) ∧ (t9 p = (t1 p) % 18446744073709551616) ∧ (t10 p = (t0 p) % 18446744073709551616) ∧ (0 ≤ (t10 p) → t11 p = (t10 p) % 64) ∧ (-9223372036854775808 ≤ t12 p ∧ t12 p < 9223372036854775808 ∧ ((t11 p) - t12 p) % 18446744073709551616 = 0) ∧ (-9223372036854775808 ≤ t13 p ∧ t13 p < 9223372036854775808 ∧ ((1 + (t12 p)) - t13 p) % 18446744073709551616 = 0) ∧ (-9223372036854775808 ≤ t14 p ∧ t14 p < 9223372036854775808 ∧ ((t3 p) - t14 p) % 18446744073709551616 = 0) ∧ (-9223372036854775808 ≤ t15 p ∧ t15 p < 9223372036854775808 ∧ (((t7 p) + (t14 p)) - t15 p) % 18446744073709551616 = 0) ∧ (-9223372036854775808 ≤ t16 p ∧ t16 p < 9223372036854775808 ∧ (((t15 p) + 1) - t16 p) % 18446744073709551616 = 0) ∧ (t17 p = (t7 p) % 18446744073709551616) := ⟨rfl, rfl, rfl, rfl, w_u64 _, Int.tmod_eq_emod_of_nonneg, w_i64 _, w_i64 _, w_i32 _, w_u64 _, w_u64 _, Int.tmod_eq_emod_of_nonneg, w_i64 _, w_i64 _, w_i64 _, w_i64 _, w_i64 _, w_u64 _⟩
def r1 : List (U1 × Value × Value) := [((.conv .u64), (.chan (some 2)), (.chan (some 4))), ((.conv .i64), (.chan (some 5)), (.chan (some 6))), ((.conv .i32), (.chan (some 7)), (.chan (some 8))), ((.conv .u64), (.chan (some 1)), (.chan (some 9))), ((.conv .u64), (.chan (some 0)), (.chan (some 10))), ((.conv .i64), (.chan (some 11)), (.chan (some 12))), ((.conv .i64), (.chan (some 8)), (.chan (some 7))), ((.conv .i64), (.chan (some 3)), (.chan (some 14))), ((.conv .u64), (.chan (some 7)), (.chan (some 17))), ((.conv .i64), (.chan (some 17)), (.chan (some 7)))]
theorem hr1 (p : Nat → Int) (h : H p) : ∀ x ∈ r1, Rule1 (θ p) x := by
  obtain ⟨⟨a0, b0⟩, ⟨a1, b1⟩, ⟨a2, b2⟩, ⟨a3, b3⟩, hc0, hc1⟩ := h
  obtain ⟨f0, f1, f2, f3, f4, f5, f6, f7, f8, f9, f10, f11, f12, f13, f14, f15, f16, f17⟩ := fs p
  replace f5 := f5 (by omega)
  replace f11 := f11 (by omega)
  intro x hx
  simp only [r1, List.mem_cons, List.not_mem_nil, or_false] at hx
  rcases hx with rfl | rfl | rfl | rfl | rfl | rfl | rfl | rfl | rfl | rfl
  · exact ⟨rfl, rfl, congrArg (fun z => some (Value.int .u64 z)) (show IntKind.u64.wrap (t2 p) = (t4 p) from ((w_u64 _).trans (by omega)))⟩
  · exact ⟨rfl, rfl, congrArg (fun z => some (Value.int .i64 z)) (show IntKind.i64.wrap (t5 p) = (t6 p) from (by have g := w_i64 ((t5 p)); omega))⟩
  · exact ⟨rfl, rfl, congrArg (fun z => some (Value.int .i32 z)) (show IntKind.i32.wrap (t7 p) = (t8 p) from (by have g := w_i32 ((t7 p)); omega))⟩
  · exact ⟨rfl, rfl, congrArg (fun z => some (Value.int .u64 z)) (show IntKind.u64.wrap (t1 p) = (t9 p) from ((w_u64 _).trans (by omega)))⟩
  · exact ⟨rfl, rfl, congrArg (fun z => some (Value.int .u64 z)) (show IntKind.u64.wrap (t0 p) = (t10 p) from ((w_u64 _).trans (by omega)))⟩
  · exact ⟨rfl, rfl, congrArg (fun z => some (Value.int .i64 z)) (show IntKind.i64.wrap (t11 p) = (t12 p) from (by have g := w_i64 ((t11 p)); omega))⟩
  · exact ⟨rfl, rfl, congrArg (fun z => some (Value.int .i64 z)) (show IntKind.i64.wrap (t8 p) = (t7 p) from (by have g := w_i64 ((t8 p)); omega))⟩
  · exact ⟨rfl, rfl, congrArg (fun z => some (Value.int .i64 z)) (show IntKind.i64.wrap (t3 p) = (t14 p) from (by have g := w_i64 ((t3 p)); omega))⟩
  · exact ⟨rfl, rfl, congrArg (fun z => some (Value.int .u64 z)) (show IntKind.u64.wrap (t7 p) = (t17 p) from ((w_u64 _).trans (by omega)))⟩
  · exact ⟨rfl, rfl, congrArg (fun z => some (Value.int .i64 z)) (show IntKind.i64.wrap (t17 p) = (t7 p) from (by have g := w_i64 ((t17 p)); omega))⟩
def r2 : List (U2 × Value × Value × Value) := [((.bin .rem), (.chan (some 4)), (.int .u64 129), (.chan (some 5))), ((.bin .sub), (.chan (some 6)), (.int .i64 64), (.chan (some 7))), ((.bin .rem), (.chan (some 9)), (.int .u64 8), (.int .u64 6)), ((.bin .rem), (.chan (some 10)), (.int .u64 64), (.chan (some 11))), ((.bin .add), (.int .i64 1), (.chan (some 12)), (.chan (some 13))), ((.bin .add), (.chan (some 7)), (.chan (some 14)), (.chan (some 15))), ((.bin .geq), (.chan (some 15)), (.int .i64 0), (.bool true)), ((.bin .add), (.chan (some 15)), (.int .i64 1), (.chan (some 16))), ((.bin .leq), (.chan (some 16)), (.chan (some 13)), (.bool true)), ((.bin .geq), (.chan (some 13)), (.int .i64 1), (.bool true)), ((.bin .leq), (.chan (some 13)), (.int .i64 64), (.bool true)), ((.bin .lss), (.chan (some 7)), (.int .i64 (-64)), (.bool false)), ((.bin .gtr), (.chan (some 7)), (.int .i64 64), (.bool false)), ((.bin .gtr), (.chan (some 7)), (.chan (some 7)), (.bool false)), ((.bin .eql), (.chan (some 7)), (.chan (some 7)), (.bool true)), ((.bin .add), (.int .i64 0), (.chan (some 7)), (.chan (some 7))), ((.bin .geq), (.chan (some 7)), (.int .i64 (-131072)), (.bool true)), ((.bin .leq), (.chan (some 7)), (.int .i64 131072), (.bool true))]
theorem hr2 (p : Nat → Int) (h : H p) : ∀ x ∈ r2, Rule2 (θ p) x := by
  obtain ⟨⟨a0, b0⟩, ⟨a1, b1⟩, ⟨a2, b2⟩, ⟨a3, b3⟩, hc0, hc1⟩ := h
  obtain ⟨f0, f1, f2, f3, f4, f5, f6, f7, f8, f9, f10, f11, f12, f13, f14, f15, f16, f17⟩ := fs p
  replace f5 := f5 (by omega)
  replace f11 := f11 (by omega)
  intro x hx
  simp only [r2, List.mem_cons, List.not_mem_nil, or_false] at hx
  rcases hx with rfl | rfl | rfl | rfl | rfl | rfl | rfl | rfl | rfl | rfl | rfl | rfl | rfl | rfl | rfl | rfl | rfl | rfl
  · exact ⟨rfl, rfl, rfl, by show intBin .rem .u64 (t4 p) .u64 (129) = some (.int .u64 (t5 p)); rw [show intBin .rem .u64 (t4 p) .u64 (129) = if IntKind.u64 = IntKind.u64 ∧ (129) ≠ 0 then some (.int .u64 (Int.tmod (t4 p) (129))) else none from rfl, if_pos ⟨rfl, by omega⟩, Int.tmod_eq_emod_of_nonneg (by omega)]; exact congrArg (fun z => some (Value.int .u64 z)) (by omega)⟩
  · exact ⟨rfl, rfl, rfl, congrArg (fun z => some (Value.int .i64 z)) (show IntKind.i64.wrap ((t6 p) - (64)) = (t7 p) from (by have g := w_i64 (((t6 p) - (64))); omega))⟩
  · exact ⟨rfl, rfl, rfl, by show intBin .rem .u64 (t9 p) .u64 (8) = some (.int .u64 (6)); rw [show intBin .rem .u64 (t9 p) .u64 (8) = if IntKind.u64 = IntKind.u64 ∧ (8) ≠ 0 then some (.int .u64 (Int.tmod (t9 p) (8))) else none from rfl, if_pos ⟨rfl, by omega⟩, Int.tmod_eq_emod_of_nonneg (by omega)]; exact congrArg (fun z => some (Value.int .u64 z)) (by omega)⟩
  · exact ⟨rfl, rfl, rfl, by show intBin .rem .u64 (t10 p) .u64 (64) = some (.int .u64 (t11 p)); rw [show intBin .rem .u64 (t10 p) .u64 (64) = if IntKind.u64 = IntKind.u64 ∧ (64) ≠ 0 then some (.int .u64 (Int.tmod (t10 p) (64))) else none from rfl, if_pos ⟨rfl, by omega⟩, Int.tmod_eq_emod_of_nonneg (by omega)]; exact congrArg (fun z => some (Value.int .u64 z)) (by omega)⟩
  · exact ⟨rfl, rfl, rfl, congrArg (fun z => some (Value.int .i64 z)) (show IntKind.i64.wrap ((1) + (t12 p)) = (t13 p) from (by have g := w_i64 (((1) + (t12 p))); omega))⟩
  · exact ⟨rfl, rfl, rfl, congrArg (fun z => some (Value.int .i64 z)) (show IntKind.i64.wrap ((t7 p) + (t14 p)) = (t15 p) from (by have g := w_i64 (((t7 p) + (t14 p))); omega))⟩
  · exact ⟨rfl, rfl, rfl, congrArg (fun z => some (Value.bool z)) (decide_eq_true (show ((t15 p) ≥ (0)) from by omega))⟩
  · exact ⟨rfl, rfl, rfl, congrArg (fun z => some (Value.int .i64 z)) (show IntKind.i64.wrap ((t15 p) + (1)) = (t16 p) from (by have g := w_i64 (((t15 p) + (1))); omega))⟩
  · exact ⟨rfl, rfl, rfl, congrArg (fun z => some (Value.bool z)) (decide_eq_true (show ((t16 p) ≤ (t13 p)) from by omega))⟩
  · exact ⟨rfl, rfl, rfl, congrArg (fun z => some (Value.bool z)) (decide_eq_true (show ((t13 p) ≥ (1)) from by omega))⟩
  · exact ⟨rfl, rfl, rfl, congrArg (fun z => some (Value.bool z)) (decide_eq_true (show ((t13 p) ≤ (64)) from by omega))⟩
  · exact ⟨rfl, rfl, rfl, congrArg (fun z => some (Value.bool z)) (decide_eq_false (show ¬ ((t7 p) < (-64)) from by omega))⟩
  · exact ⟨rfl, rfl, rfl, congrArg (fun z => some (Value.bool z)) (decide_eq_false (show ¬ ((t7 p) > (64)) from by omega))⟩
  · exact ⟨rfl, rfl, rfl, congrArg (fun z => some (Value.bool z)) (decide_eq_false (show ¬ ((t7 p) > (t7 p)) from by omega))⟩
  · exact ⟨rfl, rfl, rfl, congrArg (fun z => some (Value.bool z)) (show ((t7 p) == (t7 p)) = true from beq_iff_eq.2 (by omega))⟩
  · exact ⟨rfl, rfl, rfl, congrArg (fun z => some (Value.int .i64 z)) (show IntKind.i64.wrap ((0) + (t7 p)) = (t7 p) from (by have g := w_i64 (((0) + (t7 p))); omega))⟩
  · exact ⟨rfl, rfl, rfl, congrArg (fun z => some (Value.bool z)) (decide_eq_true (show ((t7 p) ≥ (-131072)) from by omega))⟩
  · exact ⟨rfl, rfl, rfl, congrArg (fun z => some (Value.bool z)) (decide_eq_true (show ((t7 p) ≤ (131072)) from by omega))⟩
def re : List (Value × Value × Bool) := []
theorem hre (p : Nat → Int) (h : H p) : ∀ x ∈ re, RuleE (θ p) x := fun x hx => nomatch hx
abbrev sy (p : Nat → Int) (h : H p) : Sy := syOf (θ p) (plain p) r1 r2 re (hr1 p h) (hr2 p h) (hre p h)
end vl_in6
namespace vl_lo6
abbrev H (p : Nat → Int) : Prop := (-9223372036854775808 ≤ p 0 ∧ p 0 ≤ 9223372036854775807) ∧ (-9223372036854775808 ≤ p 1 ∧ p 1 ≤ 9223372036854775807) ∧ (-9223372036854775808 ≤ p 2 ∧ p 2 ≤ 9223372036854775807) ∧ (-32768 ≤ p 3 ∧ p 3 ≤ 32767) ∧ ((p 1 % 18446744073709551616) % 8 = 6) ∧ ((p 2 % 18446744073709551616) % 129 - 64 + p 3 < 0)
def t0 (p : Nat → Int) : Int := p 0
def t1 (p : Nat → Int) : Int := p 1
def t2 (p : Nat → Int) : Int := p 2
def t3 (p : Nat → Int) : Int := p 3
def t4 (p : Nat → Int) : Int := (IntKind.u64.wrap (t2 p))
def t5 (p : Nat → Int) : Int := (Int.tmod (t4 p) 129)
def t6 (p : Nat → Int) : Int := (IntKind.i64.wrap (t5 p))
def t7 (p : Nat → Int) : Int := (IntKind.i64.wrap ((t6 p) - 64))
def t8 (p : Nat → Int) : Int := (IntKind.i32.wrap (t7 p))
def t9 (p : Nat → Int) : Int := (IntKind.u64.wrap (t1 p))
def t10 (p : Nat → Int) : Int := (IntKind.u64.wrap (t0 p))
def t11 (p : Nat → Int) : Int := (Int.tmod (t10 p) 64)
def t12 (p : Nat → Int) : Int := (IntKind.i64.wrap (t11 p))
def t13 (p : Nat → Int) : Int := (IntKind.i64.wrap (1 + (t12 p)))
def t14 (p : Nat → Int) : Int := (IntKind.i64.wrap (t3 p))
def t15 (p : Nat → Int) : Int := (IntKind.i64.wrap ((t7 p) + (t14 p)))
def t16 (p : Nat → Int) : Int := (IntKind.u64.wrap (t7 p))
def θ (p : Nat → Int) : Nat → Value := fun j => match j with
  | 0 => .int .i64 (t0 p)
  | 1 => .int .i64 (t1 p)
  | 2 => .int .i64 (t2 p)
  | 3 => .int .i16 (t3 p)
  | 4 => .int .u64 (t4 p)
  | 5 => .int .u64 (t5 p)
  | 6 => .int .i64 (t6 p)
  | 7 => .int .i64 (t7 p)
  | 8 => .int .i32 (t8 p)
  | 9 => .int .u64 (t9 p)
  | 10 => .int .u64 (t10 p)
  | 11 => .int .u64 (t11 p)
  | 12 => .int .i64 (t12 p)
  | 13 => .int .i64 (t13 p)
  | 14 => .int .i64 (t14 p)
  | 15 => .int .i64 (t15 p)
  | 16 => .int .u64 (t16 p)
  | _ => .bool false
theorem plain (p : Nat → Int) : ∀ j, plainV (θ p j) = true := by intro j; unfold θ; split <;> rfl
theorem fs (p : Nat → Int) : (t0 p = p 0) ∧ (t1 p = p 1) ∧ (t2 p = p 2) ∧ (t3 p = p 3) ∧ (t4 p = (t2 p) % 18446744073709551616) ∧ (0 ≤ (t4 p) → t5 p = (t4 p) % 129) ∧ (-9223372036854775808 ≤ t6 p ∧ t6 p < 9223372036854775808 ∧ ((t5 p) - t6 p) % 18446744073709551616 = 0) ∧ (-9223372036854775808 ≤ t7 p ∧ t7 p < 9223372036854775808 ∧ (((t6 p) - 64) - t7 p) % 18446744073709551616 = 0) ∧ (-2147483648 ≤ t8 p ∧ t8 p < 2147483648 ∧ ((t7 p) - t8 p) % 4294967296 = 0) ∧ (t9 p = (t1 p) % 18446744073709551616) ∧ (t10 p = (t0 p) % 18446744073709551616) ∧ (0 ≤ (t10 p) → t11 p = (t10 p) % 64) ∧ (-9223372036854775808 ≤ t12 p ∧ t12 p < 9223372036854775808 ∧ ((t11 p) - t12 p) % 18446744073709551616 = 0) ∧ (-9223372036854775808 ≤ t13 p ∧ t13 p < 9223372036854775808 ∧ ((1 + (t12 p)) - t13 p) % 18446744073709551616 = 0) ∧ (-9223372036854775808 ≤ t14 p ∧ t14 p < 9223372036854775808 ∧ ((t3 p) - t14 p) % 18446744073709551616 = 0) ∧ (-9223372036854775808 ≤ t15 p ∧ t15 p < 9223372036854775808 ∧ (((t7 p) + (t14 p)) - t15 p) % 18446744073709551616 = 0) ∧ (t16 p = (t7 p) % 18446744073709551616) := ⟨rfl, rfl, rfl, rfl, w_u64 _, Int.tmod_eq_emod_of_nonneg, w_i64 _, w_i64 _, w_i32 _, w_u64 _, w_u64 _, Int.tmod_eq_emod_of_nonneg, w_i64 _, w_i64 _, w_i64 _, w_i64 _, w_u64 _⟩
def r1 : List (U1 × Value × Value) := [((.conv .u64), (.chan (some 2)), (.chan (some 4))), ((.conv .i64), (.chan (some 5)), (.chan (some 6))), ((.conv .i32), (.chan (some 7)), (.chan (some 8))), ((.conv .u64), (.chan (some 1)), (.chan (some 9))), ((.conv .u64), (.chan (some 0)), (.chan (some 10))), ((.conv .i64), (.chan (some 11)), (.chan (some 12))), ((.conv .i64), (.chan (some 8)), (.chan (some 7))), ((.conv .i64), (.chan (some 3)), (.chan (some 14))), ((.conv .u64), (.chan (some 7)), (.chan (some 16))), ((.conv .i64), (.chan (some 16)), (.chan (some 7)))]
theorem hr1 (p : Nat → Int) (h : H p) : ∀ x ∈ r1, Rule1 (θ p) x := by
  obtain ⟨⟨a0, b0⟩, ⟨a1, b1⟩, ⟨a2, b2⟩, ⟨a3, b3⟩, hc0, hc1⟩ := h
  obtain ⟨f0, f1, f2, f3, f4, f5, f6, f7, f8, f9, f10, f11, f12, f13, f14, f15, f16⟩ := fs p
  replace f5 := f5 (by omega)
  replace f11 := f11 (by omega)
  intro x hx
  simp only [r1, List.mem_cons, List.not_mem_nil, or_false] at hx
  rcases hx with rfl | rfl | rfl | rfl | rfl | rfl | rfl | rfl | rfl | rfl
  · exact ⟨rfl, rfl, congrArg (fun z => some (Value.int .u64 z)) (show IntKind.u64.wrap (t2 p) = (t4 p) from ((w_u64 _).trans (by omega)))⟩
  · exact ⟨rfl, rfl, congrArg (fun z => some (Value.int .i64 z)) (show IntKind.i64.wrap (t5 p) = (t6 p) from (by have g := w_i64 ((t5 p)); omega))⟩
  · exact ⟨rfl, rfl, congrArg (fun z => some (Value.int .i32 z)) (show IntKind.i32.wrap (t7 p) = (t8 p) from (by have g := w_i32 ((t7 p)); omega))⟩
  · exact ⟨rfl, rfl, congrArg (fun z => some (Value.int .u64 z)) (show IntKind.u64.wrap (t1 p) = (t9 p) from ((w_u64 _).trans (by omega)))⟩
  · exact ⟨rfl, rfl, congrArg (fun z => some (Value.int .u64 z)) (show IntKind.u64.wrap (t0 p) = (t10 p) from ((w_u64 _).trans (by omega)))⟩
  · exact ⟨rfl, rfl, congrArg (fun z => some (Value.int .i64 z)) (show IntKind.i64.wrap (t11 p) = (t12 p) from (by have g := w_i64 ((t11 p)); omega))⟩
  · exact ⟨rfl, rfl, congrArg (fun z => some (Value.int .i64 z)) (show IntKind.i64.wrap (t8 p) = (t7 p) from (by have g := w_i64 ((t8 p)); omega))⟩
  · exact ⟨rfl, rfl, congrArg (fun z => some (Value.int .i64 z)) (show IntKind.i64.wrap (t3 p) = (t14 p) from (by have g := w_i64 ((t3 p)); omega))⟩
  · exact ⟨rfl, rfl, congrArg (fun z => some (Value.int .u64 z)) (show IntKind.u64.wrap (t7 p) = (t16 p) from ((w_u64 _).trans (by omega)))⟩
  · exact ⟨rfl, rfl, congrArg (fun z => some (Value.int .i64 z)) (show IntKind.i64.wrap (t16 p) = (t7 p) from (by have g := w_i64 ((t16 p)); omega))⟩
def r2 : List (U2 × Value × Value × Value) := [((.bin .rem), (.chan (some 4)), (.int .u64 129), (.chan (some 5))), ((.bin .sub), (.chan (some 6)), (.int .i64 64), (.chan (some 7))), ((.bin .rem), (.chan (some 9)), (.int .u64 8), (.int .u64 6)), ((.bin .rem), (.chan (some 10)), (.int .u64 64), (.chan (some 11))), ((.bin .add), (.int .i64 1), (.chan (some 12)), (.chan (some 13))), ((.bin .add), (.chan (some 7)), (.chan (some 14)), (.chan (some 15))), ((.bin .geq), (.chan (some 15)), (.int .i64 0), (.bool false)), ((.bin .geq), (.chan (some 13)), (.int .i64 1), (.bool true)), ((.bin .leq), (.chan (some 13)), (.int .i64 64), (.bool true)), ((.bin .lss), (.chan (some 7)), (.int .i64 (-64)), (.bool false)), ((.bin .gtr), (.chan (some 7)), (.int .i64 64), (.bool false)), ((.bin .gtr), (.chan (some 7)), (.chan (some 7)), (.bool false)), ((.bin .eql), (.chan (some 7)), (.chan (some 7)), (.bool true)), ((.bin .add), (.int .i64 0), (.chan (some 7)), (.chan (some 7))), ((.bin .geq), (.chan (some 7)), (.int .i64 (-131072)), (.bool true)), ((.bin .leq), (.chan (some 7)), (.int .i64 131072), (.bool true))]
theorem hr2 (p : Nat → Int) (h : H p) : ∀ x ∈ r2, Rule2 (θ p) x := by
  obtain ⟨⟨a0, b0⟩, ⟨a1, b1⟩, ⟨a2, b2⟩, ⟨a3, b3⟩, hc0, hc1⟩ := h
  obtain ⟨f0, f1, f2, f3, f4, f5, f6, f7, f8, f9, f10, f11, f12, f13, f14, f15, f16⟩ := fs p
  replace f5 := f5 (by omega)
  replace f11 := f11 (by omega)
  intro x hx
  simp only [r2, List.mem_cons, List.not_mem_nil, or_false] at hx
  rcases hx with rfl | rfl | rfl | rfl | rfl | rfl | rfl | rfl | rfl | rfl | rfl | rfl | rfl | rfl | rfl | rfl
  · exact ⟨rfl, rfl, rfl, by show intBin .rem .u64 (t4 p) .u64 (129) = some (.int .u64 (t5 p)); rw [show intBin .rem .u64 (t4 p) .u64 (129) = if IntKind.u64 = IntKind.u64 ∧ (129) ≠ 0 then some (.int .u64 (Int.tmod (t4 p) (129))) else none from rfl, if_pos ⟨rfl, by omega⟩, Int.tmod_eq_emod_of_nonneg (by omega)]; exact congrArg (fun z => some (Value.int .u64 z)) (by omega)⟩
  · exact ⟨rfl, rfl, rfl, congrArg (fun z => some (Value.int .i64 z)) (show IntKind.i64.wrap ((t6 p) - (64)) = (t7 p) from (by have g := w_i64 (((t6 p) - (64))); omega))⟩
  · exact ⟨rfl, rfl, rfl, by show intBin .rem .u64 (t9 p) .u64 (8) = some (.int .u64 (6)); rw [show intBin .rem .u64 (t9 p) .u64 (8) = if IntKind.u64 = IntKind.u64 ∧ (8) ≠ 0 then some (.int .u64 (Int.tmod (t9 p) (8))) else none from rfl, if_pos ⟨rfl, by omega⟩, Int.tmod_eq_emod_of_nonneg (by omega)]; exact congrArg (fun z => some (Value.int .u64 z)) (by omega)⟩
  · exact ⟨rfl, rfl, rfl, by show intBin .rem .u64 (t10 p) .u64 (64) = some (.int .u64 (t11 p)); rw [show intBin .rem .u64 (t10 p) .u64 (64) = if IntKind.u64 = IntKind.u64 ∧ (64) ≠ 0 then some (.int .u64 (Int.tmod (t10 p) (64))) else none from rfl, if_pos ⟨rfl, by omega⟩, Int.tmod_eq_emod_of_nonneg (by omega)]; exact congrArg (fun z => some (Value.int .u64 z)) (by omega)⟩
  · exact ⟨rfl, rfl, rfl, congrArg (fun z => some (Value.int .i64 z)) (show IntKind.i64.wrap ((1) + (t12 p)) = (t13 p) from (by have g := w_i64 (((1) + (t12 p))); omega))⟩
  · exact ⟨rfl, rfl, rfl, congrArg (fun z => some (Value.int .i64 z)) (show IntKind.i64.wrap ((t7 p) + (t14 p)) = (t15 p) from (by have g := w_i64 (((t7 p) + (t14 p))); omega))⟩
  · exact ⟨rfl, rfl, rfl, congrArg (fun z => some (Value.bool z)) (decide_eq_false (show ¬ ((t15 p) ≥ (0)) from by omega))⟩
  · exact ⟨rfl, rfl, rfl, congrArg (fun z => some (Value.bool z)) (decide_eq_true (show ((t13 p) ≥ (1)) from by omega))⟩
  · exact ⟨rfl, rfl, rfl, congrArg (fun z => some (Value.bool z)) (decide_eq_true (show ((t13 p) ≤ (64)) from by omega))⟩
  · exact ⟨rfl, rfl, rfl, congrArg (fun z => some (Value.bool z)) (decide_eq_false (show ¬ ((t7 p) < (-64)) from by omega))⟩
  · exact ⟨rfl, rfl, rfl, congrArg (fun z => some (Value.bool z)) (decide_eq_false (show ¬ ((t7 p) > (64)) from by omega))⟩
  · exact ⟨rfl, rfl, rfl, congrArg (fun z => some (Value.bool z)) (decide_eq_false (show ¬ ((t7 p) > (t7 p)) from by omega))⟩
  · exact ⟨rfl, rfl, rfl, congrArg (fun z => some (Value.bool z)) (show ((t7 p) == (t7 p)) = true from beq_iff_eq.2 (by omega))⟩
  · exact ⟨rfl, rfl, rfl, congrArg (fun z => some (Value.int .i64 z)) (show IntKind.i64.wrap ((0) + (t7 p)) = (t7 p) from (by have g := w_i64 (((0) + (t7 p))); omega))⟩
  · exact ⟨rfl, rfl, rfl, congrArg (fun z => some (Value.bool z)) (decide_eq_true (show ((t7 p) ≥ (-131072)) from by omega))⟩
  · exact ⟨rfl, rfl, rfl, congrArg (fun z => some (Value.bool z)) (decide_eq_true (show ((t7 p) ≤ (131072)) from by omega))⟩
def re : List (Value × Value × Bool) := []
theorem hre (p : Nat → Int) (h : H p) : ∀ x ∈ re, RuleE (θ p) x := fun x hx => nomatch hx
abbrev sy (p : Nat → Int) (h : H p) : Sy := syOf (θ p) (plain p) r1 r2 re (hr1 p h) (hr2 p h) (hre p h)
end vl_lo6
namespace vl_hi6
abbrev H (p : Nat → Int) : Prop := (-9223372036854775808 ≤ p 0 ∧ p 0 ≤ 9223372036854775807) ∧ (-9223372036854775808 ≤ p 1 ∧ p 1 ≤ 9223372036854775807) ∧ (-9223372036854775808 ≤ p 2 ∧ p 2 ≤ 9223372036854775807) ∧ (-32768 ≤ p 3 ∧ p 3 ≤ 32767) ∧ ((p 1 % 18446744073709551616) % 8 = 6) ∧ (0 ≤ (p 2 % 18446744073709551616) % 129 - 64 + p 3 ∧ 1 + (p 0 % 18446744073709551616) % 64 < (p 2 % 18446744073709551616) % 129 - 64 + p 3 + 1)
def t0 (p : Nat → Int) : Int := p 0
def t1 (p : Nat → Int) : Int := p 1
def t2 (p : Nat → Int) : Int := p 2
def t3 (p : Nat → Int) : Int := p 3
def t4 (p : Nat → Int) : Int := (IntKind.u64.wrap (t2 p))
def t5 (p : Nat → Int) : Int := (Int.tmod (t4 p) 129)
def t6 (p : Nat → Int) : Int := (IntKind.i64.wrap (t5 p))
def t7 (p : Nat → Int) : Int := (IntKind.i64.wrap ((t6 p) - 64))
def t8 (p : Nat → Int) : Int := (IntKind.i32.wrap (t7 p))
def t9 (p : Nat → Int) : Int := (IntKind.u64.wrap (t1 p))
def t10 (p : Nat → Int) : Int := (IntKind.u64.wrap (t0 p))
def t11 (p : Nat → Int) : Int := (Int.tmod (t10 p) 64)
def t12 (p : Nat → Int) : Int := (IntKind.i64.wrap (t11 p))
def t13 (p : Nat → Int) : Int := (IntKind.i64.wrap (1 + (t12 p)))
def t14 (p : Nat → Int) : Int := (IntKind.i64.wrap (t3 p))
def t15 (p : Nat → Int) : Int := (IntKind.i64.wrap ((t7 p) + (t14 p)))
def t16 (p : Nat → Int) : Int := (IntKind.i64.wrap ((t15 p) + 1))
def t17 (p : Nat → Int) : Int := (IntKind.u64.wrap (t7 p))
def θ (p : Nat → Int) : Nat → Value := fun j => match j with
  | 0 => .int .i64 (t0 p)
  | 1 => .int .i64 (t1 p)
  | 2 => .int .i64 (t2 p)
  | 3 => .int .i16 (t3 p)
  | 4 => .int .u64 (t4 p)
  | 5 => .int .u64 (t5 p)
  | 6 => .int .i64 (t6 p)
  | 7 => .int .i64 (t7 p)
  | 8 => .int .i32 (t8 p)
  | 9 => .int .u64 (t9 p)
  | 10 => .int .u64 (t10 p)
  | 11 => .int .u64 (t11 p)
  | 12 => .int .i64 (t12 p)
  | 13 => .int .i64 (t13 p)
  | 14 => .int .i64 (t14 p)
  | 15 => .int .i64 (t15 p)
  | 16 => .int .i64 (t16 p)
  | 17 => .int .u64 (t17 p)
  | _ => .bool false
theorem plain (p : Nat → Int) : ∀ j, plainV (θ p j) = true := by intro j; unfold θ; split <;> rfl
theorem fs (p : Nat → Int) : (t0 p = p 0) ∧ (t1 p = p 1) ∧ (t2 p = p 2) ∧ (t3 p = p 3) ∧ (t4 p = (t2 p) % 18446744073709551616) ∧ (0 ≤ (t4 p) → t5 p = (t4 p) % 129) ∧ (-9223372036854775808 ≤ t6 p ∧ t6 p < 9223372036854775808 ∧ ((t5 p) - t6 p) % 18446744073709551616 = 0) ∧ (-9223372036854775808 ≤ t7 p ∧ t7 p < 9223372036854775808 ∧ (((t6 p) - 64) - t7 p) % 18446744073709551616 = 0) ∧ (-2147483648 ≤ t8 p ∧ t8 p < 2147483648 ∧ ((t7 p) - t8 p) % 4294967296 = 0) ∧ (t9 p = (t1 p) % 18446744073709551616) ∧ (t10 p = (t0 p) % 18446744073709551616) ∧ (0 ≤ (t10 p) → t11 p = (t10 p) % 64) ∧ (-9223372036854775808 ≤ t12 p ∧ t12 p < 9223372036854775808 ∧ ((t11 p) - t12 p) % 18446744073709551616 = 0) ∧ (-9223372036854775808 ≤ t13 p ∧ t13 p < 9223372036854775808 ∧ ((1 + (t12 p)) - t13 p) % 18446744073709551616 = 0) ∧ (-9223372036854775808 ≤ t14 p ∧ t14 p < 9223372036854775808 ∧ ((t3 p) - t14 p) % 18446744073709551616 = 0) ∧ (-9223372036854775808 ≤ t15 p ∧ t15 p < 9223372036854775808 ∧ (((t7 p) + (t14 p)) - t15 p) % 18446744073709551616 = 0) ∧ (-9223372036854775808 ≤ t16 p ∧ t16 p < 9223372036854775808 ∧ (((t15 p) + 1) - t16 p) % 18446744073709551616 = 0) ∧ (t17 p = (t7 p) % 18446744073709551616) := ⟨rfl, rfl, rfl, rfl, w_u64 _, Int.tmod_eq_emod_of_nonneg, w_i64 _, w_i64 _, w_i32 _, w_u64 _, w_u64 _, Int.tmod_eq_emod_of_nonneg, w_i64 _, w_i64 _, w_i64 _, w_i64 _, w_i64 _, w_u64 _⟩
def r1 : List (U1 × Value × Value) := [((.conv .u64), (.chan (some 2)), (.chan (some 4))), ((.conv .i64), (.chan (some 5)), (.chan (some 6))), ((.conv .i32), (.chan (some 7)), (.chan (some 8))), ((.conv .u64), (.chan (some 1)), (.chan (some 9))), ((.conv .u64), (.chan (some 0)), (.chan (some 10))), ((.conv .i64), (.chan (some 11)), (.chan (some 12))), ((.conv .i64), (.chan (some 8)), (.chan (some 7))), ((.conv .i64), (.chan (some 3)), (.chan (some 14))), ((.conv .u64), (.chan (some 7)), (.chan (some 17))), ((.conv .i64), (.chan (some 17)), (.chan (some 7)))]
theorem hr1 (p : Nat → Int) (h : H p) : ∀ x ∈ r1, Rule1 (θ p) x := by
  obtain ⟨⟨a0, b0⟩, ⟨a1, b1⟩, ⟨a2, b2⟩, ⟨a3, b3⟩, hc0, hc1⟩ := h
  obtain ⟨f0, f1, f2, f3, f4, f5, f6, f7, f8, f9, f10, f11, f12, f13, f14, f15, f16, f17⟩ := fs p
  replace f5 := f5 (by omega)
  replace f11 := f11 (by omega)
  intro x hx
  simp only [r1, List.mem_cons, List.not_mem_nil, or_false] at hx
  rcases hx with rfl | rfl | rfl | rfl | rfl | rfl | rfl | rfl | rfl | rfl
  · exact ⟨rfl, rfl, congrArg (fun z => some (Value.int .u64 z)) (show IntKind.u64.wrap (t2 p) = (t4 p) from ((w_u64 _).trans (by omega)))⟩
  · exact ⟨rfl, rfl, congrArg (fun z => some (Value.int .i64 z)) (show IntKind.i64.wrap (t5 p) = (t6 p) from (by have g := w_i64 ((t5 p)); omega))⟩
  · exact ⟨rfl, rfl, congrArg (fun z => some (Value.int .i32 z)) (show IntKind.i32.wrap (t7 p) = (t8 p) from (by have g := w_i32 ((t7 p)); omega))⟩
  · exact ⟨rfl, rfl, congrArg (fun z => some (Value.int .u64 z)) (show IntKind.u64.wrap (t1 p) = (t9 p) from ((w_u64 _).trans (by omega)))⟩
  · exact ⟨rfl, rfl, congrArg (fun z => some (Value.int .u64 z)) (show IntKind.u64.wrap (t0 p) = (t10 p) from ((w_u64 _).trans (by omega)))⟩
  · exact ⟨rfl, rfl, congrArg (fun z => some (Value.int .i64 z)) (show IntKind.i64.wrap (t11 p) = (t12 p) from (by have g := w_i64 ((t11 p)); omega))⟩
  · exact ⟨rfl, rfl, congrArg (fun z => some (Value.int .i64 z)) (show IntKind.i64.wrap (t8 p) = (t7 p) from (by have g := w_i64 ((t8 p)); omega))⟩
  · exact ⟨rfl, rfl, congrArg (fun z => some (Value.int .i64 z)) (show IntKind.i64.wrap (t3 p) = (t14 p) from (by have g := w_i64 ((t3 p)); omega))⟩
  · exact ⟨rfl, rfl, congrArg (fun z => some (Value.int .u64 z)) (show IntKind.u64.wrap (t7 p) = (t17 p) from ((w_u64 _).trans (by omega)))⟩
  · exact ⟨rfl, rfl, congrArg (fun z => some (Value.int .i64 z)) (show IntKind.i64.wrap (t17 p) = (t7 p) from (by have g := w_i64 ((t17 p)); omega))⟩
def r2 : List (U2 × Value × Value × Value) := [((.bin .rem), (.chan (some 4)), (.int .u64 129), (.chan (some 5))), ((.bin .sub), (.chan (some 6)), (.int .i64 64), (.chan (some 7))), ((.bin .rem), (.chan (some 9)), (.int .u64 8), (.int .u64 6)), ((.bin .rem), (.chan (some 10)), (.int .u64 64), (.chan (some 11))), ((.bin .add), (.int .i64 1), (.chan (some 12)), (.chan (some 13))), ((.bin .add), (.chan (some 7)), (.chan (some 14)), (.chan (some 15))), ((.bin .geq), (.chan (some 15)), (.int .i64 0), (.bool true)), ((.bin .add), (.chan (some 15)), (.int .i64 1), (.chan (some 16))), ((.bin .leq), (.chan (some 16)), (.chan (some 13)), (.bool false)), ((.bin .geq), (.chan (some 13)), (.int .i64 1), (.bool true)), ((.bin .leq), (.chan (some 13)), (.int .i64 64), (.bool true)), ((.bin .lss), (.chan (some 7)), (.int .i64 (-64)), (.bool false)), ((.bin .gtr), (.chan (some 7)), (.int .i64 64), (.bool false)), ((.bin .gtr), (.chan (some 7)), (.chan (some 7)), (.bool false)), ((.bin .eql), (.chan (some 7)), (.chan (some 7)), (.bool true)), ((.bin .add), (.int .i64 0), (.chan (some 7)), (.chan (some 7))), ((.bin .geq), (.chan (some 7)), (.int .i64 (-131072)), (.bool true)), ((.bin .leq), (.chan (some 7)), (.int .i64 131072), (.bool true))]
theorem hr2 (p : Nat → Int) (h : H p) : ∀ x ∈ r2, Rule2 (θ p) x := by
  obtain ⟨⟨a0, b0⟩, ⟨a1, b1⟩, ⟨a2, b2⟩, ⟨a3, b3⟩, hc0, hc1⟩ := h
  obtain ⟨f0, f1, f2, f3, f4, f5, f6, f7, f8, f9, f10, f11, f12, f13, f14, f15, f16, f17⟩ := fs p
  replace f5 := f5 (by omega)
  replace f11 := f11 (by omega)
  intro x hx
  simp only [r2, List.mem_cons, List.not_mem_nil, or_false] at hx
  rcases hx with rfl | rfl | rfl | rfl | rfl | rfl | rfl | rfl | rfl | rfl | rfl | rfl | rfl | rfl | rfl | rfl | rfl | rfl
  · exact ⟨rfl, rfl, rfl, by show intBin .rem .u64 (t4 p) .u64 (129) = some (.int .u64 (t5 p)); rw [show intBin .rem .u64 (t4 p) .u64 (129) = if IntKind.u64 = IntKind.u64 ∧ (129) ≠ 0 then some (.int .u64 (Int.tmod (t4 p) (129))) else none from rfl, if_pos ⟨rfl, by omega⟩, Int.tmod_eq_emod_of_nonneg (by omega)]; exact congrArg (fun z => some (Value.int .u64 z)) (by omega)⟩
  · exact ⟨rfl, rfl, rfl, congrArg (fun z => some (Value.int .i64 z)) (show IntKind.i64.wrap ((t6 p) - (64)) = (t7 p) from (by have g := w_i64 (((t6 p) - (64))); omega))⟩
  · exact ⟨rfl, rfl, rfl, by show intBin .rem .u64 (t9 p) .u64 (8) = some (.int .u64 (6)); rw [show intBin .rem .u64 (t9 p) .u64 (8) = if IntKind.u64 = IntKind.u64 ∧ (8) ≠ 0 then some (.int .u64 (Int.tmod (t9 p) (8))) else none from rfl, if_pos ⟨rfl, by omega⟩, Int.tmod_eq_emod_of_nonneg (by omega)]; exact congrArg (fun z => some (Value.int .u64 z)) (by omega)⟩
  · exact ⟨rfl, rfl, rfl, by show intBin .rem .u64 (t10 p) .u64 (64) = some (.int .u64 (t11 p)); rw [show intBin .rem .u64 (t10 p) .u64 (64) = if IntKind.u64 = IntKind.u64 ∧ (64) ≠ 0 then some (.int .u64 (Int.tmod (t10 p) (64))) else none from rfl, if_pos ⟨rfl, by omega⟩, Int.tmod_eq_emod_of_nonneg (by omega)]; exact congrArg (fun z => some (Value.int .u64 z)) (by omega)⟩
  · exact ⟨rfl, rfl, rfl, congrArg (fun z => some (Value.int .i64 z)) (show IntKind.i64.wrap ((1) + (t12 p)) = (t13 p) from (by have g := w_i64 (((1) + (t12 p))); omega))⟩
  · exact ⟨rfl, rfl, rfl, congrArg (fun z => some (Value.int .i64 z)) (show IntKind.i64.wrap ((t7 p) + (t14 p)) = (t15 p) from (by have g := w_i64 (((t7 p) + (t14 p))); omega))⟩
  · exact ⟨rfl, rfl, rfl, congrArg (fun z => some (Value.bool z)) (decide_eq_true (show ((t15 p) ≥ (0)) from by omega))⟩
  · exact ⟨rfl, rfl, rfl, congrArg (fun z => some (Value.int .i64 z)) (show IntKind.i64.wrap ((t15 p) + (1)) = (t16 p) from (by have g := w_i64 (((t15 p) + (1))); omega))⟩
  · exact ⟨rfl, rfl, rfl, congrArg (fun z => some (Value.bool z)) (decide_eq_false (show ¬ ((t16 p) ≤ (t13 p)) from by omega))⟩
  · exact ⟨rfl, rfl, rfl, congrArg (fun z => some (Value.bool z)) (decide_eq_true (show ((t13 p) ≥ (1)) from by omega))⟩
  · exact ⟨rfl, rfl, rfl, congrArg (fun z => some (Value.bool z)) (decide_eq_true (show ((t13 p) ≤ (64)) from by omega))⟩
  · exact ⟨rfl, rfl, rfl, congrArg (fun z => some (Value.bool z)) (decide_eq_false (show ¬ ((t7 p) < (-64)) from by omega))⟩
  · exact ⟨rfl, rfl, rfl, congrArg (fun z => some (Value.bool z)) (decide_eq_false (show ¬ ((t7 p) > (64)) from by omega))⟩
  · exact ⟨rfl, rfl, rfl, congrArg (fun z => some (Value.bool z)) (decide_eq_false (show ¬ ((t7 p) > (t7 p)) from by omega))⟩
  · exact ⟨rfl, rfl, rfl, congrArg (fun z => some (Value.bool z)) (show ((t7 p) == (t7 p)) = true from beq_iff_eq.2 (by omega))⟩
  · exact ⟨rfl, rfl, rfl, congrArg (fun z => some (Value.int .i64 z)) (show IntKind.i64.wrap ((0) + (t7 p)) = (t7 p) from (by have g := w_i64 (((0) + (t7 p))); omega))⟩
  · exact ⟨rfl, rfl, rfl, congrArg (fun z => some (Value.bool z)) (decide_eq_true (show ((t7 p) ≥ (-131072)) from by omega))⟩
  · exact ⟨rfl, rfl, rfl, congrArg (fun z => some (Value.bool z)) (decide_eq_true (show ((t7 p) ≤ (131072)) from by omega))⟩
def re : List (Value × Value × Bool) := []
theorem hre (p : Nat → Int) (h : H p) : ∀ x ∈ re, RuleE (θ p) x := fun x hx => nomatch hx
abbrev sy (p : Nat → Int) (h : H p) : Sy := syOf (θ p) (plain p) r1 r2 re (hr1 p h) (hr2 p h) (hre p h)
end vl_hi6
namespace vl_in7
abbrev H (p : Nat → Int) : Prop := (-9223372036854775808 ≤ p 0 ∧ p 0 ≤ 9223372036854775807) ∧ (-9223372036854775808 ≤ p 1 ∧ p 1 ≤ 9223372036854775807) ∧ (-9223372036854775808 ≤ p 2 ∧ p 2 ≤ 9223372036854775807) ∧ (-32768 ≤ p 3 ∧ p 3 ≤ 32767) ∧ ((p 1 % 18446744073709551616) % 8 = 7) ∧ (0 ≤ (p 2 % 18446744073709551616) % 129 - 64 + p 3 ∧ (p 2 % 18446744073709551616) % 129 - 64 + p 3 + 8 ≤ 1 + (p 0 % 18446744073709551616) % 64)
def t0 (p : Nat → Int) : Int := p 0
def t1 (p : Nat → Int) : Int := p 1
def t2 (p : Nat → Int) : Int := p 2
def t3 (p : Nat → Int) : Int := p 3
def t4 (p : Nat → Int) : Int := (IntKind.u64.wrap (t2 p))
def t5 (p : Nat → Int) : Int := (Int.tmod (t4 p) 129)
def t6 (p : Nat → Int) : Int := (IntKind.i64.wrap (t5 p))
def t7 (p : Nat → Int) : Int := (IntKind.i64.wrap ((t6 p) - 64))
def t8 (p : Nat → Int) : Int := (IntKind.i32.wrap (t7 p))
def t9 (p : Nat → Int) : Int := (IntKind.u64.wrap (t1 p))
def t10 (p : Nat → Int) : Int := (IntKind.u64.wrap (t0 p))
def t11 (p : Nat → Int) : Int := (Int.tmod (t10 p) 64)
def t12 (p : Nat → Int) : Int := (IntKind.i64.wrap (t11 p))
def t13 (p : Nat → Int) : Int := (IntKind.i64.wrap (1 + (t12 p)))
def t14 (p : Nat → Int) : Int := (IntKind.i64.wrap (t3 p))
def t15 (p : Nat → Int) : Int := (IntKind.i64.wrap ((t7 p) + (t14 p)))
def t16 (p : Nat → Int) : Int := (IntKind.i64.wrap ((t15 p) + 8))
def t17 (p : Nat → Int) : Int := (IntKind.u64.wrap (t7 p))
def θ (p : Nat → Int) : Nat → Value := fun j => match j with
  | 0 => .int .i64 (t0 p)
  | 1 => .int .i64 (t1 p)
  | 2 => .int .i64 (t2 p)
  | 3 => .int .i16 (t3 p)
  | 4 => .int .u64 (t4 p)
  | 5 => .int .u64 (t5 p)
  | 6 => .int .i64 (t6 p)
  | 7 => .int .i64 (t7 p)
  | 8 => .int .i32 (t8 p)
  | 9 => .int .u64 (t9 p)
  | 10 => .int .u64 (t10 p)
  | 11 => .int .u64 (t11 p)
  | 12 => .int .i64 (t12 p)
  | 13 => .int .i64 (t13 p)
  | 14 => .int .i64 (t14 p)
  | 15 => .int .i64 (t15 p)
  | 16 => .int .i64 (t16 p)
  | 17 => .int .u64 (t17 p)
  | _ => .bool false
theorem plain (p : Nat → Int) : ∀ j, plainV (θ p j) = true := by intro j; unfold θ; split <;> rfl
theorem fs (p : Nat → Int) : (t0 p = p 0) ∧ (t1 p = p 1) ∧ (t2 p = p 2) ∧ (t3 p = p 3) ∧ (t4 p = (t2 p) % 18446744073709551616) ∧ (0 ≤ (t4 p) → t5 p = (t4 p) % 129) ∧ (-9223372036854775808 ≤ t6 p ∧ t6 p < 9223372036854775808 ∧ ((t5 p) - t6 p) % 18446744073709551616 = 0) ∧ (-9223372036854775808 ≤ t7 p ∧ t7 p < 9223372036854775808 ∧ (((t6 p) - 64) - t7 p) % 18446744073709551616 = 0) ∧ (-2147483648 ≤ t8 p ∧ t8 p < 2147483648 ∧ ((t7 p) - t8 p) % 4294967296 = 0) ∧ (t9 p = (t1 p) % 18446744073709551616) ∧ (t10 p = (t0 p) % 18446744073709551616) ∧ (0 ≤ (t10 p) → t11 p = (t10 p) % 64) ∧ (-9223372036854775808 ≤ t12 p ∧ t12 p < 9223372036854775808 ∧ ((t11 p) - t12 p) % 18446744073709551616 = 0) ∧ (-9223372036854775808 ≤ t13 p ∧ t13 p < 9223372036854775808 ∧ ((1 + (t12 p)) - t13 p) % 18446744073709551616 = 0) ∧ (-9223372036854775808 ≤ t14 p ∧ t14 p < 9223372036854775808 ∧ ((t3 p) - t14 p) % 18446744073709551616 = 0) ∧ (-9223372036854775808 ≤ t15 p ∧ t15 p < 9223372036854775808 ∧ (((t7 p) + (t14 p)) - t15 p) % 18446744073709551616 = 0) ∧ (-9223372036854775808 ≤ t16 p ∧ t16 p < 9223372036854775808 ∧ (((t15 p) + 8) - t16 p) % 18446744073709551616 = 0) ∧ (t17 p = (t7 p) % 18446744073709551616) := ⟨rfl, rfl, rfl, rfl, w_u64 _, Int.tmod_eq_emod_of_nonneg, w_i64 _, w_i64 _, w_i32 _, w_u64 _, w_u64 _, Int.tmod_eq_emod_of_nonneg, w_i64 _, w_i64 _, w_i64 _, w_i64 _, w_i64 _, w_u64 _⟩
def r1 : List (U1 × Value × Value) := [((.conv .u64), (.chan (some 2)), (.chan (some 4))), ((.conv .i64), (.chan (some 5)), (.chan (some 6))), ((.conv .i32), (.chan (some 7)), (.chan (some 8))), ((.conv .u64), (.chan (some 1)), (.chan (some 9))), ((.conv .u64), (.chan (some 0)), (.chan (some 10))), ((.conv .i64), (.chan (some 11)), (.chan (some 12))), ((.conv .i64), (.chan (some 8)), (.chan (some 7))), ((.conv .i64), (.chan (some 3)), (.chan (some 14))), ((.conv .u64), (.chan (some 7)), (.chan (some 17))), ((.conv .i64), (.chan (some 17)), (.chan (some 7)))]
theorem hr1 (p : Nat → Int) (h : H p) : ∀ x ∈ r1, Rule1 (θ p) x := by
  obtain ⟨⟨a0, b0⟩, ⟨a1, b1⟩, ⟨a2, b2⟩, ⟨a3, b3⟩, hc0, hc1⟩ := h
  obtain ⟨f0, f1, f2, f3, f4, f5, f6, f7, f8, f9, f10, f11, f12, f13, f14, f15, f16, f17⟩ := fs p
  replace f5 := f5 (by omega)
  replace f11 := f11 (by omega)
  intro x hx
  simp only [r1, List.mem_cons, List.not_mem_nil, or_false] at hx
  rcases hx with rfl | rfl | rfl | rfl | rfl | rfl | rfl | rfl | rfl | rfl
  · exact ⟨rfl, rfl, congrArg (fun z => some (Value.int .u64 z)) (show IntKind.u64.wrap (t2 p) = (t4 p) from ((w_u64 _).trans (by omega)))⟩
  · exact ⟨rfl, rfl, congrArg (fun z => some (Value.int .i64 z)) (show IntKind.i64.wrap (t5 p) = (t6 p) from (by have g := w_i64 ((t5 p)); omega))⟩
  · exact ⟨rfl, rfl, congrArg (fun z => some (Value.int .i32 z)) (show IntKind.i32.wrap (t7 p) = (t8 p) from (by have g := w_i32 ((t7 p)); omega))⟩
  · exact ⟨rfl, rfl, congrArg (fun z => some (Value.int .u64 z)) (show IntKind.u64.wrap (t1 p) = (t9 p) from ((w_u64 _).trans (by omega)))⟩
  · exact ⟨rfl, rfl, congrArg (fun z => some (Value.int .u64 z)) (show IntKind.u64.wrap (t0 p) = (t10 p) from ((w_u64 _).trans (by omega)))⟩
  · exact ⟨rfl, rfl, congrArg (fun z => some (Value.int .i64 z)) (show IntKind.i64.wrap (t11 p) = (t12 p) from (by have g := w_i64 ((t11 p)); omega))⟩
  · exact ⟨rfl, rfl, congrArg (fun z => some (Value.int .i64 z)) (show IntKind.i64.wrap (t8 p) = (t7 p) from (by have g := w_i64 ((t8 p)); omega))⟩
  · exact ⟨rfl, rfl, congrArg (fun z => some (Value.int .i64 z)) (show IntKind.i64.wrap (t3 p) = (t14 p) from (by have g := w_i64 ((t3 p)); omega))⟩
  · exact ⟨rfl, rfl, congrArg (fun z => some (Value.int .u64 z)) (show IntKind.u64.wrap (t7 p) = (t17 p) from ((w_u64 _).trans (by omega)))⟩
  · exact ⟨rfl, rfl, congrArg (fun z => some (Value.int .i64 z)) (show IntKind.i64.wrap (t17 p) = (t7 p) from (by have g := w_i64 ((t17 p)); omega))⟩
def r2 : List (U2 × Value × Value × Value) := [((.bin .rem), (.chan (some 4)), (.int .u64 129), (.chan (some 5))), ((.bin .sub), (.chan (some 6)), (.int .i64 64), (.chan (some 7))), ((.bin .rem), (.chan (some 9)), (.int .u64 8), (.int .u64 7)), ((.bin .rem), (.chan (some 10)), (.int .u64 64), (.chan (some 11))), ((.bin .add), (.int .i64 1), (.chan (some 12)), (.chan (some 13))), ((.bin .add), (.chan (some 7)), (.chan (some 14)), (.chan (some 15))), ((.bin .geq), (.chan (some 15)), (.int .i64 0), (.bool true)), ((.bin .add), (.chan (some 15)), (.int .i64 8), (.chan (some 16))), ((.bin .leq), (.chan (some 16)), (.chan (some 13)), (.bool true)), ((.bin .geq), (.chan (some 13)), (.int .i64 1), (.bool true)), ((.bin .leq), (.chan (some 13)), (.int .i64 64), (.bool true)), ((.bin .lss), (.chan (some 7)), (.int .i64 (-64)), (.bool false)), ((.bin .gtr), (.chan (some 7)), (.int .i64 64), (.bool false)), ((.bin .gtr), (.chan (some 7)), (.chan (some 7)), (.bool false)), ((.bin .eql), (.chan (some 7)), (.chan (some 7)), (.bool true)), ((.bin .add), (.int .i64 0), (.chan (some 7)), (.chan (some 7))), ((.bin .geq), (.chan (some 7)), (.int .i64 (-131072)), (.bool true)), ((.bin .leq), (.chan (some 7)), (.int .i64 131072), (.bool true))]
theorem hr2 (p : Nat → Int) (h : H p) : ∀ x ∈ r2, Rule2 (θ p) x := by
  obtain ⟨⟨a0, b0⟩, ⟨a1, b1⟩, ⟨a2, b2⟩, ⟨a3, b3⟩, hc0, hc1⟩ := h
  obtain ⟨f0, f1, f2, f3, f4, f5, f6, f7, f8, f9, f10, f11, f12, f13, f14, f15, f16, f17⟩ := fs p
  replace f5 := f5 (by omega)
  replace f11 := f11 (by omega)
  intro x hx
  simp only [r2, List.mem_cons, List.not_mem_nil, or_false] at hx
  rcases hx with rfl | rfl | rfl | rfl | rfl | rfl | rfl | rfl | rfl | rfl | rfl | rfl | rfl | rfl | rfl | rfl | rfl | rfl
  · exact ⟨rfl, rfl, rfl, by show intBin .rem .u64 (t4 p) .u64 (129) = some (.int .u64 (t5 p)); rw [show intBin .rem .u64 (t4 p) .u64 (129) = if IntKind.u64 = IntKind.u64 ∧ (129) ≠ 0 then some (.int .u64 (Int.tmod (t4 p) (129))) else none from rfl, if_pos ⟨rfl, by omega⟩, Int.tmod_eq_emod_of_nonneg (by omega)]; exact congrArg (fun z => some (Value.int .u64 z)) (by omega)⟩
  · exact ⟨rfl, rfl, rfl, congrArg (fun z => some (Value.int .i64 z)) (show IntKind.i64.wrap ((t6 p) - (64)) = (t7 p) from (by have g := w_i64 (((t6 p) - (64))); omega))⟩
  · exact ⟨rfl, rfl, rfl, by show intBin .rem .u64 (t9 p) .u64 (8) = some (.int .u64 (7)); rw [show intBin .rem .u64 (t9 p) .u64 (8) = if IntKind.u64 = IntKind.u64 ∧ (8) ≠ 0 then some (.int .u64 (Int.tmod (t9 p) (8))) else none from rfl, if_pos ⟨rfl, by omega⟩, Int.tmod_eq_emod_of_nonneg (by omega)]; exact congrArg (fun z => some (Value.int .u64 z)) (by omega)⟩
  · exact ⟨rfl, rfl, rfl, by show intBin .rem .u64 (t10 p) .u64 (64) = some (.int .u64 (t11 p)); rw [show intBin .rem .u64 (t10 p) .u64 (64) = if IntKind.u64 = IntKind.u64 ∧ (64) ≠ 0 then some (.int .u64 (Int.tmod (t10 p) (64))) else none from rfl, if_pos ⟨rfl, by omega⟩, Int.tmod_eq_emod_of_nonneg (by omega)]; exact congrArg (fun z => some (Value.int .u64 z)) (by omega)⟩
  · exact ⟨rfl, rfl, rfl, congrArg (fun z => some (Value.int .i64 z)) (show IntKind.i64.wrap ((1) + (t12 p)) = (t13 p) from (by have g := w_i64 (((1) + (t12 p))); omega))⟩
  · exact ⟨rfl, rfl, rfl, congrArg (fun z => some (Value.int .i64 z)) (show IntKind.i64.wrap ((t7 p) + (t14 p)) = (t15 p) from (by have g := w_i64 (((t7 p) + (t14 p))); omega))⟩
  · exact ⟨rfl, rfl, rfl, congrArg (fun z => some (Value.bool z)) (decide_eq_true (show ((t15 p) ≥ (0)) from by omega))⟩
  · exact ⟨rfl, rfl, rfl, congrArg (fun z => some (Value.int .i64 z)) (show IntKind.i64.wrap ((t15 p) + (8)) = (t16 p) from (by have g := w_i64 (((t15 p) + (8))); omega))⟩
  · exact ⟨rfl, rfl, rfl, congrArg (fun z => some (Value.bool z)) (decide_eq_true (show ((t16 p) ≤ (t13 p)) from by omega))⟩
  · exact ⟨rfl, rfl, rfl, congrArg (fun z => some (Value.bool z)) (decide_eq_true (show ((t13 p) ≥ (1)) from by omega))⟩
  · exact ⟨rfl, rfl, rfl, congrArg (fun z => some (Value.bool z)) (decide_eq_true (show ((t13 p) ≤ (64)) from by omega))⟩
  · exact ⟨rfl, rfl, rfl, congrArg (fun z => some (Value.bool z)) (decide_eq_false (show ¬ ((t7 p) < (-64)) from by omega))⟩
  · exact ⟨rfl, rfl, rfl, congrArg (fun z => some (Value.bool z)) (decide_eq_false (show ¬ ((t7 p) > (64)) from by omega))⟩
  · exact ⟨rfl, rfl, rfl, congrArg (fun z => some (Value.bool z)) (decide_eq_false (show ¬ ((t7 p) > (t7 p)) from by omega))⟩
  · exact ⟨rfl, rfl, rfl, congrArg (fun z => some (Value.bool z)) (show ((t7 p) == (t7 p)) = true from beq_iff_eq.2 (by omega))⟩
  · exact ⟨rfl, rfl, rfl, congrArg (fun z => some (Value.int .i64 z)) (show IntKind.i64.wrap ((0) + (t7 p)) = (t7 p) from (by have g := w_i64 (((0) + (t7 p))); omega))⟩
  · exact ⟨rfl, rfl, rfl, congrArg (fun z => some (Value.bool z)) (decide_eq_true (show ((t7 p) ≥ (-131072)) from by omega))⟩
  · exact ⟨rfl, rfl, rfl, congrArg (fun z => some (Value.bool z)) (decide_eq_true (show ((t7 p) ≤ (131072)) from by omega))⟩
def re : List (Value × Value × Bool) := []
theorem hre (p : Nat → Int) (h : H p) : ∀ x ∈ re, RuleE (θ p) x := fun x hx => nomatch hx
abbrev sy (p : Nat → Int) (h : H p) : Sy := syOf (θ p) (plain p) r1 r2 re (hr1 p h) (hr2 p h) (hre p h)
end vl_in7
namespace vl_lo7
abbrev H (p : Nat → Int) : Prop := (-9223372036854775808 ≤ p 0 ∧ p 0 ≤ 9223372036854775807) ∧ (-9223372036854775808 ≤ p 1 ∧ p 1 ≤ 9223372036854775807) ∧ (-9223372036854775808 ≤ p 2 ∧ p 2 ≤ 9223372036854775807) ∧ (-32768 ≤ p 3 ∧ p 3 ≤ 32767) ∧ ((p 1 % 18446744073709551616) % 8 = 7) ∧ ((p 2 % 18446744073709551616) % 129 - 64 + p 3 < 0)
def t0 (p : Nat → Int) : Int := p 0
def t1 (p : Nat → Int) : Int := p 1
def t2 (p : Nat → Int) : Int := p 2
def t3 (p : Nat → Int) : Int := p 3
def t4 (p : Nat → Int) : Int := (IntKind.u64.wrap (t2 p))
def t5 (p : Nat → Int) : Int := (Int.tmod (t4 p) 129)
def t6 (p : Nat → Int) : Int := (IntKind.i64.wrap (t5 p))
def t7 (p : Nat → Int) : Int := (IntKind.i64.wrap ((t6 p) - 64))
def t8 (p : Nat → Int) : Int := (IntKind.i32.wrap (t7 p))
def t9 (p : Nat → Int) : Int := (IntKind.u64.wrap (t1 p))
def t10 (p : Nat → Int) : Int := (IntKind.u64.wrap (t0 p))
def t11 (p : Nat → Int) : Int := (Int.tmod (t10 p) 64)
def t12 (p : Nat → Int) : Int := (IntKind.i64.wrap (t11 p))
def t13 (p : Nat → Int) : Int := (IntKind.i64.wrap (1 + (t12 p)))
def t14 (p : Nat → Int) : Int := (IntKind.i64.wrap (t3 p))
def t15 (p : Nat → Int) : Int := (IntKind.i64.wrap ((t7 p) + (t14 p)))
def t16 (p : Nat → Int) : Int := (IntKind.u64.wrap (t7 p))
def θ (p : Nat → Int) : Nat → Value := fun j => match j with
  | 0 => .int .i64 (t0 p)
  | 1 => .int .i64 (t1 p)
  | 2 => .int .i64 (t2 p)
  | 3 => .int .i16 (t3 p)
  | 4 => .int .u64 (t4 p)
  | 5 => .int .u64 (t5 p)
  | 6 => .int .i64 (t6 p)
  | 7 => .int .i64 (t7 p)
  | 8 => .int .i32 (t8 p)
  | 9 => .int .u64 (t9 p)
  | 10 => .int .u64 (t10 p)
  | 11 => .int .u64 (t11 p)
  | 12 => .int .i64 (t12 p)
  | 13 => .int .i64 (t13 p)
  | 14 => .int .i64 (t14 p)
  | 15 => .int .i64 (t15 p)
  | 16 => .int .u64 (t16 p)
  | _ => .bool false
theorem plain (p : Nat → Int) : ∀ j, plainV (θ p j) = true := by intro j; unfold θ; split <;> rfl
theorem fs (p : Nat → Int) : (t0 p = p 0) ∧ (t1 p = p 1) ∧ (t2 p = p 2) ∧ (t3 p = p 3) ∧ (t4 p = (t2 p) % 18446744073709551616) ∧ (0 ≤ (t4 p) → t5 p = (t4 p) % 129) ∧ (-9223372036854775808 ≤ t6 p ∧ t6 p < 9223372036854775808 ∧ ((t5 p) - t6 p) % 18446744073709551616 = 0) ∧ (-9223372036854775808 ≤ t7 p ∧ t7 p < 9223372036854775808 ∧ (((t6 p) - 64) - t7 p) % 18446744073709551616 = 0) ∧ (-2147483648 ≤ t8 p ∧ t8 p < 2147483648 ∧ ((t7 p) - t8 p) % 4294967296 = 0) ∧ (t9 p = (t1 p) % 18446744073709551616) ∧ (t10 p = (t0 p) % 18446744073709551616) ∧ (0 ≤ (t10 p) → t11 p = (t10 p) % 64) ∧ (-9223372036854775808 ≤ t12 p ∧ t12 p < 9223372036854775808 ∧ ((t11 p) - t12 p) % 18446744073709551616 = 0) ∧ (-9223372036854775808 ≤ t13 p ∧ t13 p < 9223372036854775808 ∧ ((1 + (t12 p)) - t13 p) % 18446744073709551616 = 0) ∧ (-9223372036854775808 ≤ t14 p ∧ t14 p < 9223372036854775808 ∧ ((t3 p) - t14 p) % 18446744073709551616 = 0) ∧ (-9223372036854775808 ≤ t15 p ∧ t15 p < 9223372036854775808 ∧ (((t7 p) + (t14 p)) - t15 p) % 18446744073709551616 = 0) ∧ (t16 p = (t7 p) % 18446744073709551616) := ⟨rfl, rfl, rfl, rfl, w_u64 _, Int.tmod_eq_emod_of_nonneg, w_i64 _, w_i64 _, w_i32 _, w_u64 _, w_u64 _, Int.tmod_eq_emod_of_nonneg, w_i64 _, w_i64 _, w_i64 _, w_i64 _, w_u64 _⟩
def r1 : List (U1 × Value × Value) := [((.conv .u64), (.chan (some 2)), (.chan (some 4))), ((.conv .i64), (.chan (some 5)), (.chan (some 6))), ((.conv .i32), (.chan (some 7)), (.chan (some 8))), ((.conv .u64), (.chan (some 1)), (.chan (some 9))), ((.conv .u64), (.chan (some 0)), (.chan (some 10))), ((.conv .i64), (.chan (some 11)), (.chan (some 12))), ((.conv .i64), (.chan (some 8)), (.chan (some 7))), ((.conv .i64), (.chan (some 3)), (.chan (some 14))), ((.conv .u64), (.chan (some 7)), (.chan (some 16))), ((.conv .i64), (.chan (some 16)), (.chan (some 7)))]
theorem hr1 (p : Nat → Int) (h : H p) : ∀ x ∈ r1, Rule1 (θ p) x := by
  obtain ⟨⟨a0, b0⟩, ⟨a1, b1⟩, ⟨a2, b2⟩, ⟨a3, b3⟩, hc0, hc1⟩ := h
  obtain ⟨f0, f1, f2, f3, f4, f5, f6, f7, f8, f9, f10, f11, f12, f13, f14, f15, f16⟩ := fs p
  replace f5 := f5 (by omega)
  replace f11 := f11 (by omega)
  intro x hx
  simp only [r1, List.mem_cons, List.not_mem_nil, or_false] at hx
  rcases hx with rfl | rfl | rfl | rfl | rfl | rfl | rfl | rfl | rfl | rfl
  · exact ⟨rfl, rfl, congrArg (fun z => some (Value.int .u64 z)) (show IntKind.u64.wrap (t2 p) = (t4 p) from ((w_u64 _).trans (by omega)))⟩
  · exact ⟨rfl, rfl, congrArg (fun z => some (Value.int .i64 z)) (show IntKind.i64.wrap (t5 p) = (t6 p) from (by have g := w_i64 ((t5 p)); omega))⟩
  · exact ⟨rfl, rfl, congrArg (fun z => some (Value.int .i32 z)) (show IntKind.i32.wrap (t7 p) = (t8 p) from (by have g := w_i32 ((t7 p)); omega))⟩
  · exact ⟨rfl, rfl, congrArg (fun z => some (Value.int .u64 z)) (show IntKind.u64.wrap (t1 p) = (t9 p) from ((w_u64 _).trans (by omega)))⟩
  · exact ⟨rfl, rfl, congrArg (fun z => some (Value.int .u64 z)) (show IntKind.u64.wrap (t0 p) = (t10 p) from ((w_u64 _).trans (by omega)))⟩
  · exact ⟨rfl, rfl, congrArg (fun z => some (Value.int .i64 z)) (show IntKind.i64.wrap (t11 p) = (t12 p) from (by have g := w_i64 ((t11 p)); omega))⟩
  · exact ⟨rfl, rfl, congrArg (fun z => some (Value.int .i64 z)) (show IntKind.i64.wrap (t8 p) = (t7 p) from (by have g := w_i64 ((t8 p)); omega))⟩
  · exact ⟨rfl, rfl, congrArg (fun z => some (Value.int .i64 z)) (show IntKind.i64.wrap (t3 p) = (t14 p) from (by have g := w_i64 ((t3 p)); omega))⟩
  · exact ⟨rfl, rfl, congrArg (fun z => some (Value.int .u64 z)) (show IntKind.u64.wrap (t7 p) = (t16 p) from ((w_u64 _).trans (by omega)))⟩
  · exact ⟨rfl, rfl, congrArg (fun z => some (Value.int .i64 z)) (show IntKind.i64.wrap (t16 p) = (t7 p) from (by have g := w_i64 ((t16 p)); omega))⟩
def r2 : List (U2 × Value × Value × Value) := [((.bin .rem), (.chan (some 4)), (.int .u64 129), (.chan (some 5))), ((.bin .sub), (.chan (some 6)), (.int .i64 64), (.chan (some 7))), ((.bin .rem), (.chan (some 9)), (.int .u64 8), (.int .u64 7)), ((.bin .rem), (.chan (some 10)), (.int .u64 64), (.chan (some 11))), ((.bin .add), (.int .i64 1), (.chan (some 12)), (.chan (some 13))), ((.bin .add), (.chan (some 7)), (.chan (some 14)), (.chan (some 15))), ((.bin .geq), (.chan (some 15)), (.int .i64 0), (.bool false)), ((.bin .geq), (.chan (some 13)), (.int .i64 1), (.bool true)), ((.bin .leq), (.chan (some 13)), (.int .i64 64), (.bool true)), ((.bin .lss), (.chan (some 7)), (.int .i64 (-64)), (.bool false)), ((.bin .gtr), (.chan (some 7)), (.int .i64 64), (.bool false)), ((.bin .gtr), (.chan (some 7)), (.chan (some 7)), (.bool false)), ((.bin .eql), (.chan (some 7)), (.chan (some 7)), (.bool true)), ((.bin .add), (.int .i64 0), (.chan (some 7)), (.chan (some 7))), ((.bin .geq), (.chan (some 7)), (.int .i64 (-131072)), (.bool true)), ((.bin .leq), (.chan (some 7)), (.int .i64 131072), (.bool true))]
theorem hr2 (p : Nat → Int) (h : H p) : ∀ x ∈ r2, Rule2 (θ p) x := by
  obtain ⟨⟨a0, b0⟩, ⟨a1, b1⟩, ⟨a2, b2⟩, ⟨a3, b3⟩, hc0, hc1⟩ := h
  obtain ⟨f0, f1, f2, f3, f4, f5, f6, f7, f8, f9, f10, f11, f12, f13, f14, f15, f16⟩ := fs p
  replace f5 := f5 (by omega)
  replace f11 := f11 (by omega)
  intro x hx
  simp only [r2, List.mem_cons, List.not_mem_nil, or_false] at hx
  rcases hx with rfl | rfl | rfl | rfl | rfl | rfl | rfl | rfl | rfl | rfl | rfl | rfl | rfl | rfl | rfl | rfl
  · exact ⟨rfl, rfl, rfl, by show intBin .rem .u64 (t4 p) .u64 (129) = some (.int .u64 (t5 p)); rw [show intBin .rem .u64 (t4 p) .u64 (129) = if IntKind.u64 = IntKind.u64 ∧ (129) ≠ 0 then some (.int .u64 (Int.tmod (t4 p) (129))) else none from rfl, if_pos ⟨rfl, by omega⟩, Int.tmod_eq_emod_of_nonneg (by omega)]; exact congrArg (fun z => some (Value.int .u64 z)) (by omega)⟩
  · exact ⟨rfl, rfl, rfl, congrArg (fun z => some (Value.int .i64 z)) (show IntKind.i64.wrap ((t6 p) - (64)) = (t7 p) from (by have g := w_i64 (((t6 p) - (64))); omega))⟩
  · exact ⟨rfl, rfl, rfl, by show intBin .rem .u64 (t9 p) .u64 (8) = some (.int .u64 (7)); rw [show intBin .rem .u64 (t9 p) .u64 (8) = if IntKind.u64 = IntKind.u64 ∧ (8) ≠ 0 then some (.int .u64 (Int.tmod (t9 p) (8))) else none from rfl, if_pos ⟨rfl, by omega⟩, Int.tmod_eq_emod_of_nonneg (by omega)]; exact congrArg (fun z => some (Value.int .u64 z)) (by omega)⟩
  · exact ⟨rfl, rfl, rfl, by show intBin .rem .u64 (t10 p) .u64 (64) = some (.int .u64 (t11 p)); rw [show intBin .rem .u64 (t10 p) .u64 (64) = if IntKind.u64 = IntKind.u64 ∧ (64) ≠ 0 then some (.int .u64 (Int.tmod (t10 p) (64))) else none from rfl, if_pos ⟨rfl, by omega⟩, Int.tmod_eq_emod_of_nonneg (by omega)]; exact congrArg (fun z => some (Value.int .u64 z)) (by omega)⟩
  · exact ⟨rfl, rfl, rfl, congrArg (fun z => some (Value.int .i64 z)) (show IntKind.i64.wrap ((1) + (t12 p)) = (t13 p) from (by have g := w_i64 (((1) + (t12 p))); omega))⟩
  · exact ⟨rfl, rfl, rfl, congrArg (fun z => some (Value.int .i64 z)) (show IntKind.i64.wrap ((t7 p) + (t14 p)) = (t15 p) from (by have g := w_i64 (((t7 p) + (t14 p))); omega))⟩
  · exact ⟨rfl, rfl, rfl, congrArg (fun z => some (Value.bool z)) (decide_eq_false (show ¬ ((t15 p) ≥ (0)) from by omega))⟩
  · exact ⟨rfl, rfl, rfl, congrArg (fun z => some (Value.bool z)) (decide_eq_true (show ((t13 p) ≥ (1)) from by omega))⟩
  · exact ⟨rfl, rfl, rfl, congrArg (fun z => some (Value.bool z)) (decide_eq_true (show ((t13 p) ≤ (64)) from by omega))⟩
  · exact ⟨rfl, rfl, rfl, congrArg (fun z => some (Value.bool z)) (decide_eq_false (show ¬ ((t7 p) < (-64)) from by omega))⟩
  · exact ⟨rfl, rfl, rfl, congrArg (fun z => some (Value.bool z)) (decide_eq_false (show ¬ ((t7 p) > (64)) from by omega))⟩
  · exact ⟨rfl, rfl, rfl, congrArg (fun z => some (Value.bool z)) (decide_eq_false (show ¬ ((t7 p) > (t7 p)) from by omega))⟩
  · exact ⟨rfl, rfl, rfl, congrArg (fun z => some (Value.bool z)) (show ((t7 p) == (t7 p)) = true from beq_iff_eq.2 (by omega))⟩
  · exact ⟨rfl, rfl, rfl, congrArg (fun z => some (Value.int .i64 z)) (show IntKind.i64.wrap ((0) + (t7 p)) = (t7 p) from (by have g := w_i64 (((0) + (t7 p))); omega))⟩
  · exact ⟨rfl, rfl, rfl, congrArg (fun z => some (Value.bool z)) (decide_eq_true (show ((t7 p) ≥ (-131072)) from by omega))⟩
  · exact ⟨rfl, rfl, rfl, congrArg (fun z => some (Value.bool z)) (decide_eq_true (show ((t7 p) ≤ (131072)) from by omega))⟩
def re : List (Value × Value × Bool) := []
theorem hre (p : Nat → Int) (h : H p) : ∀ x ∈ re, RuleE (θ p) x := fun x hx => nomatch hx
abbrev sy (p : Nat → Int) (h : H p) : Sy := syOf (θ p) (plain p) r1 r2 re (hr1 p h) (hr2 p h) (hre p h)
end vl_lo7
namespace vl_hi7
abbrev H (p : Nat → Int) : Prop := (-9223372036854775808 ≤ p 0 ∧ p 0 ≤ 9223372036854775807) ∧ (-9223372036854775808 ≤ p 1 ∧ p 1 ≤ 9223372036854775807) ∧ (-9223372036854775808 ≤ p 2 ∧ p 2 ≤ 9223372036854775807) ∧ (-32768 ≤ p 3 ∧ p 3 ≤ 32767) ∧ ((p 1 % 18446744073709551616) % 8 = 7) ∧ (0 ≤ (p 2 % 18446744073709551616) % 129 - 64 + p 3 ∧ 1 + (p 0 % 18446744073709551616) % 64 < (p 2 % 18446744073709551616) % 129 - 64 + p 3 + 8)
def t0 (p : Nat → Int) : Int := p 0
def t1 (p : Nat → Int) : Int := p 1
def t2 (p : Nat → Int) : Int := p 2
def t3 (p : Nat → Int) : Int := p 3
def t4 (p : Nat → Int) : Int := (IntKind.u64.wrap (t2 p))
def t5 (p : Nat → Int) : Int := (Int.tmod (t4 p) 129)
def t6 (p : Nat → Int) : Int := (IntKind.i64.wrap (t5 p))
def t7 (p : Nat → Int) : Int := (IntKind.i64.wrap ((t6 p) - 64))
def t8 (p : Nat → Int) : Int := (IntKind.i32.wrap (t7 p))
def t9 (p : Nat → Int) : Int := (IntKind.u64.wrap (t1 p))
def t10 (p : Nat → Int) : Int := (IntKind.u64.wrap (t0 p))
def t11 (p : Nat → Int) : Int := (Int.tmod (t10 p) 64)
def t12 (p : Nat → Int) : Int := (IntKind.i64.wrap (t11 p))
def t13 (p : Nat → Int) : Int := (IntKind.i64.wrap (1 + (t12 p)))
def t14 (p : Nat → Int) : Int := (IntKind.i64.wrap (t3 p))
def t15 (p : Nat → Int) : Int := (IntKind.i64.wrap ((t7 p) + (t14 p)))
def t16 (p : Nat → Int) : Int := (IntKind.i64.wrap ((t15 p) + 8))
def t17 (p : Nat → Int) : Int := (IntKind.u64.wrap (t7 p))
def θ (p : Nat → Int) : Nat → Value := fun j => match j with
  | 0 => .int .i64 (t0 p)
  | 1 => .int .i64 (t1 p)
  | 2 => .int .i64 (t2 p)
  | 3 => .int .i16 (t3 p)
  | 4 => .int .u64 (t4 p)
  | 5 => .int .u64 (t5 p)
  | 6 => .int .i64 (t6 p)
  | 7 => .int .i64 (t7 p)
  | 8 => .int .i32 (t8 p)
  | 9 => .int .u64 (t9 p)
  | 10 => .int .u64 (t10 p)
  | 11 => .int .u64 (t11 p)
  | 12 => .int .i64 (t12 p)
  | 13 => .int .i64 (t13 p)
  | 14 => .int .i64 (t14 p)
  | 15 => .int .i64 (t15 p)
  | 16 => .int .i64 (t16 p)
  | 17 => .int .u64 (t17 p)
  | _ => .bool false
theorem plain (p : Nat → Int) : ∀ j, plainV (θ p j) = true := by intro j; unfold θ; split <;> rfl
theorem fs (p : Nat → Int) : (t0 p = p 0) ∧ (t1 p = p 1) ∧ (t2 p = p 2) ∧ (t3 p = p 3) ∧ (t4 p = (t2 p) % 18446744073709551616) ∧ (0 ≤ (t4 p) → t5 p = (t4 p) % 129) ∧ (-9223372036854775808 ≤ t6 p ∧ t6 p < 9223372036854775808 ∧ ((t5 p) - t6 p) % 18446744073709551616 = 0) ∧ (-9223372036854775808 ≤ t7 p ∧ t7 p < 9223372036854775808 ∧ (((t6 p) - 64) - t7 p) % 18446744073709551616 = 0) ∧ (-2147483648 ≤ t8 p ∧ t8 p < 2147483648 ∧ ((t7 p) - t8 p) % 4294967296 = 0) ∧ (t9 p = (t1 p) % 18446744073709551616) ∧ (t10 p = (t0 p) % 18446744073709551616) ∧ (0 ≤ (t10 p) → t11 p = (t10 p) % 64) ∧ (-9223372036854775808 ≤ t12 p ∧ t12 p < 9223372036854775808 ∧ ((t11 p) - t12 p) % 18446744073709551616 = 0) ∧ (-9223372036854775808 ≤ t13 p ∧ t13 p < 9223372036854775808 ∧ ((1 + (t12 p)) - t13 p) % 18446744073709551616 = 0) ∧ (-9223372036854775808 ≤ t14 p ∧ t14 p < 9223372036854775808 ∧ ((t3 p) - t14 p) % 18446744073709551616 = 0) ∧ (-9223372036854775808 ≤ t15 p ∧ t15 p < 9223372036854775808 ∧ (((t7 p) + (t14 p)) - t15 p) % 18446744073709551616 = 0) ∧ (-9223372036854775808 ≤ t16 p ∧ t16 p < 9223372036854775808 ∧ (((t15 p) + 8) - t16 p) % 18446744073709551616 = 0) ∧ (t17 p = (t7 p) % 18446744073709551616) := ⟨rfl, rfl, rfl, rfl, w_u64 _, Int.tmod_eq_emod_of_nonneg, w_i64 _, w_i64 _, w_i32 _, w_u64 _, w_u64 _, Int.tmod_eq_emod_of_nonneg, w_i64 _, w_i64 _, w_i64 _, w_i64 _, w_i64 _, w_u64 _⟩
def r1 : List (U1 × Value × Value) := [((.conv .u64), (.chan (some 2)), (.chan (some 4))), ((.conv .i64), (.chan (some 5)), (.chan (some 6))), ((.conv .i32), (.chan (some 7)), (.chan (some 8))), ((.conv .u64), (.chan (some 1)), (.chan (some 9))), ((.conv .u64), (.chan (some 0)), (.chan (some 10))), ((.conv .i64), (.chan (some 11)), (.chan (some 12))), ((.conv .i64), (.chan (some 8)), (.chan (some 7))), ((.conv .i64), (.chan (some 3)), (.chan (some 14))), ((.conv .u64), (.chan (some 7)), (.chan (some 17))), ((.conv .i64), (.chan (some 17)), (.chan (some 7)))]
theorem hr1 (p : Nat → Int) (h : H p) : ∀ x ∈ r1, Rule1 (θ p) x := by
  obtain ⟨⟨a0, b0⟩, ⟨a1, b1⟩, ⟨a2, b2⟩, ⟨a3, b3⟩, hc0, hc1⟩ := h
  obtain ⟨f0, f1, f2, f3, f4, f5, f6, f7, f8, f9, f10, f11, f12, f13, f14, f15, f16, f17⟩ := fs p
  replace f5 := f5 (by omega)
  replace f11 := f11 (by omega)
  intro x hx
  simp only [r1, List.mem_cons, List.not_mem_nil, or_false] at hx
  rcases hx with rfl | rfl | rfl | rfl | rfl | rfl | rfl | rfl | rfl | rfl
  · exact ⟨rfl, rfl, congrArg (fun z => some (Value.int .u64 z)) (show IntKind.u64.wrap (t2 p) = (t4 p) from ((w_u64 _).trans (by omega)))⟩
  · exact ⟨rfl, rfl, congrArg (fun z => some (Value.int .i64 z)) (show IntKind.i64.wrap (t5 p) = (t6 p) from (by have g := w_i64 ((t5 p)); omega))⟩
  · exact ⟨rfl, rfl, congrArg (fun z => some (Value.int .i32 z)) (show IntKind.i32.wrap (t7 p) = (t8 p) from (by have g := w_i32 ((t7 p)); omega))⟩
  · exact ⟨rfl, rfl, congrArg (fun z => some (Value.int .u64 z)) (show IntKind.u64.wrap (t1 p) = (t9 p) from ((w_u64 _).trans (by omega)))⟩
  · exact ⟨rfl, rfl, congrArg (fun z => some (Value.int .u64 z)) (show IntKind.u64.wrap (t0 p) = (t10 p) from ((w_u64 _).trans (by omega)))⟩
  · exact ⟨rfl, rfl, congrArg (fun z => some (Value.int .i64 z)) (show IntKind.i64.wrap (t11 p) = (t12 p) from (by have g := w_i64 ((t11 p)); omega))⟩
  · exact ⟨rfl, rfl, congrArg (fun z => some (Value.int .i64 z)) (show IntKind.i64.wrap (t8 p) = (t7 p) from (by have g := w_i64 ((t8 p)); omega))⟩
  · exact ⟨rfl, rfl, congrArg (fun z => some (Value.int .i64 z)) (show IntKind.i64.wrap (t3 p) = (t14 p) from (by have g := w_i64 ((t3 p)); omega))⟩
  · exact ⟨rfl, rfl, congrArg (fun z => some (Value.int .u64 z)) (show IntKind.u64.wrap (t7 p) = (t17 p) from ((w_u64 _).trans (by omega)))⟩
  · exact ⟨rfl, rfl, congrArg (fun z => some (Value.int .i64 z)) (show IntKind.i64.wrap (t17 p) = (t7 p) from (by have g := w_i64 ((t17 p)); omega))⟩
def r2 : List (U2 × Value × Value × Value) := [((.bin .rem), (.chan (some 4)), (.int .u64 129), (.chan (some 5))), ((.bin .sub), (.chan (some 6)), (.int .i64 64), (.chan (some 7))), ((.bin .rem), (.chan (some 9)), (.int .u64 8), (.int .u64 7)), ((.bin .rem), (.chan (some 10)), (.int .u64 64), (.chan (some 11))), ((.bin .add), (.int .i64 1), (.chan (some 12)), (.chan (some 13))), ((.bin .add), (.chan (some 7)), (.chan (some 14)), (.chan (some 15))), ((.bin .geq), (.chan (some 15)), (.int .i64 0), (.bool true)), ((.bin .add), (.chan (some 15)), (.int .i64 8), (.chan (some 16))), ((.bin .leq), (.chan (some 16)), (.chan (some 13)), (.bool false)), ((.bin .geq), (.chan (some 13)), (.int .i64 1), (.bool true)), ((.bin .leq), (.chan (some 13)), (.int .i64 64), (.bool true)), ((.bin .lss), (.chan (some 7)), (.int .i64 (-64)), (.bool false)), ((.bin .gtr), (.chan (some 7)), (.int .i64 64), (.bool false)), ((.bin .gtr), (.chan (some 7)), (.chan (some 7)), (.bool false)), ((.bin .eql), (.chan (some 7)), (.chan (some 7)), (.bool true)), ((.bin .add), (.int .i64 0), (.chan (some 7)), (.chan (some 7))), ((.bin .geq), (.chan (some 7)), (.int .i64 (-131072)), (.bool true)), ((.bin .leq), (.chan (some 7)), (.int .i64 131072), (.bool true))]
theorem hr2 (p : Nat → Int) (h : H p) : ∀ x ∈ r2, Rule2 (θ p) x := by
  obtain ⟨⟨a0, b0⟩, ⟨a1, b1⟩, ⟨a2, b2⟩, ⟨a3, b3⟩, hc0, hc1⟩ := h
  obtain ⟨f0, f1, f2, f3, f4, f5, f6, f7, f8, f9, f10, f11, f12, f13, f14, f15, f16, f17⟩ := fs p
  replace f5 := f5 (by omega)
  replace f11 := f11 (by omega)
  intro x hx
  simp only [r2, List.mem_cons, List.not_mem_nil, or_false] at hx
  rcases hx with rfl | rfl | rfl | rfl | rfl | rfl | rfl | rfl | rfl | rfl | rfl | rfl | rfl | rfl | rfl | rfl | rfl | rfl
  · exact ⟨rfl, rfl, rfl, by show intBin .rem .u64 (t4 p) .u64 (129) = some (.int .u64 (t5 p)); rw [show intBin .rem .u64 (t4 p) .u64 (129) = if IntKind.u64 = IntKind.u64 ∧ (129) ≠ 0 then some (.int .u64 (Int.tmod (t4 p) (129))) else none from rfl, if_pos ⟨rfl, by omega⟩, Int.tmod_eq_emod_of_nonneg (by omega)]; exact congrArg (fun z => some (Value.int .u64 z)) (by omega)⟩
  · exact ⟨rfl, rfl, rfl, congrArg (fun z => some (Value.int .i64 z)) (show IntKind.i64.wrap ((t6 p) - (64)) = (t7 p) from (by have g := w_i64 (((t6 p) - (64))); omega))⟩
  · exact ⟨rfl, rfl, rfl, by show intBin .rem .u64 (t9 p) .u64 (8) = some (.int .u64 (7)); rw [show intBin .rem .u64 (t9 p) .u64 (8) = if IntKind.u64 = IntKind.u64 ∧ (8) ≠ 0 then some (.int .u64 (Int.tmod (t9 p) (8))) else none from rfl, if_pos ⟨rfl, by omega⟩, Int.tmod_eq_emod_of_nonneg (by omega)]; exact congrArg (fun z => some (Value.int .u64 z)) (by omega)⟩
  · exact ⟨rfl, rfl, rfl, by show intBin .rem .u64 (t10 p) .u64 (64) = some (.int .u64 (t11 p)); rw [show intBin .rem .u64 (t10 p) .u64 (64) = if IntKind.u64 = IntKind.u64 ∧ (64) ≠ 0 then some (.int .u64 (Int.tmod (t10 p) (64))) else none from rfl, if_pos ⟨rfl, by omega⟩, Int.tmod_eq_emod_of_nonneg (by omega)]; exact congrArg (fun z => some (Value.int .u64 z)) (by omega)⟩
  · exact ⟨rfl, rfl, rfl, congrArg (fun z => some (Value.int .i64 z)) (show IntKind.i64.wrap ((1) + (t12 p)) = (t13 p) from (by have g := w_i64 (((1) + (t12 p))); omega))⟩
  · exact ⟨rfl, rfl, rfl, congrArg (fun z => some (Value.int .i64 z)) (show IntKind.i64.wrap ((t7 p) + (t14 p)) = (t15 p) from (by have g := w_i64 (((t7 p) + (t14 p))); omega))⟩
  · exact ⟨rfl, rfl, rfl, congrArg (fun z => some (Value.bool z)) (decide_eq_true (show ((t15 p) ≥ (0)) from by omega))⟩
  · exact ⟨rfl, rfl, rfl, congrArg (fun z => some (Value.int .i64 z)) (show IntKind.i64.wrap ((t15 p) + (8)) = (t16 p) from (by have g := w_i64 (((t15 p) + (8))); omega))⟩
  · exact ⟨rfl, rfl, rfl, congrArg (fun z => some (Value.bool z)) (decide_eq_false (show ¬ ((t16 p) ≤ (t13 p)) from by omega))⟩
  · exact ⟨rfl, rfl, rfl, congrArg (fun z => some (Value.bool z)) (decide_eq_true (show ((t13 p) ≥ (1)) from by omega))⟩
  · exact ⟨rfl, rfl, rfl, congrArg (fun z => some (Value.bool z)) (decide_eq_true (show ((t13 p) ≤ (64)) from by omega))⟩
  · exact ⟨rfl, rfl, rfl, congrArg (fun z => some (Value.bool z)) (decide_eq_false (show ¬ ((t7 p) < (-64)) from by omega))⟩
  · exact ⟨rfl, rfl, rfl, congrArg (fun z => some (Value.bool z)) (decide_eq_false (show ¬ ((t7 p) > (64)) from by omega))⟩
  · exact ⟨rfl, rfl, rfl, congrArg (fun z => some (Value.bool z)) (decide_eq_false (show ¬ ((t7 p) > (t7 p)) from by omega))⟩
  · exact ⟨rfl, rfl, rfl, congrArg (fun z => some (Value.bool z)) (show ((t7 p) == (t7 p)) = true from beq_iff_eq.2 (by omega))⟩
  · exact ⟨rfl, rfl, rfl, congrArg (fun z => some (Value.int .i64 z)) (show IntKind.i64.wrap ((0) + (t7 p)) = (t7 p) from (by have g := w_i64 (((0) + (t7 p))); omega))⟩
  · exact ⟨rfl, rfl, rfl, congrArg (fun z => some (Value.bool z)) (decide_eq_true (show ((t7 p) ≥ (-131072)) from by omega))⟩
  · exact ⟨rfl, rfl, rfl, congrArg (fun z => some (Value.bool z)) (decide_eq_true (show ((t7 p) ≤ (131072)) from by omega))⟩
def re : List (Value × Value × Bool) := []
theorem hre (p : Nat → Int) (h : H p) : ∀ x ∈ re, RuleE (θ p) x := fun x hx => nomatch hx
abbrev sy (p : Nat → Int) (h : H p) : Sy := syOf (θ p) (plain p) r1 r2 re (hr1 p h) (hr2 p h) (hre p h)
end vl_hi7
end Go.Proofs.YtfdeipckfdogfaaGreat
