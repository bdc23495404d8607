/- VerifyContext: symbols (gensy.py). -/
import Derived.Test.YtfdeipckfdogfaaGreatEngXW
import Derived.Test.YtfdeipckfdogfaaGreatEngXN
import Derived.Test.YtfdeipckfdogfaaGreatXtab
set_option maxRecDepth 100000
set_option linter.unusedVariables false
namespace Go.Proofs.YtfdeipckfdogfaaGreat
open Go Go.Eng
namespace vx_in0
abbrev H (p : Nat → Int) : Prop := (-9223372036854775808 ≤ p 0 ∧ p 0 ≤ 9223372036854775807) ∧ (-32768 ≤ p 1 ∧ p 1 ≤ 32767) ∧ (-9223372036854775808 ≤ p 2 ∧ p 2 ≤ 9223372036854775807) ∧ ((p 2 % 18446744073709551616) % 4 = 0) ∧ (0 ≤ (p 0 % 18446744073709551616) % 129 - 64 + p 1 ∧ (p 0 % 18446744073709551616) % 129 - 64 + p 1 + 4 ≤ 32)
def t0 (p : Nat → Int) : Int := p 0
def t1 (p : Nat → Int) : Int := p 1
def t2 (p : Nat → Int) : Int := p 2
def t3 (p : Nat → Int) : Int := (IntKind.u64.wrap (t0 p))
def t4 (p : Nat → Int) : Int := (Int.tmod (t3 p) 129)
def t5 (p : Nat → Int) : Int := (IntKind.i64.wrap (t4 p))
def t6 (p : Nat → Int) : Int := (IntKind.i64.wrap ((t5 p) - 64))
def t7 (p : Nat → Int) : Int := (IntKind.i32.wrap (t6 p))
def t8 (p : Nat → Int) : Int := (IntKind.u64.wrap (t2 p))
def t9 (p : Nat → Int) : Int := (IntKind.u64.wrap (t6 p))
def t10 (p : Nat → Int) : Int := (IntKind.i64.wrap (t1 p))
def t11 (p : Nat → Int) : Int := (IntKind.i64.wrap ((t6 p) + (t10 p)))
def t12 (p : Nat → Int) : Int := (IntKind.i64.wrap ((t11 p) + 4))
def θ (p : Nat → Int) : Nat → Value := fun j => match j with
  | 0 => .int .i64 (t0 p)
  | 1 => .int .i16 (t1 p)
  | 2 => .int .i64 (t2 p)
  | 3 => .int .u64 (t3 p)
  | 4 => .int .u64 (t4 p)
  | 5 => .int .i64 (t5 p)
  | 6 => .int .i64 (t6 p)
  | 7 => .int .i32 (t7 p)
  | 8 => .int .u64 (t8 p)
  | 9 => .int .u64 (t9 p)
  | 10 => .int .i64 (t10 p)
  | 11 => .int .i64 (t11 p)
  | 12 => .int .i64 (t12 p)
  | _ => .bool false
theorem plain (p : Nat → Int) : ∀ j, plainV (θ p j) = true := by intro j; unfold θ; split <;> rfl
theorem fs (p : Nat → Int) : (t0 p = p 0) ∧ (t1 p = p 1) ∧ (t2 p = p 2) ∧ (t3 p = (t0 p) % 18446744073709551616) ∧ (0 ≤ (t3 p) → t4 p = (t3 p) % 129) ∧ (-9223372036854775808 ≤ t5 p ∧ t5 p < 9223372036854775808 ∧ ((t4 p) - t5 p) % 18446744073709551616 = 0) ∧ (-9223372036854775808 ≤ t6 p ∧ t6 p < 9223372036854775808 ∧ (((t5 p) - 64) - t6 p) % 18446744073709551616 = 0) ∧ (-2147483648 ≤ t7 p ∧ t7 p < 2147483648 ∧ ((t6 p) - t7 p) % 4294967296 = 0) ∧ (t8 p = (t2 p) % 18446744073709551616) ∧ (t9 p = (t6 p) % 18446744073709551616) ∧ (-9223372036854775808 ≤ t10 p ∧ t10 p < 9223372036854775808 ∧ ((t1 p) - t10 p) % 18446744073709551616 = 0) ∧ (-9223372036854775808 ≤ t11 p ∧ t11 p < 9223372036854775808 ∧ (((t6 p) + (t10 p)) - t11 p) % 18446744073709551616 = 0) ∧ (-9223372036854775808 ≤ t12 p ∧ t12 p < 9223372036854775808 ∧ (((t11 p) + 4) - t12 p) % 18446744073709551616 = 0) := ⟨rfl, rfl, rfl, w_u64 _, Int.tmod_eq_emod_of_nonneg, w_i64 _, w_i64 _, w_i32 _, w_u64 _, w_u64 _, w_i64 _, w_i64 _, w_i64 _⟩
def r1 : List (U1 × Value × Value) := [((.conv .u64), (.chan (some 0)), (.chan (some 3))), ((.conv .i64), (.chan (some 4)), (.chan (some 5))), ((.conv .i32), (.chan (some 6)), (.chan (some 7))), ((.conv .u64), (.chan (some 2)), (.chan (some 8))), ((.conv .i64), (.chan (some 7)), (.chan (some 6))), ((.conv .u64), (.chan (some 6)), (.chan (some 9))), ((.conv .i64), (.chan (some 9)), (.chan (some 6))), ((.conv .i64), (.chan (some 1)), (.chan (some 10)))]
theorem hr1 (p : Nat → Int) (h : H p) : ∀ x ∈ r1, Rule1 (θ p) x := by
  obtain ⟨⟨a0, b0⟩, ⟨a1, b1⟩, ⟨a2, b2⟩, hc0, hc1⟩ := h
  obtain ⟨f0, f1, f2, f3, f4, f5, f6, f7, f8, f9, f10, f11, f12⟩ := fs p
  replace f4 := f4 (by omega)
  intro x hx
  simp only [r1, List.mem_cons, List.not_mem_nil, or_false] at hx
  rcases hx with rfl | rfl | rfl | rfl | rfl | rfl | rfl | rfl
  · exact ⟨rfl, rfl, congrArg (fun z => some (Value.int .u64 z)) (show IntKind.u64.wrap (t0 p) = (t3 p) from ((w_u64 _).trans (by omega)))⟩
  · exact ⟨rfl, rfl, congrArg (fun z => some (Value.int .i64 z)) (show IntKind.i64.wrap (t4 p) = (t5 p) from (by have g := w_i64 ((t4 p)); omega))⟩
  · exact ⟨rfl, rfl, congrArg (fun z => some (Value.int .i32 z)) (show IntKind.i32.wrap (t6 p) = (t7 p) from (by have g := w_i32 ((t6 p)); omega))⟩
  · exact ⟨rfl, rfl, congrArg (fun z => some (Value.int .u64 z)) (show IntKind.u64.wrap (t2 p) = (t8 p) from ((w_u64 _).trans (by omega)))⟩
  · exact ⟨rfl, rfl, congrArg (fun z => some (Value.int .i64 z)) (show IntKind.i64.wrap (t7 p) = (t6 p) from (by have g := w_i64 ((t7 p)); omega))⟩
  · exact ⟨rfl, rfl, congrArg (fun z => some (Value.int .u64 z)) (show IntKind.u64.wrap (t6 p) = (t9 p) from ((w_u64 _).trans (by omega)))⟩
  · exact ⟨rfl, rfl, congrArg (fun z => some (Value.int .i64 z)) (show IntKind.i64.wrap (t9 p) = (t6 p) from (by have g := w_i64 ((t9 p)); omega))⟩
  · exact ⟨rfl, rfl, congrArg (fun z => some (Value.int .i64 z)) (show IntKind.i64.wrap (t1 p) = (t10 p) from (by have g := w_i64 ((t1 p)); omega))⟩
def r2 : List (U2 × Value × Value × Value) := [((.bin .rem), (.chan (some 3)), (.int .u64 129), (.chan (some 4))), ((.bin .sub), (.chan (some 5)), (.int .i64 64), (.chan (some 6))), ((.bin .rem), (.chan (some 8)), (.int .u64 4), (.int .u64 0)), ((.bin .lss), (.chan (some 6)), (.int .i64 (-64)), (.bool false)), ((.bin .gtr), (.chan (some 6)), (.int .i64 64), (.bool false)), ((.bin .gtr), (.chan (some 6)), (.chan (some 6)), (.bool false)), ((.bin .eql), (.chan (some 6)), (.chan (some 6)), (.bool true)), ((.bin .add), (.int .i64 0), (.chan (some 6)), (.chan (some 6))), ((.bin .geq), (.chan (some 6)), (.int .i64 (-131072)), (.bool true)), ((.bin .leq), (.chan (some 6)), (.int .i64 131072), (.bool true)), ((.bin .add), (.chan (some 6)), (.chan (some 10)), (.chan (some 11))), ((.bin .geq), (.chan (some 11)), (.int .i64 0), (.bool true)), ((.bin .add), (.chan (some 11)), (.int .i64 4), (.chan (some 12))), ((.bin .leq), (.chan (some 12)), (.int .i64 32), (.bool true))]
theorem hr2 (p : Nat → Int) (h : H p) : ∀ x ∈ r2, Rule2 (θ p) x := by
  obtain ⟨⟨a0, b0⟩, ⟨a1, b1⟩, ⟨a2, b2⟩, hc0, hc1⟩ := h
  obtain ⟨f0, f1, f2, f3, f4, f5, f6, f7, f8, f9, f10, f11, f12⟩ := fs p
  replace f4 := f4 (by omega)
  intro x hx
  simp only [r2, List.mem_cons, List.not_mem_nil, or_false] at hx
  rcases hx with rfl | rfl | rfl | rfl | rfl | rfl | rfl | rfl | rfl | rfl | rfl | rfl | rfl | rfl
  · exact ⟨rfl, rfl, rfl, by show intBin .rem .u64 (t3 p) .u64 (129) = some (.int .u64 (t4 p)); rw [show intBin .rem .u64 (t3 p) .u64 (129) = if IntKind.u64 = IntKind.u64 ∧ (129) ≠ 0 then some (.int .u64 (Int.tmod (t3 p) (129))) else none from rfl, if_pos ⟨rfl, by omega⟩, Int.tmod_eq_emod_of_nonneg (by omega)]; exact congrArg (fun z => some (Value.int .u64 z)) (by omega)⟩
  · exact ⟨rfl, rfl, rfl, congrArg (fun z => some (Value.int .i64 z)) (show IntKind.i64.wrap ((t5 p) - (64)) = (t6 p) from (by have g := w_i64 (((t5 p) - (64))); omega))⟩
  · exact ⟨rfl, rfl, rfl, by show intBin .rem .u64 (t8 p) .u64 (4) = some (.int .u64 (0)); rw [show intBin .rem .u64 (t8 p) .u64 (4) = if IntKind.u64 = IntKind.u64 ∧ (4) ≠ 0 then some (.int .u64 (Int.tmod (t8 p) (4))) else none from rfl, if_pos ⟨rfl, by omega⟩, Int.tmod_eq_emod_of_nonneg (by omega)]; exact congrArg (fun z => some (Value.int .u64 z)) (by omega)⟩
  · exact ⟨rfl, rfl, rfl, congrArg (fun z => some (Value.bool z)) (decide_eq_false (show ¬ ((t6 p) < (-64)) from by omega))⟩
  · exact ⟨rfl, rfl, rfl, congrArg (fun z => some (Value.bool z)) (decide_eq_false (show ¬ ((t6 p) > (64)) from by omega))⟩
  · exact ⟨rfl, rfl, rfl, congrArg (fun z => some (Value.bool z)) (decide_eq_false (show ¬ ((t6 p) > (t6 p)) from by omega))⟩
  · exact ⟨rfl, rfl, rfl, congrArg (fun z => some (Value.bool z)) (show ((t6 p) == (t6 p)) = true from beq_iff_eq.2 (by omega))⟩
  · exact ⟨rfl, rfl, rfl, congrArg (fun z => some (Value.int .i64 z)) (show IntKind.i64.wrap ((0) + (t6 p)) = (t6 p) from (by have g := w_i64 (((0) + (t6 p))); omega))⟩
  · exact ⟨rfl, rfl, rfl, congrArg (fun z => some (Value.bool z)) (decide_eq_true (show ((t6 p) ≥ (-131072)) from by omega))⟩
  · exact ⟨rfl, rfl, rfl, congrArg (fun z => some (Value.bool z)) (decide_eq_true (show ((t6 p) ≤ (131072)) from by omega))⟩
  · exact ⟨rfl, rfl, rfl, congrArg (fun z => some (Value.int .i64 z)) (show IntKind.i64.wrap ((t6 p) + (t10 p)) = (t11 p) from (by have g := w_i64 (((t6 p) + (t10 p))); omega))⟩
  · exact ⟨rfl, rfl, rfl, congrArg (fun z => some (Value.bool z)) (decide_eq_true (show ((t11 p) ≥ (0)) from by omega))⟩
  · exact ⟨rfl, rfl, rfl, congrArg (fun z => some (Value.int .i64 z)) (show IntKind.i64.wrap ((t11 p) + (4)) = (t12 p) from (by have g := w_i64 (((t11 p) + (4))); omega))⟩
  · exact ⟨rfl, rfl, rfl, congrArg (fun z => some (Value.bool z)) (decide_eq_true (show ((t12 p) ≤ (32)) from by omega))⟩
def re : List (Value × Value × Bool) := []
theorem hre (p : Nat → Int) (h : H p) : ∀ x ∈ re, RuleE (θ p) x := fun x hx => nomatch hx
abbrev sy (p : Nat → Int) (h : H p) : Sy := syOf (θ p) (plain p) r1 r2 re (hr1 p h) (hr2 p h) (hre p h)
end vx_in0
namespace vx_lo0
abbrev H (p : Nat → Int) : Prop := (-9223372036854775808 ≤ p 0 ∧ p 0 ≤ 9223372036854775807) ∧ (-32768 ≤ p 1 ∧ p 1 ≤ 32767) ∧ (-9223372036854775808 ≤ p 2 ∧ p 2 ≤ 9223372036854775807) ∧ ((p 2 % 18446744073709551616) % 4 = 0) ∧ ((p 0 % 18446744073709551616) % 129 - 64 + p 1 < 0)
def t0 (p : Nat → Int) : Int := p 0
def t1 (p : Nat → Int) : Int := p 1
def t2 (p : Nat → Int) : Int := p 2
def t3 (p : Nat → Int) : Int := (IntKind.u64.wrap (t0 p))
def t4 (p : Nat → Int) : Int := (Int.tmod (t3 p) 129)
def t5 (p : Nat → Int) : Int := (IntKind.i64.wrap (t4 p))
def t6 (p : Nat → Int) : Int := (IntKind.i64.wrap ((t5 p) - 64))
def t7 (p : Nat → Int) : Int := (IntKind.i32.wrap (t6 p))
def t8 (p : Nat → Int) : Int := (IntKind.u64.wrap (t2 p))
def t9 (p : Nat → Int) : Int := (IntKind.u64.wrap (t6 p))
def t10 (p : Nat → Int) : Int := (IntKind.i64.wrap (t1 p))
def t11 (p : Nat → Int) : Int := (IntKind.i64.wrap ((t6 p) + (t10 p)))
def θ (p : Nat → Int) : Nat → Value := fun j => match j with
  | 0 => .int .i64 (t0 p)
  | 1 => .int .i16 (t1 p)
  | 2 => .int .i64 (t2 p)
  | 3 => .int .u64 (t3 p)
  | 4 => .int .u64 (t4 p)
  | 5 => .int .i64 (t5 p)
  | 6 => .int .i64 (t6 p)
  | 7 => .int .i32 (t7 p)
  | 8 => .int .u64 (t8 p)
  | 9 => .int .u64 (t9 p)
  | 10 => .int .i64 (t10 p)
  | 11 => .int .i64 (t11 p)
  | _ => .bool false
theorem plain (p : Nat → Int) : ∀ j, plainV (θ p j) = true := by intro j; unfold θ; split <;> rfl
theorem fs (p : Nat → Int) : (t0 p = p 0) ∧ (t1 p = p 1) ∧ (t2 p = p 2) ∧ (t3 p = (t0 p) % 18446744073709551616) ∧ (0 ≤ (t3 p) → t4 p = (t3 p) % 129) ∧ (-9223372036854775808 ≤ t5 p ∧ t5 p < 9223372036854775808 ∧ ((t4 p) - t5 p) % 18446744073709551616 = 0) ∧ (-9223372036854775808 ≤ t6 p ∧ t6 p < 9223372036854775808 ∧ (((t5 p) - 64) - t6 p) % 18446744073709551616 = 0) ∧ (-2147483648 ≤ t7 p ∧ t7 p < 2147483648 ∧ ((t6 p) - t7 p) % 4294967296 = 0) ∧ (t8 p = (t2 p) % 18446744073709551616) ∧ (t9 p = (t6 p) % 18446744073709551616) ∧ (-9223372036854775808 ≤ t10 p ∧ t10 p < 9223372036854775808 ∧ ((t1 p) - t10 p) % 18446744073709551616 = 0) ∧ (-9223372036854775808 ≤ t11 p ∧ t11 p < 9223372036854775808 ∧ (((t6 p) + (t10 p)) - t11 p) % 18446744073709551616 = 0) := ⟨rfl, rfl, rfl, w_u64 _, Int.tmod_eq_emod_of_nonneg, w_i64 _, w_i64 _, w_i32 _, w_u64 _, w_u64 _, w_i64 _, w_i64 _⟩
def r1 : List (U1 × Value × Value) := [((.conv .u64), (.chan (some 0)), (.chan (some 3))), ((.conv .i64), (.chan (some 4)), (.chan (some 5))), ((.conv .i32), (.chan (some 6)), (.chan (some 7))), ((.conv .u64), (.chan (some 2)), (.chan (some 8))), ((.conv .i64), (.chan (some 7)), (.chan (some 6))), ((.conv .u64), (.chan (some 6)), (.chan (some 9))), ((.conv .i64), (.chan (some 9)), (.chan (some 6))), ((.conv .i64), (.chan (some 1)), (.chan (some 10)))]
theorem hr1 (p : Nat → Int) (h : H p) : ∀ x ∈ r1, Rule1 (θ p) x := by
  obtain ⟨⟨a0, b0⟩, ⟨a1, b1⟩, ⟨a2, b2⟩, hc0, hc1⟩ := h
  obtain ⟨f0, f1, f2, f3, f4, f5, f6, f7, f8, f9, f10, f11⟩ := fs p
  replace f4 := f4 (by omega)
  intro x hx
  simp only [r1, List.mem_cons, List.not_mem_nil, or_false] at hx
  rcases hx with rfl | rfl | rfl | rfl | rfl | rfl | rfl | rfl
  · exact ⟨rfl, rfl, congrArg (fun z => some (Value.int .u64 z)) (show IntKind.u64.wrap (t0 p) = (t3 p) from ((w_u64 _).trans (by omega)))⟩
  · exact ⟨rfl, rfl, congrArg (fun z => some (Value.int .i64 z)) (show IntKind.i64.wrap (t4 p) = (t5 p) from (by have g := w_i64 ((t4 p)); omega))⟩
  · exact ⟨rfl, rfl, congrArg (fun z => some (Value.int .i32 z)) (show IntKind.i32.wrap (t6 p) = (t7 p) from (by have g := w_i32 ((t6 p)); omega))⟩
  · exact ⟨rfl, rfl, congrArg (fun z => some (Value.int .u64 z)) (show IntKind.u64.wrap (t2 p) = (t8 p) from ((w_u64 _).trans (by omega)))⟩
  · exact ⟨rfl, rfl, congrArg (fun z => some (Value.int .i64 z)) (show IntKind.i64.wrap (t7 p) = (t6 p) from (by have g := w_i64 ((t7 p)); omega))⟩
  · exact ⟨rfl, rfl, congrArg (fun z => some (Value.int .u64 z)) (show IntKind.u64.wrap (t6 p) = (t9 p) from ((w_u64 _).trans (by omega)))⟩
  · exact ⟨rfl, rfl, congrArg (fun z => some (Value.int .i64 z)) (show IntKind.i64.wrap (t9 p) = (t6 p) from (by have g := w_i64 ((t9 p)); omega))⟩
  · exact ⟨rfl, rfl, congrArg (fun z => some (Value.int .i64 z)) (show IntKind.i64.wrap (t1 p) = (t10 p) from (by have g := w_i64 ((t1 p)); omega))⟩
def r2 : List (U2 × Value × Value × Value) := [((.bin .rem), (.chan (some 3)), (.int .u64 129), (.chan (some 4))), ((.bin .sub), (.chan (some 5)), (.int .i64 64), (.chan (some 6))), ((.bin .rem), (.chan (some 8)), (.int .u64 4), (.int .u64 0)), ((.bin .lss), (.chan (some 6)), (.int .i64 (-64)), (.bool false)), ((.bin .gtr), (.chan (some 6)), (.int .i64 64), (.bool false)), ((.bin .gtr), (.chan (some 6)), (.chan (some 6)), (.bool false)), ((.bin .eql), (.chan (some 6)), (.chan (some 6)), (.bool true)), ((.bin .add), (.int .i64 0), (.chan (some 6)), (.chan (some 6))), ((.bin .geq), (.chan (some 6)), (.int .i64 (-131072)), (.bool true)), ((.bin .leq), (.chan (some 6)), (.int .i64 131072), (.bool true)), ((.bin .add), (.chan (some 6)), (.chan (some 10)), (.chan (some 11))), ((.bin .geq), (.chan (some 11)), (.int .i64 0), (.bool false))]
theorem hr2 (p : Nat → Int) (h : H p) : ∀ x ∈ r2, Rule2 (θ p) x := by
  obtain ⟨⟨a0, b0⟩, ⟨a1, b1⟩, ⟨a2, b2⟩, hc0, hc1⟩ := h
  obtain ⟨f0, f1, f2, f3, f4, f5, f6, f7, f8, f9, f10, f11⟩ := fs p
  replace f4 := f4 (by omega)
  intro x hx
  simp only [r2, List.mem_cons, List.not_mem_nil, or_false] at hx
  rcases hx with rfl | rfl | rfl | rfl | rfl | rfl | rfl | rfl | rfl | rfl | rfl | rfl
  · exact ⟨rfl, rfl, rfl, by show intBin .rem .u64 (t3 p) .u64 (129) = some (.int .u64 (t4 p)); rw [show intBin .rem .u64 (t3 p) .u64 (129) = if IntKind.u64 = IntKind.u64 ∧ (129) ≠ 0 then some (.int .u64 (Int.tmod (t3 p) (129))) else none from rfl, if_pos ⟨rfl, by omega⟩, Int.tmod_eq_emod_of_nonneg (by omega)]; exact congrArg (fun z => some (Value.int .u64 z)) (by omega)⟩
  · exact ⟨rfl, rfl, rfl, congrArg (fun z => some (Value.int .i64 z)) (show IntKind.i64.wrap ((t5 p) - (64)) = (t6 p) from (by have g := w_i64 (((t5 p) - (64))); omega))⟩
  · exact ⟨rfl, rfl, rfl, by show intBin .rem .u64 (t8 p) .u64 (4) = some (.int .u64 (0)); rw [show intBin .rem .u64 (t8 p) .u64 (4) = if IntKind.u64 = IntKind.u64 ∧ (4) ≠ 0 then some (.int .u64 (Int.tmod (t8 p) (4))) else none from rfl, if_pos ⟨rfl, by omega⟩, Int.tmod_eq_emod_of_nonneg (by omega)]; exact congrArg (fun z => some (Value.int .u64 z)) (by omega)⟩
  · exact ⟨rfl, rfl, rfl, congrArg (fun z => some (Value.bool z)) (decide_eq_false (show ¬ ((t6 p) < (-64)) from by omega))⟩
  · exact ⟨rfl, rfl, rfl, congrArg (fun z => some (Value.bool z)) (decide_eq_false (show ¬ ((t6 p) > (64)) from by omega))⟩
  · exact ⟨rfl, rfl, rfl, congrArg (fun z => some (Value.bool z)) (decide_eq_false (show ¬ ((t6 p) > (t6 p)) from by omega))⟩
  · exact ⟨rfl, rfl, rfl, congrArg (fun z => some (Value.bool z)) (show ((t6 p) == (t6 p)) = true from beq_iff_eq.2 (by omega))⟩
  · exact ⟨rfl, rfl, rfl, congrArg (fun z => some (Value.int .i64 z)) (show IntKind.i64.wrap ((0) + (t6 p)) = (t6 p) from (by have g := w_i64 (((0) + (t6 p))); omega))⟩
  · exact ⟨rfl, rfl, rfl, congrArg (fun z => some (Value.bool z)) (decide_eq_true (show ((t6 p) ≥ (-131072)) from by omega))⟩
  · exact ⟨rfl, rfl, rfl, congrArg (fun z => some (Value.bool z)) (decide_eq_true (show ((t6 p) ≤ (131072)) from by omega))⟩
  · exact ⟨rfl, rfl, rfl, congrArg (fun z => some (Value.int .i64 z)) (show IntKind.i64.wrap ((t6 p) + (t10 p)) = (t11 p) from (by have g := w_i64 (((t6 p) + (t10 p))); omega))⟩
  · exact ⟨rfl, rfl, rfl, congrArg (fun z => some (Value.bool z)) (decide_eq_false (show ¬ ((t11 p) ≥ (0)) from by omega))⟩
def re : List (Value × Value × Bool) := []
theorem hre (p : Nat → Int) (h : H p) : ∀ x ∈ re, RuleE (θ p) x := fun x hx => nomatch hx
abbrev sy (p : Nat → Int) (h : H p) : Sy := syOf (θ p) (plain p) r1 r2 re (hr1 p h) (hr2 p h) (hre p h)
end vx_lo0
namespace vx_hi0
abbrev H (p : Nat → Int) : Prop := (-9223372036854775808 ≤ p 0 ∧ p 0 ≤ 9223372036854775807) ∧ (-32768 ≤ p 1 ∧ p 1 ≤ 32767) ∧ (-9223372036854775808 ≤ p 2 ∧ p 2 ≤ 9223372036854775807) ∧ ((p 2 % 18446744073709551616) % 4 = 0) ∧ (0 ≤ (p 0 % 18446744073709551616) % 129 - 64 + p 1 ∧ 32 < (p 0 % 18446744073709551616) % 129 - 64 + p 1 + 4)
def t0 (p : Nat → Int) : Int := p 0
def t1 (p : Nat → Int) : Int := p 1
def t2 (p : Nat → Int) : Int := p 2
def t3 (p : Nat → Int) : Int := (IntKind.u64.wrap (t0 p))
def t4 (p : Nat → Int) : Int := (Int.tmod (t3 p) 129)
def t5 (p : Nat → Int) : Int := (IntKind.i64.wrap (t4 p))
def t6 (p : Nat → Int) : Int := (IntKind.i64.wrap ((t5 p) - 64))
def t7 (p : Nat → Int) : Int := (IntKind.i32.wrap (t6 p))
def t8 (p : Nat → Int) : Int := (IntKind.u64.wrap (t2 p))
def t9 (p : Nat → Int) : Int := (IntKind.u64.wrap (t6 p))
def t10 (p : Nat → Int) : Int := (IntKind.i64.wrap (t1 p))
def t11 (p : Nat → Int) : Int := (IntKind.i64.wrap ((t6 p) + (t10 p)))
def t12 (p : Nat → Int) : Int := (IntKind.i64.wrap ((t11 p) + 4))
def θ (p : Nat → Int) : Nat → Value := fun j => match j with
  | 0 => .int .i64 (t0 p)
  | 1 => .int .i16 (t1 p)
  | 2 => .int .i64 (t2 p)
  | 3 => .int .u64 (t3 p)
  | 4 => .int .u64 (t4 p)
  | 5 => .int .i64 (t5 p)
  | 6 => .int .i64 (t6 p)
  | 7 => .int .i32 (t7 p)
  | 8 => .int .u64 (t8 p)
  | 9 => .int .u64 (t9 p)
  | 10 => .int .i64 (t10 p)
  | 11 => .int .i64 (t11 p)
  | 12 => .int .i64 (t12 p)
  | _ => .bool false
theorem plain (p : Nat → Int) : ∀ j, plainV (θ p j) = true := by intro j; unfold θ; split <;> rfl
theorem fs (p : Nat → Int) : (t0 p = p 0) ∧ (t1 p = p 1) ∧ (t2 p = p 2) ∧ (t3 p = (t0 p) % 18446744073709551616) ∧ (0 ≤ (t3 p) → t4 p = (t3 p) % 129) ∧ (-9223372036854775808 ≤ t5 p ∧ t5 p < 9223372036854775808 ∧ ((t4 p) - t5 p) % 18446744073709551616 = 0) ∧ (-9223372036854775808 ≤ t6 p ∧ t6 p < 9223372036854775808 ∧ (((t5 p) - 64) - t6 p) % 18446744073709551616 = 0) ∧ (-2147483648 ≤ t7 p ∧ t7 p < 2147483648 ∧ ((t6 p) - t7 p) % 4294967296 = 0) ∧ (t8 p = (t2 p) % 18446744073709551616) ∧ (t9 p = (t6 p) % 18446744073709551616) ∧ (-9223372036854775808 ≤ t10 p ∧ t10 p < 9223372036854775808 ∧ ((t1 p) - t10 p) % 18446744073709551616 = 0) ∧ (-9223372036854775808 ≤ t11 p ∧ t11 p < 9223372036854775808 ∧ (((t6 p) + (t10 p)) - t11 p) % 18446744073709551616 = 0) ∧ (-9223372036854775808 ≤ t12 p ∧ t12 p < 9223372036854775808 ∧ (((t11 p) + 4) - t12 p) % 18446744073709551616 = 0) := ⟨rfl, rfl, rfl, w_u64 _, Int.tmod_eq_emod_of_nonneg, w_i64 _, w_i64 _, w_i32 _, w_u64 _, w_u64 _, w_i64 _, w_i64 _, w_i64 _⟩
def r1 : List (U1 × Value × Value) := [((.conv .u64), (.chan (some 0)), (.chan (some 3))), ((.conv .i64), (.chan (some 4)), (.chan (some 5))), ((.conv .i32), (.chan (some 6)), (.chan (some 7))), ((.conv .u64), (.chan (some 2)), (.chan (some 8))), ((.conv .i64), (.chan (some 7)), (.chan (some 6))), ((.conv .u64), (.chan (some 6)), (.chan (some 9))), ((.conv .i64), (.chan (some 9)), (.chan (some 6))), ((.conv .i64), (.chan (some 1)), (.chan (some 10)))]
theorem hr1 (p : Nat → Int) (h : H p) : ∀ x ∈ r1, Rule1 (θ p) x := by
  obtain ⟨⟨a0, b0⟩, ⟨a1, b1⟩, ⟨a2, b2⟩, hc0, hc1⟩ := h
  obtain ⟨f0, f1, f2, f3, f4, f5, f6, f7, f8, f9, f10, f11, f12⟩ := fs p
  replace f4 := f4 (by omega)
  intro x hx
  simp only [r1, List.mem_cons, List.not_mem_nil, or_false] at hx
  rcases hx with rfl | rfl | rfl | rfl | rfl | rfl | rfl | rfl
  · exact ⟨rfl, rfl, congrArg (fun z => some (Value.int .u64 z)) (show IntKind.u64.wrap (t0 p) = (t3 p) from ((w_u64 _).trans (by omega)))⟩
  · exact ⟨rfl, rfl, congrArg (fun z => some (Value.int .i64 z)) (show IntKind.i64.wrap (t4 p) = (t5 p) from (by have g := w_i64 ((t4 p)); omega))⟩
  · exact ⟨rfl, rfl, congrArg (fun z => some (Value.int .i32 z)) (show IntKind.i32.wrap (t6 p) = (t7 p) from (by have g := w_i32 ((t6 p)); omega))⟩
  · exact ⟨rfl, rfl, congrArg (fun z => some (Value.int .u64 z)) (show IntKind.u64.wrap (t2 p) = (t8 p) from ((w_u64 _).trans (by omega)))⟩
  · exact ⟨rfl, rfl, congrArg (fun z => some (Value.int .i64 z)) (show IntKind.i64.wrap (t7 p) = (t6 p) from (by have g := w_i64 ((t7 p)); omega))⟩
  · exact ⟨rfl, rfl, congrArg (fun z => some (Value.int .u64 z)) (show IntKind.u64.wrap (t6 p) = (t9 p) from ((w_u64 _).trans (by omega)))⟩
  · exact ⟨rfl, rfl, congrArg (fun z => some (Value.int .i64 z)) (show IntKind.i64.wrap (t9 p) = (t6 p) from (by have g := w_i64 ((t9 p)); omega))⟩
  · exact ⟨rfl, rfl, congrArg (fun z => some (Value.int .i64 z)) (show IntKind.i64.wrap (t1 p) = (t10 p) from (by have g := w_i64 ((t1 p)); omega))⟩
def r2 : List (U2 × Value × Value × Value) := [((.bin .rem), (.chan (some 3)), (.int .u64 129), (.chan (some 4))), ((.bin .sub), (.chan (some 5)), (.int .i64 64), (.chan (some 6))), ((.bin .rem), (.chan (some 8)), (.int .u64 4), (.int .u64 0)), ((.bin .lss), (.chan (some 6)), (.int .i64 (-64)), (.bool false)), ((.bin .gtr), (.chan (some 6)), (.int .i64 64), (.bool false)), ((.bin .gtr), (.chan (some 6)), (.chan (some 6)), (.bool false)), ((.bin .eql), (.chan (some 6)), (.chan (some 6)), (.bool true)), ((.bin .add), (.int .i64 0), (.chan (some 6)), (.chan (some 6))), ((.bin .geq), (.chan (some 6)), (.int .i64 (-131072)), (.bool true)), ((.bin .leq), (.chan (some 6)), (.int .i64 131072), (.bool true)), ((.bin .add), (.chan (some 6)), (.chan (some 10)), (.chan (some 11))), ((.bin .geq), (.chan (some 11)), (.int .i64 0), (.bool true)), ((.bin .add), (.chan (some 11)), (.int .i64 4), (.chan (some 12))), ((.bin .leq), (.chan (some 12)), (.int .i64 32), (.bool false))]
theorem hr2 (p : Nat → Int) (h : H p) : ∀ x ∈ r2, Rule2 (θ p) x := by
  obtain ⟨⟨a0, b0⟩, ⟨a1, b1⟩, ⟨a2, b2⟩, hc0, hc1⟩ := h
  obtain ⟨f0, f1, f2, f3, f4, f5, f6, f7, f8, f9, f10, f11, f12⟩ := fs p
  replace f4 := f4 (by omega)
  intro x hx
  simp only [r2, List.mem_cons, List.not_mem_nil, or_false] at hx
  rcases hx with rfl | rfl | rfl | rfl | rfl | rfl | rfl | rfl | rfl | rfl | rfl | rfl | rfl | rfl
  · exact ⟨rfl, rfl, rfl, by show intBin .rem .u64 (t3 p) .u64 (129) = some (.int .u64 (t4 p)); rw [show intBin .rem .u64 (t3 p) .u64 (129) = if IntKind.u64 = IntKind.u64 ∧ (129) ≠ 0 then some (.int .u64 (Int.tmod (t3 p) (129))) else none from rfl, if_pos ⟨rfl, by omega⟩, Int.tmod_eq_emod_of_nonneg (by omega)]; exact congrArg (fun z => some (Value.int .u64 z)) (by omega)⟩
  · exact ⟨rfl, rfl, rfl, congrArg (fun z => some (Value.int .i64 z)) (show IntKind.i64.wrap ((t5 p) - (64)) = (t6 p) from (by have g := w_i64 (((t5 p) - (64))); omega))⟩
  · exact ⟨rfl, rfl, rfl, by show intBin .rem .u64 (t8 p) .u64 (4) = some (.int .u64 (0)); rw [show intBin .rem .u64 (t8 p) .u64 (4) = if IntKind.u64 = IntKind.u64 ∧ (4) ≠ 0 then some (.int .u64 (Int.tmod (t8 p) (4))) else none from rfl, if_pos ⟨rfl, by omega⟩, Int.tmod_eq_emod_of_nonneg (by omega)]; exact congrArg (fun z => some (Value.int .u64 z)) (by omega)⟩
  · exact ⟨rfl, rfl, rfl, congrArg (fun z => some (Value.bool z)) (decide_eq_false (show ¬ ((t6 p) < (-64)) from by omega))⟩
  · exact ⟨rfl, rfl, rfl, congrArg (fun z => some (Value.bool z)) (decide_eq_false (show ¬ ((t6 p) > (64)) from by omega))⟩
  · exact ⟨rfl, rfl, rfl, congrArg (fun z => some (Value.bool z)) (decide_eq_false (show ¬ ((t6 p) > (t6 p)) from by omega))⟩
  · exact ⟨rfl, rfl, rfl, congrArg (fun z => some (Value.bool z)) (show ((t6 p) == (t6 p)) = true from beq_iff_eq.2 (by omega))⟩
  · exact ⟨rfl, rfl, rfl, congrArg (fun z => some (Value.int .i64 z)) (show IntKind.i64.wrap ((0) + (t6 p)) = (t6 p) from (by have g := w_i64 (((0) + (t6 p))); omega))⟩
  · exact ⟨rfl, rfl, rfl, congrArg (fun z => some (Value.bool z)) (decide_eq_true (show ((t6 p) ≥ (-131072)) from by omega))⟩
  · exact ⟨rfl, rfl, rfl, congrArg (fun z => some (Value.bool z)) (decide_eq_true (show ((t6 p) ≤ (131072)) from by omega))⟩
  · exact ⟨rfl, rfl, rfl, congrArg (fun z => some (Value.int .i64 z)) (show IntKind.i64.wrap ((t6 p) + (t10 p)) = (t11 p) from (by have g := w_i64 (((t6 p) + (t10 p))); omega))⟩
  · exact ⟨rfl, rfl, rfl, congrArg (fun z => some (Value.bool z)) (decide_eq_true (show ((t11 p) ≥ (0)) from by omega))⟩
  · exact ⟨rfl, rfl, rfl, congrArg (fun z => some (Value.int .i64 z)) (show IntKind.i64.wrap ((t11 p) + (4)) = (t12 p) from (by have g := w_i64 (((t11 p) + (4))); omega))⟩
  · exact ⟨rfl, rfl, rfl, congrArg (fun z => some (Value.bool z)) (decide_eq_false (show ¬ ((t12 p) ≤ (32)) from by omega))⟩
def re : List (Value × Value × Bool) := []
theorem hre (p : Nat → Int) (h : H p) : ∀ x ∈ re, RuleE (θ p) x := fun x hx => nomatch hx
abbrev sy (p : Nat → Int) (h : H p) : Sy := syOf (θ p) (plain p) r1 r2 re (hr1 p h) (hr2 p h) (hre p h)
end vx_hi0
namespace vx_in1
abbrev H (p : Nat → Int) : Prop := (-9223372036854775808 ≤ p 0 ∧ p 0 ≤ 9223372036854775807) ∧ (-32768 ≤ p 1 ∧ p 1 ≤ 32767) ∧ (-9223372036854775808 ≤ p 2 ∧ p 2 ≤ 9223372036854775807) ∧ ((p 2 % 18446744073709551616) % 4 = 1) ∧ (0 ≤ (p 0 % 18446744073709551616) % 129 - 64 + p 1 ∧ (p 0 % 18446744073709551616) % 129 - 64 + p 1 + 2 ≤ 32)
def t0 (p : Nat → Int) : Int := p 0
def t1 (p : Nat → Int) : Int := p 1
def t2 (p : Nat → Int) : Int := p 2
def t3 (p : Nat → Int) : Int := (IntKind.u64.wrap (t0 p))
def t4 (p : Nat → Int) : Int := (Int.tmod (t3 p) 129)
def t5 (p : Nat → Int) : Int := (IntKind.i64.wrap (t4 p))
def t6 (p : Nat → Int) : Int := (IntKind.i64.wrap ((t5 p) - 64))
def t7 (p : Nat → Int) : Int := (IntKind.i32.wrap (t6 p))
def t8 (p : Nat → Int) : Int := (IntKind.u64.wrap (t2 p))
def t9 (p : Nat → Int) : Int := (IntKind.u64.wrap (t6 p))
def t10 (p : Nat → Int) : Int := (IntKind.i64.wrap (t1 p))
def t11 (p : Nat → Int) : Int := (IntKind.i64.wrap ((t6 p) + (t10 p)))
def t12 (p : Nat → Int) : Int := (IntKind.i64.wrap ((t11 p) + 2))
def θ (p : Nat → Int) : Nat → Value := fun j => match j with
  | 0 => .int .i64 (t0 p)
  | 1 => .int .i16 (t1 p)
  | 2 => .int .i64 (t2 p)
  | 3 => .int .u64 (t3 p)
  | 4 => .int .u64 (t4 p)
  | 5 => .int .i64 (t5 p)
  | 6 => .int .i64 (t6 p)
  | 7 => .int .i32 (t7 p)
  | 8 => .int .u64 (t8 p)
  | 9 => .int .u64 (t9 p)
  | 10 => .int .i64 (t10 p)
  | 11 => .int .i64 (t11 p)
  | 12 => .int .i64 (t12 p)
  | _ => .bool false
theorem plain (p : Nat → Int) : ∀ j, plainV (θ p j) = true := by intro j; unfold θ; split <;> rfl
theorem fs (p : Nat → Int) : (t0 p = p 0) ∧ (t1 p = p 1) ∧ (t2 p = p 2) ∧ (t3 p = (t0 p) % 18446744073709551616) ∧ (0 ≤ (t3 p) → t4 p = (t3 p) % 129) ∧ (-9223372036854775808 ≤ t5 p ∧ t5 p < 9223372036854775808 ∧ ((t4 p) - t5 p) % 18446744073709551616 = 0) ∧ (-9223372036854775808 ≤ t6 p ∧ t6 p < 9223372036854775808 ∧ (((t5 p) - 64) - t6 p) % 18446744073709551616 = 0) ∧ (-2147483648 ≤ t7 p ∧ t7 p < 2147483648 ∧ ((t6 p) - t7 p) % 4294967296 = 0) ∧ (t8 p = (t2 p) % 18446744073709551616) ∧ (t9 p = (t6 p) % 18446744073709551616) ∧ (-9223372036854775808 ≤ t10 p ∧ t10 p < 9223372036854775808 ∧ ((t1 p) - t10 p) % 18446744073709551616 = 0) ∧ (-9223372036854775808 ≤ t11 p ∧ t11 p < 9223372036854775808 ∧ (((t6 p) + (t10 p)) - t11 p) % 18446744073709551616 = 0) ∧ (-9223372036854775808 ≤ t12 p ∧ t12 p < 9223372036854775808 ∧ (((t11 p) + 2) - t12 p) % 18446744073709551616 = 0) := ⟨rfl, rfl, rfl, w_u64 _, Int.tmod_eq_emod_of_nonneg, w_i64 _, w_i64 _, w_i32 _, w_u64 _, w_u64 _, w_i64 _, w_i64 _, w_i64 _⟩
def r1 : List (U1 × Value × Value) := [((.conv .u64), (.chan (some 0)), (.chan (some 3))), ((.conv .i64), (.chan (some 4)), (.chan (some 5))), ((.conv .i32), (.chan (some 6)), (.chan (some 7))), ((.conv .u64), (.chan (some 2)), (.chan (some 8))), ((.conv .i64), (.chan (some 7)), (.chan (some 6))), ((.conv .u64), (.chan (some 6)), (.chan (some 9))), ((.conv .i64), (.chan (some 9)), (.chan (some 6))), ((.conv .i64), (.chan (some 1)), (.chan (some 10)))]
theorem hr1 (p : Nat → Int) (h : H p) : ∀ x ∈ r1, Rule1 (θ p) x := by
  obtain ⟨⟨a0, b0⟩, ⟨a1, b1⟩, ⟨a2, b2⟩, hc0, hc1⟩ := h
  obtain ⟨f0, f1, f2, f3, f4, f5, f6, f7, f8, f9, f10, f11, f12⟩ := fs p
  replace f4 := f4 (by omega)
  intro x hx
  simp only [r1, List.mem_cons, List.not_mem_nil, or_false] at hx
  rcases hx with rfl | rfl | rfl | rfl | rfl | rfl | rfl | rfl
  · exact ⟨rfl, rfl, congrArg (fun z => some (Value.int .u64 z)) (show IntKind.u64.wrap (t0 p) = (t3 p) from ((w_u64 _).trans (by omega)))⟩
  · exact ⟨rfl, rfl, congrArg (fun z => some (Value.int .i64 z)) (show IntKind.i64.wrap (t4 p) = (t5 p) from (by have g := w_i64 ((t4 p)); omega))⟩
  · exact ⟨rfl, rfl, congrArg (fun z => some (Value.int .i32 z)) (show IntKind.i32.wrap (t6 p) = (t7 p) from (by have g := w_i32 ((t6 p)); omega))⟩
  · exact ⟨rfl, rfl, congrArg (fun z => some (Value.int .u64 z)) (show IntKind.u64.wrap (t2 p) = (t8 p) from ((w_u64 _).trans (by omega)))⟩
  · exact ⟨rfl, rfl, congrArg (fun z => some (Value.int .i64 z)) (show IntKind.i64.wrap (t7 p) = (t6 p) from (by have g := w_i64 ((t7 p)); omega))⟩
  · exact ⟨rfl, rfl, congrArg (fun z => some (Value.int .u64 z)) (show IntKind.u64.wrap (t6 p) = (t9 p) from ((w_u64 _).trans (by omega)))⟩
  · exact ⟨rfl, rfl, congrArg (fun z => some (Value.int .i64 z)) (show IntKind.i64.wrap (t9 p) = (t6 p) from (by have g := w_i64 ((t9 p)); omega))⟩
  · exact ⟨rfl, rfl, congrArg (fun z => some (Value.int .i64 z)) (show IntKind.i64.wrap (t1 p) = (t10 p) from (by have g := w_i64 ((t1 p)); omega))⟩
def r2 : List (U2 × Value × Value × Value) := [((.bin .rem), (.chan (some 3)), (.int .u64 129), (.chan (some 4))), ((.bin .sub), (.chan (some 5)), (.int .i64 64), (.chan (some 6))), ((.bin .rem), (.chan (some 8)), (.int .u64 4), (.int .u64 1)), ((.bin .lss), (.chan (some 6)), (.int .i64 (-64)), (.bool false)), ((.bin .gtr), (.chan (some 6)), (.int .i64 64), (.bool false)), ((.bin .gtr), (.chan (some 6)), (.chan (some 6)), (.bool false)), ((.bin .eql), (.chan (some 6)), (.chan (some 6)), (.bool true)), ((.bin .add), (.int .i64 0), (.chan (some 6)), (.chan (some 6))), ((.bin .geq), (.chan (some 6)), (.int .i64 (-131072)), (.bool true)), ((.bin .leq), (.chan (some 6)), (.int .i64 131072), (.bool true)), ((.bin .add), (.chan (some 6)), (.chan (some 10)), (.chan (some 11))), ((.bin .geq), (.chan (some 11)), (.int .i64 0), (.bool true)), ((.bin .add), (.chan (some 11)), (.int .i64 2), (.chan (some 12))), ((.bin .leq), (.chan (some 12)), (.int .i64 32), (.bool true))]
theorem hr2 (p : Nat → Int) (h : H p) : ∀ x ∈ r2, Rule2 (θ p) x := by
  obtain ⟨⟨a0, b0⟩, ⟨a1, b1⟩, ⟨a2, b2⟩, hc0, hc1⟩ := h
  obtain ⟨f0, f1, f2, f3, f4, f5, f6, f7, f8, f9, f10, f11, f12⟩ := fs p
  replace f4 := f4 (by omega)
  intro x hx
  simp only [r2, List.mem_cons, List.not_mem_nil, or_false] at hx
  rcases hx with rfl | rfl | rfl | rfl | rfl | rfl | rfl | rfl | rfl | rfl | rfl | rfl | rfl | rfl
  · exact ⟨rfl, rfl, rfl, by show intBin .rem .u64 (t3 p) .u64 (129) = some (.int .u64 (t4 p)); rw [show intBin .rem .u64 (t3 p) .u64 (129) = if IntKind.u64 = IntKind.u64 ∧ (129) ≠ 0 then some (.int .u64 (Int.tmod (t3 p) (129))) else none from rfl, if_pos ⟨rfl, by omega⟩, Int.tmod_eq_emod_of_nonneg (by omega)]; exact congrArg (fun z => some (Value.int .u64 z)) (by omega)⟩
  · exact ⟨rfl, rfl, rfl, congrArg (fun z => some (Value.int .i64 z)) (show IntKind.i64.wrap ((t5 p) - (64)) = (t6 p) from (by have g := w_i64 (((t5 p) - (64))); omega))⟩
  · exact ⟨rfl, rfl, rfl, by show intBin .rem .u64 (t8 p) .u64 (4) = some (.int .u64 (1)); rw [show intBin .rem .u64 (t8 p) .u64 (4) = if IntKind.u64 = IntKind.u64 ∧ (4) ≠ 0 then some (.int .u64 (Int.tmod (t8 p) (4))) else none from rfl, if_pos ⟨rfl, by omega⟩, Int.tmod_eq_emod_of_nonneg (by omega)]; exact congrArg (fun z => some (Value.int .u64 z)) (by omega)⟩
  · exact ⟨rfl, rfl, rfl, congrArg (fun z => some (Value.bool z)) (decide_eq_false (show ¬ ((t6 p) < (-64)) from by omega))⟩
  · exact ⟨rfl, rfl, rfl, congrArg (fun z => some (Value.bool z)) (decide_eq_false (show ¬ ((t6 p) > (64)) from by omega))⟩
  · exact ⟨rfl, rfl, rfl, congrArg (fun z => some (Value.bool z)) (decide_eq_false (show ¬ ((t6 p) > (t6 p)) from by omega))⟩
  · exact ⟨rfl, rfl, rfl, congrArg (fun z => some (Value.bool z)) (show ((t6 p) == (t6 p)) = true from beq_iff_eq.2 (by omega))⟩
  · exact ⟨rfl, rfl, rfl, congrArg (fun z => some (Value.int .i64 z)) (show IntKind.i64.wrap ((0) + (t6 p)) = (t6 p) from (by have g := w_i64 (((0) + (t6 p))); omega))⟩
  · exact ⟨rfl, rfl, rfl, congrArg (fun z => some (Value.bool z)) (decide_eq_true (show ((t6 p) ≥ (-131072)) from by omega))⟩
  · exact ⟨rfl, rfl, rfl, congrArg (fun z => some (Value.bool z)) (decide_eq_true (show ((t6 p) ≤ (131072)) from by omega))⟩
  · exact ⟨rfl, rfl, rfl, congrArg (fun z => some (Value.int .i64 z)) (show IntKind.i64.wrap ((t6 p) + (t10 p)) = (t11 p) from (by have g := w_i64 (((t6 p) + (t10 p))); omega))⟩
  · exact ⟨rfl, rfl, rfl, congrArg (fun z => some (Value.bool z)) (decide_eq_true (show ((t11 p) ≥ (0)) from by omega))⟩
  · exact ⟨rfl, rfl, rfl, congrArg (fun z => some (Value.int .i64 z)) (show IntKind.i64.wrap ((t11 p) + (2)) = (t12 p) from (by have g := w_i64 (((t11 p) + (2))); omega))⟩
  · exact ⟨rfl, rfl, rfl, congrArg (fun z => some (Value.bool z)) (decide_eq_true (show ((t12 p) ≤ (32)) from by omega))⟩
def re : List (Value × Value × Bool) := []
theorem hre (p : Nat → Int) (h : H p) : ∀ x ∈ re, RuleE (θ p) x := fun x hx => nomatch hx
abbrev sy (p : Nat → Int) (h : H p) : Sy := syOf (θ p) (plain p) r1 r2 re (hr1 p h) (hr2 p h) (hre p h)
end vx_in1
namespace vx_lo1
abbrev H (p : Nat → Int) : Prop := (-9223372036854775808 ≤ p 0 ∧ p 0 ≤ 9223372036854775807) ∧ (-32768 ≤ p 1 ∧ p 1 ≤ 32767) ∧ (-9223372036854775808 ≤ p 2 ∧ p 2 ≤ 9223372036854775807) ∧ ((p 2 % 18446744073709551616) % 4 = 1) ∧ ((p 0 % 18446744073709551616) % 129 - 64 + p 1 < 0)
def t0 (p : Nat → Int) : Int := p 0
def t1 (p : Nat → Int) : Int := p 1
def t2 (p : Nat → Int) : Int := p 2
def t3 (p : Nat → Int) : Int := (IntKind.u64.wrap (t0 p))
def t4 (p : Nat → Int) : Int := (Int.tmod (t3 p) 129)
def t5 (p : Nat → Int) : Int := (IntKind.i64.wrap (t4 p))
def t6 (p : Nat → Int) : Int := (IntKind.i64.wrap ((t5 p) - 64))
def t7 (p : Nat → Int) : Int := (IntKind.i32.wrap (t6 p))
def t8 (p : Nat → Int) : Int := (IntKind.u64.wrap (t2 p))
def t9 (p : Nat → Int) : Int := (IntKind.u64.wrap (t6 p))
def t10 (p : Nat → Int) : Int := (IntKind.i64.wrap (t1 p))
def t11 (p : Nat → Int) : Int := (IntKind.i64.wrap ((t6 p) + (t10 p)))
def θ (p : Nat → Int) : Nat → Value := fun j => match j with
  | 0 => .int .i64 (t0 p)
  | 1 => .int .i16 (t1 p)
  | 2 => .int .i64 (t2 p)
  | 3 => .int .u64 (t3 p)
  | 4 => .int .u64 (t4 p)
  | 5 => .int .i64 (t5 p)
  | 6 => .int .i64 (t6 p)
  | 7 => .int .i32 (t7 p)
  | 8 => .int .u64 (t8 p)
  | 9 => .int .u64 (t9 p)
  | 10 => .int .i64 (t10 p)
  | 11 => .int .i64 (t11 p)
  | _ => .bool false
theorem plain (p : Nat → Int) : ∀ j, plainV (θ p j) = true := by intro j; unfold θ; split <;> rfl
theorem fs (p : Nat → Int) : (t0 p = p 0) ∧ (t1 p = p 1) ∧ (t2 p = p 2) ∧ (t3 p = (t0 p) % 18446744073709551616) ∧ (0 ≤ (t3 p) → t4 p = (t3 p) % 129) ∧ (-9223372036854775808 ≤ t5 p ∧ t5 p < 9223372036854775808 ∧ ((t4 p) - t5 p) % 18446744073709551616 = 0) ∧ (-9223372036854775808 ≤ t6 p ∧ t6 p < 9223372036854775808 ∧ (((t5 p) - 64) - t6 p) % 18446744073709551616 = 0) ∧ (-2147483648 ≤ t7 p ∧ t7 p < 2147483648 ∧ ((t6 p) - t7 p) % 4294967296 = 0) ∧ (t8 p = (t2 p) % 18446744073709551616) ∧ (t9 p = (t6 p) % 18446744073709551616) ∧ (-9223372036854775808 ≤ t10 p ∧ t10 p < 9223372036854775808 ∧ ((t1 p) - t10 p) % 18446744073709551616 = 0) ∧ (-9223372036854775808 ≤ t11 p ∧ t11 p < 9223372036854775808 ∧ (((t6 p) + (t10 p)) - t11 p) % 18446744073709551616 = 0) := ⟨rfl, rfl, rfl, w_u64 _, Int.tmod_eq_emod_of_nonneg, w_i64 _, w_i64 _, w_i32 _, w_u64 _, w_u64 _, w_i64 _, w_i64 _⟩
def r1 : List (U1 × Value × Value) := [((.conv .u64), (.chan (some 0)), (.chan (some 3))), ((.conv .i64), (.chan (some 4)), (.chan (some 5))), ((.conv .i32), (.chan (some 6)), (.chan (some 7))), ((.conv .u64), (.chan (some 2)), (.chan (some 8))), ((.conv .i64), (.chan (some 7)), (.chan (some 6))), ((.conv .u64), (.chan (some 6)), (.chan (some 9))), ((.conv .i64), (.chan (some 9)), (.chan (some 6))), ((.conv .i64), (.chan (some 1)), (.chan (some 10)))]
theorem hr1 (p : Nat → Int) (h : H p) : ∀ x ∈ r1, Rule1 (θ p) x := by
  obtain ⟨⟨a0, b0⟩, ⟨a1, b1⟩, ⟨a2, b2⟩, hc0, hc1⟩ := h
  obtain ⟨f0, f1, f2, f3, f4, f5, f6, f7, f8, f9, f10, f11⟩ := fs p
  replace f4 := f4 (by omega)
  intro x hx
  simp only [r1, List.mem_cons, List.not_mem_nil, or_false] at hx
  rcases hx with rfl | rfl | rfl | rfl | rfl | rfl | rfl | rfl
  · exact ⟨rfl, rfl, congrArg (fun z => some (Value.int .u64 z)) (show IntKind.u64.wrap (t0 p) = (t3 p) from ((w_u64 _).trans (by omega)))⟩
  · exact ⟨rfl, rfl, congrArg (fun z => some (Value.int .i64 z)) (show IntKind.i64.wrap (t4 p) = (t5 p) from (by have g := w_i64 ((t4 p)); omega))⟩
  · exact ⟨rfl, rfl, congrArg (fun z => some (Value.int .i32 z)) (show IntKind.i32.wrap (t6 p) = (t7 p) from (by have g := w_i32 ((t6 p)); omega))⟩
  · exact ⟨rfl, rfl, congrArg (fun z => some (Value.int .u64 z)) (show IntKind.u64.wrap (t2 p) = (t8 p) from ((w_u64 _).trans (by omega)))⟩
  · exact ⟨rfl, rfl, congrArg (fun z => some (Value.int .i64 z)) (show IntKind.i64.wrap (t7 p) = (t6 p) from (by have g := w_i64 ((t7 p)); omega))⟩
  · exact ⟨rfl, rfl, congrArg (fun z => some (Value.int .u64 z)) (show IntKind.u64.wrap (t6 p) = (t9 p) from ((w_u64 _).trans (by omega)))⟩
  · exact ⟨rfl, rfl, congrArg (fun z => some (Value.int .i64 z)) (show IntKind.i64.wrap (t9 p) = (t6 p) from (by have g := w_i64 ((t9 p)); omega))⟩
  · exact ⟨rfl, rfl, congrArg (fun z => some (Value.int .i64 z)) (show IntKind.i64.wrap (t1 p) = (t10 p) from (by have g := w_i64 ((t1 p)); omega))⟩
def r2 : List (U2 × Value × Value × Value) := [((.bin .rem), (.chan (some 3)), (.int .u64 129), (.chan (some 4))), ((.bin .sub), (.chan (some 5)), (.int .i64 64), (.chan (some 6))), ((.bin .rem), (.chan (some 8)), (.int .u64 4), (.int .u64 1)), ((.bin .lss), (.chan (some 6)), (.int .i64 (-64)), (.bool false)), ((.bin .gtr), (.chan (some 6)), (.int .i64 64), (.bool false)), ((.bin .gtr), (.chan (some 6)), (.chan (some 6)), (.bool false)), ((.bin .eql), (.chan (some 6)), (.chan (some 6)), (.bool true)), ((.bin .add), (.int .i64 0), (.chan (some 6)), (.chan (some 6))), ((.bin .geq), (.chan (some 6)), (.int .i64 (-131072)), (.bool true)), ((.bin .leq), (.chan (some 6)), (.int .i64 131072), (.bool true)), ((.bin .add), (.chan (some 6)), (.chan (some 10)), (.chan (some 11))), ((.bin .geq), (.chan (some 11)), (.int .i64 0), (.bool false))]
theorem hr2 (p : Nat → Int) (h : H p) : ∀ x ∈ r2, Rule2 (θ p) x := by
  obtain ⟨⟨a0, b0⟩, ⟨a1, b1⟩, ⟨a2, b2⟩, hc0, hc1⟩ := h
  obtain ⟨f0, f1, f2, f3, f4, f5, f6, f7, f8, f9, f10, f11⟩ := fs p
  replace f4 := f4 (by omega)
  intro x hx
  simp only [r2, List.mem_cons, List.not_mem_nil, or_false] at hx
  rcases hx with rfl | rfl | rfl | rfl | rfl | rfl | rfl | rfl | rfl | rfl | rfl | rfl
  · exact ⟨rfl, rfl, rfl, by show intBin .rem .u64 (t3 p) .u64 (129) = some (.int .u64 (t4 p)); rw [show intBin .rem .u64 (t3 p) .u64 (129) = if IntKind.u64 = IntKind.u64 ∧ (129) ≠ 0 then some (.int .u64 (Int.tmod (t3 p) (129))) else none from rfl, if_pos ⟨rfl, by omega⟩, Int.tmod_eq_emod_of_nonneg (by omega)]; exact congrArg (fun z => some (Value.int .u64 z)) (by omega)⟩
  · exact ⟨rfl, rfl, rfl, congrArg (fun z => some (Value.int .i64 z)) (show IntKind.i64.wrap ((t5 p) - (64)) = (t6 p) from (by have g := w_i64 (((t5 p) - (64))); omega))⟩
  · exact ⟨rfl, rfl, rfl, by show intBin .rem .u64 (t8 p) .u64 (4) = some (.int .u64 (1)); rw [show intBin .rem .u64 (t8 p) .u64 (4) = if IntKind.u64 = IntKind.u64 ∧ (4) ≠ 0 then some (.int .u64 (Int.tmod (t8 p) (4))) else none from rfl, if_pos ⟨rfl, by omega⟩, Int.tmod_eq_emod_of_nonneg (by omega)]; exact congrArg (fun z => some (Value.int .u64 z)) (by omega)⟩
  · exact ⟨rfl, rfl, rfl, congrArg (fun z => some (Value.bool z)) (decide_eq_false (show ¬ ((t6 p) < (-64)) from by omega))⟩
  · exact ⟨rfl, rfl, rfl, congrArg (fun z => some (Value.bool z)) (decide_eq_false (show ¬ ((t6 p) > (64)) from by omega))⟩
  · exact ⟨rfl, rfl, rfl, congrArg (fun z => some (Value.bool z)) (decide_eq_false (show ¬ ((t6 p) > (t6 p)) from by omega))⟩
  · exact ⟨rfl, rfl, rfl, congrArg (fun z => some (Value.bool z)) (show ((t6 p) == (t6 p)) = true from beq_iff_eq.2 (by omega))⟩
  · exact ⟨rfl, rfl, rfl, congrArg (fun z => some (Value.int .i64 z)) (show IntKind.i64.wrap ((0) + (t6 p)) = (t6 p) from (by have g := w_i64 (((0) + (t6 p))); omega))⟩
  · exact ⟨rfl, rfl, rfl, congrArg (fun z => some (Value.bool z)) (decide_eq_true (show ((t6 p) ≥ (-131072)) from by omega))⟩
  · exact ⟨rfl, rfl, rfl, congrArg (fun z => some (Value.bool z)) (decide_eq_true (show ((t6 p) ≤ (131072)) from by omega))⟩
  · exact ⟨rfl, rfl, rfl, congrArg (fun z => some (Value.int .i64 z)) (show IntKind.i64.wrap ((t6 p) + (t10 p)) = (t11 p) from (by have g := w_i64 (((t6 p) + (t10 p))); omega))⟩
  · exact ⟨rfl, rfl, rfl, congrArg (fun z => some (Value.bool z)) (decide_eq_false (show ¬ ((t11 p) ≥ (0)) from by omega))⟩
def re : List (Value × Value × Bool) := []
theorem hre (p : Nat → Int) (h : H p) : ∀ x ∈ re, RuleE (θ p) x := fun x hx => nomatch hx
abbrev sy (p : Nat → Int) (h : H p) : Sy := syOf (θ p) (plain p) r1 r2 re (hr1 p h) (hr2 p h) (hre p h)
end vx_lo1
namespace vx_hi1
abbrev H (p : Nat → Int) : Prop := (-9223372036854775808 ≤ p 0 ∧ p 0 ≤ 9223372036854775807) ∧ (-32768 ≤ p 1 ∧ p 1 ≤ 32767) ∧ (-9223372036854775808 ≤ p 2 ∧ p 2 ≤ 9223372036854775807) ∧ ((p 2 % 18446744073709551616) % 4 = 1) ∧ (0 ≤ (p 0 % 18446744073709551616) % 129 - 64 + p 1 ∧ 32 < (p 0 % 18446744073709551616) % 129 - 64 + p 1 + 2)
def t0 (p : Nat → Int) : Int := p 0
def t1 (p : Nat → Int) : Int := p 1
def t2 (p : Nat → Int) : Int := p 2
def t3 (p : Nat → Int) : Int := (IntKind.u64.wrap (t0 p))
def t4 (p : Nat → Int) : Int := (Int.tmod (t3 p) 129)
def t5 (p : Nat → Int) : Int := (IntKind.i64.wrap (t4 p))
def t6 (p : Nat → Int) : Int := (IntKind.i64.wrap ((t5 p) - 64))
def t7 (p : Nat → Int) : Int := (IntKind.i32.wrap (t6 p))
def t8 (p : Nat → Int) : Int := (IntKind.u64.wrap (t2 p))
def t9 (p : Nat → Int) : Int := (IntKind.u64.wrap (t6 p))
def t10 (p : Nat → Int) : Int := (IntKind.i64.wrap (t1 p))
def t11 (p : Nat → Int) : Int := (IntKind.i64.wrap ((t6 p) + (t10 p)))
def t12 (p : Nat → Int) : Int := (IntKind.i64.wrap ((t11 p) + 2))
def θ (p : Nat → Int) : Nat → Value := fun j => match j with
  | 0 => .int .i64 (t0 p)
  | 1 => .int .i16 (t1 p)
  | 2 => .int .i64 (t2 p)
  | 3 => .int .u64 (t3 p)
  | 4 => .int .u64 (t4 p)
  | 5 => .int .i64 (t5 p)
  | 6 => .int .i64 (t6 p)
  | 7 => .int .i32 (t7 p)
  | 8 => .int .u64 (t8 p)
  | 9 => .int .u64 (t9 p)
  | 10 => .int .i64 (t10 p)
  | 11 => .int .i64 (t11 p)
  | 12 => .int .i64 (t12 p)
  | _ => .bool false
theorem plain (p : Nat → Int) : ∀ j, plainV (θ p j) = true := by intro j; unfold θ; split <;> rfl
theorem fs (p : Nat → Int) : (t0 p = p 0) ∧ (t1 p = p 1) ∧ (t2 p = p 2) ∧ (t3 p = (t0 p) % 18446744073709551616) ∧ (0 ≤ (t3 p) → t4 p = (t3 p) % 129) ∧ (-9223372036854775808 ≤ t5 p ∧ t5 p < 9223372036854775808 ∧ ((t4 p) - t5 p) % 18446744073709551616 = 0) ∧ (-9223372036854775808 ≤ t6 p ∧ t6 p < 9223372036854775808 ∧ (((t5 p) - 64) - t6 p) % 18446744073709551616 = 0) ∧ (-2147483648 ≤ t7 p ∧ t7 p < 2147483648 ∧ ((t6 p) - t7 p) % 4294967296 = 0) ∧ (t8 p = (t2 p) % 18446744073709551616) ∧ (t9 p = (t6 p) % 18446744073709551616) ∧ (-9223372036854775808 ≤ t10 p ∧ t10 p < 9223372036854775808 ∧ ((t1 p) - t10 p) % 18446744073709551616 = 0) ∧ (-9223372036854775808 ≤ t11 p ∧ t11 p < 9223372036854775808 ∧ (((t6 p) + (t10 p)) - t11 p) % 18446744073709551616 = 0) ∧ (-9223372036854775808 ≤ t12 p ∧ t12 p < 9223372036854775808 ∧ (((t11 p) + 2) - t12 p) % 18446744073709551616 = 0) := ⟨rfl, rfl, rfl, w_u64 _, Int.tmod_eq_emod_of_nonneg, w_i64 _, w_i64 _, w_i32 _, w_u64 _, w_u64 _, w_i64 _, w_i64 _, w_i64 _⟩
def r1 : List (U1 × Value × Value) := [((.conv .u64), (.chan (some 0)), (.chan (some 3))), ((.conv .i64), (.chan (some 4)), (.chan (some 5))), ((.conv .i32), (.chan (some 6)), (.chan (some 7))), ((.conv .u64), (.chan (some 2)), (.chan (some 8))), ((.conv .i64), (.chan (some 7)), (.chan (some 6))), ((.conv .u64), (.chan (some 6)), (.chan (some 9))), ((.conv .i64), (.chan (some 9)), (.chan (some 6))), ((.conv .i64), (.chan (some 1)), (.chan (some 10)))]
theorem hr1 (p : Nat → Int) (h : H p) : ∀ x ∈ r1, Rule1 (θ p) x := by
  obtain ⟨⟨a0, b0⟩, ⟨a1, b1⟩, ⟨a2, b2⟩, hc0, hc1⟩ := h
  obtain ⟨f0, f1, f2, f3, f4, f5, f6, f7, f8, f9, f10, f11, f12⟩ := fs p
  replace f4 := f4 (by omega)
  intro x hx
  simp only [r1, List.mem_cons, List.not_mem_nil, or_false] at hx
  rcases hx with rfl | rfl | rfl | rfl | rfl | rfl | rfl | rfl
  · exact ⟨rfl, rfl, congrArg (fun z => some (Value.int .u64 z)) (show IntKind.u64.wrap (t0 p) = (t3 p) from ((w_u64 _).trans (by omega)))⟩
  · exact ⟨rfl, rfl, congrArg (fun z => some (Value.int .i64 z)) (show IntKind.i64.wrap (t4 p) = (t5 p) from (by have g := w_i64 ((t4 p)); omega))⟩
  · exact ⟨rfl, rfl, congrArg (fun z => some (Value.int .i32 z)) (show IntKind.i32.wrap (t6 p) = (t7 p) from (by have g := w_i32 ((t6 p)); omega))⟩
  · exact ⟨rfl, rfl, congrArg (fun z => some (Value.int .u64 z)) (show IntKind.u64.wrap (t2 p) = (t8 p) from ((w_u64 _).trans (by omega)))⟩
  · exact ⟨rfl, rfl, congrArg (fun z => some (Value.int .i64 z)) (show IntKind.i64.wrap (t7 p) = (t6 p) from (by have g := w_i64 ((t7 p)); omega))⟩
  · exact ⟨rfl, rfl, congrArg (fun z => some (Value.int .u64 z)) (show IntKind.u64.wrap (t6 p) = (t9 p) from ((w_u64 _).trans (by omega)))⟩
  · exact ⟨rfl, rfl, congrArg (fun z => some (Value.int .i64 z)) (show IntKind.i64.wrap (t9 p) = (t6 p) from (by have g := w_i64 ((t9 p)); omega))⟩
  · exact ⟨rfl, rfl, congrArg (fun z => some (Value.int .i64 z)) (show IntKind.i64.wrap (t1 p) = (t10 p) from (by have g := w_i64 ((t1 p)); omega))⟩
def r2 : List (U2 × Value × Value × Value) := [((.bin .rem), (.chan (some 3)), (.int .u64 129), (.chan (some 4))), ((.bin .sub), (.chan (some 5)), (.int .i64 64), (.chan (some 6))), ((.bin .rem), (.chan (some 8)), (.int .u64 4), (.int .u64 1)), ((.bin .lss), (.chan (some 6)), (.int .i64 (-64)), (.bool false)), ((.bin .gtr), (.chan (some 6)), (.int .i64 64), (.bool false)), ((.bin .gtr), (.chan (some 6)), (.chan (some 6)), (.bool false)), ((.bin .eql), (.chan (some 6)), (.chan (some 6)), (.bool true)), ((.bin .add), (.int .i64 0), (.chan (some 6)), (.chan (some 6))), ((.bin .geq), (.chan (some 6)), (.int .i64 (-131072)), (.bool true)), ((.bin .leq), (.chan (some 6)), (.int .i64 131072), (.bool true)), ((.bin .add), (.chan (some 6)), (.chan (some 10)), (.chan (some 11))), ((.bin .geq), (.chan (some 11)), (.int .i64 0), (.bool true)), ((.bin .add), (.chan (some 11)), (.int .i64 2), (.chan (some 12))), ((.bin .leq), (.chan (some 12)), (.int .i64 32), (.bool false))]
theorem hr2 (p : Nat → Int) (h : H p) : ∀ x ∈ r2, Rule2 (θ p) x := by
  obtain ⟨⟨a0, b0⟩, ⟨a1, b1⟩, ⟨a2, b2⟩, hc0, hc1⟩ := h
  obtain ⟨f0, f1, f2, f3, f4, f5, f6, f7, f8, f9, f10, f11, f12⟩ := fs p
  replace f4 := f4 (by omega)
  intro x hx
  simp only [r2, List.mem_cons, List.not_mem_nil, or_false] at hx
  rcases hx with rfl | rfl | rfl | rfl | rfl | rfl | rfl | rfl | rfl | rfl | rfl | rfl | rfl | rfl
  · exact ⟨rfl, rfl, rfl, by show intBin .rem .u64 (t3 p) .u64 (129) = some (.int .u64 (t4 p)); rw [show intBin .rem .u64 (t3 p) .u64 (129) = if IntKind.u64 = IntKind.u64 ∧ (129) ≠ 0 then some (.int .u64 (Int.tmod (t3 p) (129))) else none from rfl, if_pos ⟨rfl, by omega⟩, Int.tmod_eq_emod_of_nonneg (by omega)]; exact congrArg (fun z => some (Value.int .u64 z)) (by omega)⟩
  · exact ⟨rfl, rfl, rfl, congrArg (fun z => some (Value.int .i64 z)) (show IntKind.i64.wrap ((t5 p) - (64)) = (t6 p) from (by have g := w_i64 (((t5 p) - (64))); omega))⟩
  · exact ⟨rfl, rfl, rfl, by show intBin .rem .u64 (t8 p) .u64 (4) = some (.int .u64 (1)); rw [show intBin .rem .u64 (t8 p) .u64 (4) = if IntKind.u64 = IntKind.u64 ∧ (4) ≠ 0 then some (.int .u64 (Int.tmod (t8 p) (4))) else none from rfl, if_pos ⟨rfl, by omega⟩, Int.tmod_eq_emod_of_nonneg (by omega)]; exact congrArg (fun z => some (Value.int .u64 z)) (by omega)⟩
  · exact ⟨rfl, rfl, rfl, congrArg (fun z => some (Value.bool z)) (decide_eq_false (show ¬ ((t6 p) < (-64)) from by omega))⟩
  · exact ⟨rfl, rfl, rfl, congrArg (fun z => some (Value.bool z)) (decide_eq_false (show ¬ ((t6 p) > (64)) from by omega))⟩
  · exact ⟨rfl, rfl, rfl, congrArg (fun z => some (Value.bool z)) (decide_eq_false (show ¬ ((t6 p) > (t6 p)) from by omega))⟩
  · exact ⟨rfl, rfl, rfl, congrArg (fun z => some (Value.bool z)) (show ((t6 p) == (t6 p)) = true from beq_iff_eq.2 (by omega))⟩
  · exact ⟨rfl, rfl, rfl, congrArg (fun z => some (Value.int .i64 z)) (show IntKind.i64.wrap ((0) + (t6 p)) = (t6 p) from (by have g := w_i64 (((0) + (t6 p))); omega))⟩
  · exact ⟨rfl, rfl, rfl, congrArg (fun z => some (Value.bool z)) (decide_eq_true (show ((t6 p) ≥ (-131072)) from by omega))⟩
  · exact ⟨rfl, rfl, rfl, congrArg (fun z => some (Value.bool z)) (decide_eq_true (show ((t6 p) ≤ (131072)) from by omega))⟩
  · exact ⟨rfl, rfl, rfl, congrArg (fun z => some (Value.int .i64 z)) (show IntKind.i64.wrap ((t6 p) + (t10 p)) = (t11 p) from (by have g := w_i64 (((t6 p) + (t10 p))); omega))⟩
  · exact ⟨rfl, rfl, rfl, congrArg (fun z => some (Value.bool z)) (decide_eq_true (show ((t11 p) ≥ (0)) from by omega))⟩
  · exact ⟨rfl, rfl, rfl, congrArg (fun z => some (Value.int .i64 z)) (show IntKind.i64.wrap ((t11 p) + (2)) = (t12 p) from (by have g := w_i64 (((t11 p) + (2))); omega))⟩
  · exact ⟨rfl, rfl, rfl, congrArg (fun z => some (Value.bool z)) (decide_eq_false (show ¬ ((t12 p) ≤ (32)) from by omega))⟩
def re : List (Value × Value × Bool) := []
theorem hre (p : Nat → Int) (h : H p) : ∀ x ∈ re, RuleE (θ p) x := fun x hx => nomatch hx
abbrev sy (p : Nat → Int) (h : H p) : Sy := syOf (θ p) (plain p) r1 r2 re (hr1 p h) (hr2 p h) (hre p h)
end vx_hi1
namespace vx_in2
abbrev H (p : Nat → Int) : Prop := (-9223372036854775808 ≤ p 0 ∧ p 0 ≤ 9223372036854775807) ∧ (-32768 ≤ p 1 ∧ p 1 ≤ 32767) ∧ (-9223372036854775808 ≤ p 2 ∧ p 2 ≤ 9223372036854775807) ∧ ((p 2 % 18446744073709551616) % 4 = 2) ∧ (0 ≤ (p 0 % 18446744073709551616) % 129 - 64 + p 1 ∧ (p 0 % 18446744073709551616) % 129 - 64 + p 1 + 1 ≤ 32)
def t0 (p : Nat → Int) : Int := p 0
def t1 (p : Nat → Int) : Int := p 1
def t2 (p : Nat → Int) : Int := p 2
def t3 (p : Nat → Int) : Int := (IntKind.u64.wrap (t0 p))
def t4 (p : Nat → Int) : Int := (Int.tmod (t3 p) 129)
def t5 (p : Nat → Int) : Int := (IntKind.i64.wrap (t4 p))
def t6 (p : Nat → Int) : Int := (IntKind.i64.wrap ((t5 p) - 64))
def t7 (p : Nat → Int) : Int := (IntKind.i32.wrap (t6 p))
def t8 (p : Nat → Int) : Int := (IntKind.u64.wrap (t2 p))
def t9 (p : Nat → Int) : Int := (IntKind.u64.wrap (t6 p))
def t10 (p : Nat → Int) : Int := (IntKind.i64.wrap (t1 p))
def t11 (p : Nat → Int) : Int := (IntKind.i64.wrap ((t6 p) + (t10 p)))
def t12 (p : Nat → Int) : Int := (IntKind.i64.wrap ((t11 p) + 1))
def θ (p : Nat → Int) : Nat → Value := fun j => match j with
  | 0 => .int .i64 (t0 p)
  | 1 => .int .i16 (t1 p)
  | 2 => .int .i64 (t2 p)
  | 3 => .int .u64 (t3 p)
  | 4 => .int .u64 (t4 p)
  | 5 => .int .i64 (t5 p)
  | 6 => .int .i64 (t6 p)
  | 7 => .int .i32 (t7 p)
  | 8 => .int .u64 (t8 p)
  | 9 => .int .u64 (t9 p)
  | 10 => .int .i64 (t10 p)
  | 11 => .int .i64 (t11 p)
  | 12 => .int .i64 (t12 p)
  | _ => .bool false
theorem plain (p : Nat → Int) : ∀ j, plainV (θ p j) = true := by intro j; unfold θ; split <;> rfl
theorem fs (p : Nat → Int) : (t0 p = p 0) ∧ (t1 p = p 1) ∧ (t2 p = p 2) ∧ (t3 p = (t0 p) % 18446744073709551616) ∧ (0 ≤ (t3 p) → t4 p = (t3 p) % 129) ∧ (-9223372036854775808 ≤ t5 p ∧ t5 p < 9223372036854775808 ∧ ((t4 p) - t5 p) % 18446744073709551616 = 0) ∧ (-9223372036854775808 ≤ t6 p ∧ t6 p < 9223372036854775808 ∧ (((t5 p) - 64) - t6 p) % 18446744073709551616 = 0) ∧ (-2147483648 ≤ t7 p ∧ t7 p < 2147483648 ∧ ((t6 p) - t7 p) % 4294967296 = 0) ∧ (t8 p = (t2 p) % 18446744073709551616) ∧ (t9 p = (t6 p) % 18446744073709551616) ∧ (-9223372036854775808 ≤ t10 p ∧ t10 p < 9223372036854775808 ∧ ((t1 p) - t10 p) % 18446744073709551616 = 0) ∧ (-9223372036854775808 ≤ t11 p ∧ t11 p < 9223372036854775808 ∧ (((t6 p) + (t10 p)) - t11 p) % 18446744073709551616 = 0) ∧ (-9223372036854775808 ≤ t12 p ∧ t12 p < 9223372036854775808 ∧ (((t11 p) + 1) - t12 p) % 18446744073709551616 = 0) := ⟨rfl, rfl, rfl, w_u64 _, Int.tmod_eq_emod_of_nonneg, w_i64 _, w_i64 _, w_i32 _, w_u64 _, w_u64 _, w_i64 _, w_i64 _, w_i64 _⟩
def r1 : List (U1 × Value × Value) := [((.conv .u64), (.chan (some 0)), (.chan (some 3))), ((.conv .i64), (.chan (some 4)), (.chan (some 5))), ((.conv .i32), (.chan (some 6)), (.chan (some 7))), ((.conv .u64), (.chan (some 2)), (.chan (some 8))), ((.conv .i64), (.chan (some 7)), (.chan (some 6))), ((.conv .u64), (.chan (some 6)), (.chan (some 9))), ((.conv .i64), (.chan (some 9)), (.chan (some 6))), ((.conv .i64), (.chan (some 1)), (.chan (some 10)))]
theorem hr1 (p : Nat → Int) (h : H p) : ∀ x ∈ r1, Rule1 (θ p) x := by
  obtain ⟨⟨a0, b0⟩, ⟨a1, b1⟩, ⟨a2, b2⟩, hc0, hc1⟩ := h
  obtain ⟨f0, f1, f2, f3, f4, f5, f6, f7, f8, f9, f10, f11, f12⟩ := fs p
  replace f4 := f4 (by omega)
  intro x hx
  simp only [r1, List.mem_cons, List.not_mem_nil, or_false] at hx
  rcases hx with rfl | rfl | rfl | rfl | rfl | rfl | rfl | rfl
  · exact ⟨rfl, rfl, congrArg (fun z => some (Value.int .u64 z)) (show IntKind.u64.wrap (t0 p) = (t3 p) from ((w_u64 _).trans (by omega)))⟩
  · exact ⟨rfl, rfl, congrArg (fun z => some (Value.int .i64 z)) (show IntKind.i64.wrap (t4 p) = (t5 p) from (by have g := w_i64 ((t4 p)); omega))⟩
  · exact ⟨rfl, rfl, congrArg (fun z => some (Value.int .i32 z)) (show IntKind.i32.wrap (t6 p) = (t7 p) from (by have g := w_i32 ((t6 p)); omega))⟩
  · exact ⟨rfl, rfl, congrArg (fun z => some (Value.int .u64 z)) (show IntKind.u64.wrap (t2 p) = (t8 p) from ((w_u64 _).trans (by omega)))⟩
  · exact ⟨rfl, rfl, congrArg (fun z => some (Value.int .i64 z)) (show IntKind.i64.wrap (t7 p) = (t6 p) from (by have g := w_i64 ((t7 p)); omega))⟩
  · exact ⟨rfl, rfl, congrArg (fun z => some (Value.int .u64 z)) (show IntKind.u64.wrap (t6 p) = (t9 p) from ((w_u64 _).trans (by omega)))⟩
  · exact ⟨rfl, rfl, congrArg (fun z => some (Value.int .i64 z)) (show IntKind.i64.wrap (t9 p) = (t6 p) from (by have g := w_i64 ((t9 p)); omega))⟩
  · exact ⟨rfl, rfl, congrArg (fun z => some (Value.int .i64 z)) (show IntKind.i64.wrap (t1 p) = (t10 p) from (by have g := w_i64 ((t1 p)); omega))⟩
def r2 : List (U2 × Value × Value × Value) := [((.bin .rem), (.chan (some 3)), (.int .u64 129), (.chan (some 4))), ((.bin .sub), (.chan (some 5)), (.int .i64 64), (.chan (some 6))), ((.bin .rem), (.chan (some 8)), (.int .u64 4), (.int .u64 2)), ((.bin .lss), (.chan (some 6)), (.int .i64 (-64)), (.bool false)), ((.bin .gtr), (.chan (some 6)), (.int .i64 64), (.bool false)), ((.bin .gtr), (.chan (some 6)), (.chan (some 6)), (.bool false)), ((.bin .eql), (.chan (some 6)), (.chan (some 6)), (.bool true)), ((.bin .add), (.int .i64 0), (.chan (some 6)), (.chan (some 6))), ((.bin .geq), (.chan (some 6)), (.int .i64 (-131072)), (.bool true)), ((.bin .leq), (.chan (some 6)), (.int .i64 131072), (.bool true)), ((.bin .add), (.chan (some 6)), (.chan (some 10)), (.chan (some 11))), ((.bin .geq), (.chan (some 11)), (.int .i64 0), (.bool true)), ((.bin .add), (.chan (some 11)), (.int .i64 1), (.chan (some 12))), ((.bin .leq), (.chan (some 12)), (.int .i64 32), (.bool true))]
theorem hr2 (p : Nat → Int) (h : H p) : ∀ x ∈ r2, Rule2 (θ p) x := by
  obtain ⟨⟨a0, b0⟩, ⟨a1, b1⟩, ⟨a2, b2⟩, hc0, hc1⟩ := h
  obtain ⟨f0, f1, f2, f3, f4, f5, f6, f7, f8, f9, f10, f11, f12⟩ := fs p
  replace f4 := f4 (by omega)
  intro x hx
  simp only [r2, List.mem_cons, List.not_mem_nil, or_false] at hx
  rcases hx with rfl | rfl | rfl | rfl | rfl | rfl | rfl | rfl | rfl | rfl | rfl | rfl | rfl | rfl
  · exact ⟨rfl, rfl, rfl, by show intBin .rem .u64 (t3 p) .u64 (129) = some (.int .u64 (t4 p)); rw [show intBin .rem .u64 (t3 p) .u64 (129) = if IntKind.u64 = IntKind.u64 ∧ (129) ≠ 0 then some (.int .u64 (Int.tmod (t3 p) (129))) else none from rfl, if_pos ⟨rfl, by omega⟩, Int.tmod_eq_emod_of_nonneg (by omega)]; exact congrArg (fun z => some (Value.int .u64 z)) (by omega)⟩
  · exact ⟨rfl, rfl, rfl, congrArg (fun z => some (Value.int .i64 z)) (show IntKind.i64.wrap ((t5 p) - (64)) = (t6 p) from (by have g := w_i64 (((t5 p) - (64))); omega))⟩
  · exact ⟨rfl, rfl, rfl, by show intBin .rem .u64 (t8 p) .u64 (4) = some (.int .u64 (2)); rw [show intBin .rem .u64 (t8 p) .u64 (4) = if IntKind.u64 = IntKind.u64 ∧ (4) ≠ 0 then some (.int .u64 (Int.tmod (t8 p) (4))) else none from rfl, if_pos ⟨rfl, by omega⟩, Int.tmod_eq_emod_of_nonneg (by omega)]; exact congrArg (fun z => some (Value.int .u64 z)) (by omega)⟩
  · exact ⟨rfl, rfl, rfl, congrArg (fun z => some (Value.bool z)) (decide_eq_false (show ¬ ((t6 p) < (-64)) from by omega))⟩
  · exact ⟨rfl, rfl, rfl, congrArg (fun z => some (Value.bool z)) (decide_eq_false (show ¬ ((t6 p) > (64)) from by omega))⟩
  · exact ⟨rfl, rfl, rfl, congrArg (fun z => some (Value.bool z)) (decide_eq_false (show ¬ ((t6 p) > (t6 p)) from by omega))⟩
  · exact ⟨rfl, rfl, rfl, congrArg (fun z => some (Value.bool z)) (show ((t6 p) == (t6 p)) = true from beq_iff_eq.2 (by omega))⟩
  · exact ⟨rfl, rfl, rfl, congrArg (fun z => some (Value.int .i64 z)) (show IntKind.i64.wrap ((0) + (t6 p)) = (t6 p) from (by have g := w_i64 (((0) + (t6 p))); omega))⟩
  · exact ⟨rfl, rfl, rfl, congrArg (fun z => some (Value.bool z)) (decide_eq_true (show ((t6 p) ≥ (-131072)) from by omega))⟩
  · exact ⟨rfl, rfl, rfl, congrArg (fun z => some (Value.bool z)) (decide_eq_true (show ((t6 p) ≤ (131072)) from by omega))⟩
  · exact ⟨rfl, rfl, rfl, congrArg (fun z => some (Value.int .i64 z)) (show IntKind.i64.wrap ((t6 p) + (t10 p)) = (t11 p) from (by have g := w_i64 (((t6 p) + (t10 p))); omega))⟩
  · exact ⟨rfl, rfl, rfl, congrArg (fun z => some (Value.bool z)) (decide_eq_true (show ((t11 p) ≥ (0)) from by omega))⟩
  · exact ⟨rfl, rfl, rfl, congrArg (fun z => some (Value.int .i64 z)) (show IntKind.i64.wrap ((t11 p) + (1)) = (t12 p) from (by have g := w_i64 (((t11 p) + (1))); omega))⟩
  · exact ⟨rfl, rfl, rfl, congrArg (fun z => some (Value.bool z)) (decide_eq_true (show ((t12 p) ≤ (32)) from by omega))⟩
def re : List (Value × Value × Bool) := []
theorem hre (p : Nat → Int) (h : H p) : ∀ x ∈ re, RuleE (θ p) x := fun x hx => nomatch hx
abbrev sy (p : Nat → Int) (h : H p) : Sy := syOf (θ p) (plain p) r1 r2 re (hr1 p h) (hr2 p h) (hre p h)
end vx_in2
namespace vx_lo2
abbrev H (p : Nat → Int) : Prop := (-9223372036854775808 ≤ p 0 ∧ p 0 ≤ 9223372036854775807) ∧ (-32768 ≤ p 1 ∧ p 1 ≤ 32767) ∧ (-9223372036854775808 ≤ p 2 ∧ p 2 ≤ 9223372036854775807) ∧ ((p 2 % 18446744073709551616) % 4 = 2) ∧ ((p 0 % 18446744073709551616) % 129 - 64 + p 1 < 0)
def t0 (p : Nat → Int) : Int := p 0
def t1 (p : Nat → Int) : Int := p 1
def t2 (p : Nat → Int) : Int := p 2
def t3 (p : Nat → Int) : Int := (IntKind.u64.wrap (t0 p))
def t4 (p : Nat → Int) : Int := (Int.tmod (t3 p) 129)
def t5 (p : Nat → Int) : Int := (IntKind.i64.wrap (t4 p))
def t6 (p : Nat → Int) : Int := (IntKind.i64.wrap ((t5 p) - 64))
def t7 (p : Nat → Int) : Int := (IntKind.i32.wrap (t6 p))
def t8 (p : Nat → Int) : Int := (IntKind.u64.wrap (t2 p))
def t9 (p : Nat → Int) : Int := (IntKind.u64.wrap (t6 p))
def t10 (p : Nat → Int) : Int := (IntKind.i64.wrap (t1 p))
def t11 (p : Nat → Int) : Int := (IntKind.i64.wrap ((t6 p) + (t10 p)))
def θ (p : Nat → Int) : Nat → Value := fun j => match j with
  | 0 => .int .i64 (t0 p)
  | 1 => .int .i16 (t1 p)
  | 2 => .int .i64 (t2 p)
  | 3 => .int .u64 (t3 p)
  | 4 => .int .u64 (t4 p)
  | 5 => .int .i64 (t5 p)
  | 6 => .int .i64 (t6 p)
  | 7 => .int .i32 (t7 p)
  | 8 => .int .u64 (t8 p)
  | 9 => .int .u64 (t9 p)
  | 10 => .int .i64 (t10 p)
  | 11 => .int .i64 (t11 p)
  | _ => .bool false
theorem plain (p : Nat → Int) : ∀ j, plainV (θ p j) = true := by intro j; unfold θ; split <;> rfl
theorem fs (p : Nat → Int) : (t0 p = p 0) ∧ (t1 p = p 1) ∧ (t2 p = p 2) ∧ (t3 p = (t0 p) % 18446744073709551616) ∧ (0 ≤ (t3 p) → t4 p = (t3 p) % 129) ∧ (-9223372036854775808 ≤ t5 p ∧ t5 p < 9223372036854775808 ∧ ((t4 p) - t5 p) % 18446744073709551616 = 0) ∧ (-9223372036854775808 ≤ t6 p ∧ t6 p < 9223372036854775808 ∧ (((t5 p) - 64) - t6 p) % 18446744073709551616 = 0) ∧ (-2147483648 ≤ t7 p ∧ t7 p < 2147483648 ∧ ((t6 p) - t7 p) % 4294967296 = 0) ∧ (t8 p = (t2 p) % 18446744073709551616) ∧ (t9 p = (t6 p) % 18446744073709551616) ∧ (-9223372036854775808 ≤ t10 p ∧ t10 p < 9223372036854775808 ∧ ((t1 p) - t10 p) % 18446744073709551616 = 0) ∧ (-9223372036854775808 ≤ t11 p ∧ t11 p < 9223372036854775808 ∧ (((t6 p) + (t10 p)) - t11 p) % 18446744073709551616 = 0) := ⟨rfl, rfl, rfl, w_u64 _, Int.tmod_eq_emod_of_nonneg, w_i64 _, w_i64 _, w_i32 _, w_u64 _, w_u64 _, w_i64 _, w_i64 _⟩
def r1 : List (U1 × Value × Value) := [((.conv .u64), (.chan (some 0)), (.chan (some 3))), ((.conv .i64), (.chan (some 4)), (.chan (some 5))), ((.conv .i32), (.chan (some 6)), (.chan (some 7))), ((.conv .u64), (.chan (some 2)), (.chan (some 8))), ((.conv .i64), (.chan (some 7)), (.chan (some 6))), ((.conv .u64), (.chan (some 6)), (.chan (some 9))), ((.conv .i64), (.chan (some 9)), (.chan (some 6))), ((.conv .i64), (.chan (some 1)), (.chan (some 10)))]
theorem hr1 (p : Nat → Int) (h : H p) : ∀ x ∈ r1, Rule1 (θ p) x := by
  obtain ⟨⟨a0, b0⟩, ⟨a1, b1⟩, ⟨a2, b2⟩, hc0, hc1⟩ := h
  obtain ⟨f0, f1, f2, f3, f4, f5, f6, f7, f8, f9, f10, f11⟩ := fs p
  replace f4 := f4 (by omega)
  intro x hx
  simp only [r1, List.mem_cons, List.not_mem_nil, or_false] at hx
  rcases hx with rfl | rfl | rfl | rfl | rfl | rfl | rfl | rfl
  · exact ⟨rfl, rfl, congrArg (fun z => some (Value.int .u64 z)) (show IntKind.u64.wrap (t0 p) = (t3 p) from ((w_u64 _).trans (by omega)))⟩
  · exact ⟨rfl, rfl, congrArg (fun z => some (Value.int .i64 z)) (show IntKind.i64.wrap (t4 p) = (t5 p) from (by have g := w_i64 ((t4 p)); omega))⟩
  · exact ⟨rfl, rfl, congrArg (fun z => some (Value.int .i32 z)) (show IntKind.i32.wrap (t6 p) = (t7 p) from (by have g := w_i32 ((t6 p)); omega))⟩
  · exact ⟨rfl, rfl, congrArg (fun z => some (Value.int .u64 z)) (show IntKind.u64.wrap (t2 p) = (t8 p) from ((w_u64 _).trans (by omega)))⟩
  · exact ⟨rfl, rfl, congrArg (fun z => some (Value.int .i64 z)) (show IntKind.i64.wrap (t7 p) = (t6 p) from (by have g := w_i64 ((t7 p)); omega))⟩
  · exact ⟨rfl, rfl, congrArg (fun z => some (Value.int .u64 z)) (show IntKind.u64.wrap (t6 p) = (t9 p) from ((w_u64 _).trans (by omega)))⟩
  · exact ⟨rfl, rfl, congrArg (fun z => some (Value.int .i64 z)) (show IntKind.i64.wrap (t9 p) = (t6 p) from (by have g := w_i64 ((t9 p)); omega))⟩
  · exact ⟨rfl, rfl, congrArg (fun z => some (Value.int .i64 z)) (show IntKind.i64.wrap (t1 p) = (t10 p) from (by have g := w_i64 ((t1 p)); omega))⟩
def r2 : List (U2 × Value × Value × Value) := [((.bin .rem), (.chan (some 3)), (.int .u64 129), (.chan (some 4))), ((.bin .sub), (.chan (some 5)), (.int .i64 64), (.chan (some 6))), ((.bin .rem), (.chan (some 8)), (.int .u64 4), (.int .u64 2)), ((.bin .lss), (.chan (some 6)), (.int .i64 (-64)), (.bool false)), ((.bin .gtr), (.chan (some 6)), (.int .i64 64), (.bool false)), ((.bin .gtr), (.chan (some 6)), (.chan (some 6)), (.bool false)), ((.bin .eql), (.chan (some 6)), (.chan (some 6)), (.bool true)), ((.bin .add), (.int .i64 0), (.chan (some 6)), (.chan (some 6))), ((.bin .geq), (.chan (some 6)), (.int .i64 (-131072)), (.bool true)), ((.bin .leq), (.chan (some 6)), (.int .i64 131072), (.bool true)), ((.bin .add), (.chan (some 6)), (.chan (some 10)), (.chan (some 11))), ((.bin .geq), (.chan (some 11)), (.int .i64 0), (.bool false))]
theorem hr2 (p : Nat → Int) (h : H p) : ∀ x ∈ r2, Rule2 (θ p) x := by
  obtain ⟨⟨a0, b0⟩, ⟨a1, b1⟩, ⟨a2, b2⟩, hc0, hc1⟩ := h
  obtain ⟨f0, f1, f2, f3, f4, f5, f6, f7, f8, f9, f10, f11⟩ := fs p
  replace f4 := f4 (by omega)
  intro x hx
  simp only [r2, List.mem_cons, List.not_mem_nil, or_false] at hx
  rcases hx with rfl | rfl | rfl | rfl | rfl | rfl | rfl | rfl | rfl | rfl | rfl | rfl
  · exact ⟨rfl, rfl, rfl, by show intBin .rem .u64 (t3 p) .u64 (129) = some (.int .u64 (t4 p)); rw [show intBin .rem .u64 (t3 p) .u64 (129) = if IntKind.u64 = IntKind.u64 ∧ (129) ≠ 0 then some (.int .u64 (Int.tmod (t3 p) (129))) else none from rfl, if_pos ⟨rfl, by omega⟩, Int.tmod_eq_emod_of_nonneg (by omega)]; exact congrArg (fun z => some (Value.int .u64 z)) (by omega)⟩
  · exact ⟨rfl, rfl, rfl, congrArg (fun z => some (Value.int .i64 z)) (show IntKind.i64.wrap ((t5 p) - (64)) = (t6 p) from (by have g := w_i64 (((t5 p) - (64))); omega))⟩
  · exact ⟨rfl, rfl, rfl, by show intBin .rem .u64 (t8 p) .u64 (4) = some (.int .u64 (2)); rw [show intBin .rem .u64 (t8 p) .u64 (4) = if IntKind.u64 = IntKind.u64 ∧ (4) ≠ 0 then some (.int .u64 (Int.tmod (t8 p) (4))) else none from rfl, if_pos ⟨rfl, by omega⟩, Int.tmod_eq_emod_of_nonneg (by omega)]; exact congrArg (fun z => some (Value.int .u64 z)) (by omega)⟩
  · exact ⟨rfl, rfl, rfl, congrArg (fun z => some (Value.bool z)) (decide_eq_false (show ¬ ((t6 p) < (-64)) from by omega))⟩
  · exact ⟨rfl, rfl, rfl, congrArg (fun z => some (Value.bool z)) (decide_eq_false (show ¬ ((t6 p) > (64)) from by omega))⟩
  · exact ⟨rfl, rfl, rfl, congrArg (fun z => some (Value.bool z)) (decide_eq_false (show ¬ ((t6 p) > (t6 p)) from by omega))⟩
  · exact ⟨rfl, rfl, rfl, congrArg (fun z => some (Value.bool z)) (show ((t6 p) == (t6 p)) = true from beq_iff_eq.2 (by omega))⟩
  · exact ⟨rfl, rfl, rfl, congrArg (fun z => some (Value.int .i64 z)) (show IntKind.i64.wrap ((0) + (t6 p)) = (t6 p) from (by have g := w_i64 (((0) + (t6 p))); omega))⟩
  · exact ⟨rfl, rfl, rfl, congrArg (fun z => some (Value.bool z)) (decide_eq_true (show ((t6 p) ≥ (-131072)) from by omega))⟩
  · exact ⟨rfl, rfl, rfl, congrArg (fun z => some (Value.bool z)) (decide_eq_true (show ((t6 p) ≤ (131072)) from by omega))⟩
  · exact ⟨rfl, rfl, rfl, congrArg (fun z => some (Value.int .i64 z)) (show IntKind.i64.wrap ((t6 p) + (t10 p)) = (t11 p) from (by have g := w_i64 (((t6 p) + (t10 p))); omega))⟩
  · exact ⟨rfl, rfl, rfl, congrArg (fun z => some (Value.bool z)) (decide_eq_false (show ¬ ((t11 p) ≥ (0)) from by omega))⟩
def re : List (Value × Value × Bool) := []
theorem hre (p : Nat → Int) (h : H p) : ∀ x ∈ re, RuleE (θ p) x := fun x hx => nomatch hx
abbrev sy (p : Nat → Int) (h : H p) : Sy := syOf (θ p) (plain p) r1 r2 re (hr1 p h) (hr2 p h) (hre p h)
end vx_lo2
namespace vx_hi2
abbrev H (p : Nat → Int) : Prop := (-9223372036854775808 ≤ p 0 ∧ p 0 ≤ 9223372036854775807) ∧ (-32768 ≤ p 1 ∧ p 1 ≤ 32767) ∧ (-9223372036854775808 ≤ p 2 ∧ p 2 ≤ 9223372036854775807) ∧ ((p 2 % 18446744073709551616) % 4 = 2) ∧ (0 ≤ (p 0 % 18446744073709551616) % 129 - 64 + p 1 ∧ 32 < (p 0 % 18446744073709551616) % 129 - 64 + p 1 + 1)
def t0 (p : Nat → Int) : Int := p 0
def t1 (p : Nat → Int) : Int := p 1
def t2 (p : Nat → Int) : Int := p 2
def t3 (p : Nat → Int) : Int := (IntKind.u64.wrap (t0 p))
def t4 (p : Nat → Int) : Int := (Int.tmod (t3 p) 129)
def t5 (p : Nat → Int) : Int := (IntKind.i64.wrap (t4 p))
def t6 (p : Nat → Int) : Int := (IntKind.i64.wrap ((t5 p) - 64))
def t7 (p : Nat → Int) : Int := (IntKind.i32.wrap (t6 p))
def t8 (p : Nat → Int) : Int := (IntKind.u64.wrap (t2 p))
def t9 (p : Nat → Int) : Int := (IntKind.u64.wrap (t6 p))
def t10 (p : Nat → Int) : Int := (IntKind.i64.wrap (t1 p))
def t11 (p : Nat → Int) : Int := (IntKind.i64.wrap ((t6 p) + (t10 p)))
def t12 (p : Nat → Int) : Int := (IntKind.i64.wrap ((t11 p) + 1))
def θ (p : Nat → Int) : Nat → Value := fun j => match j with
  | 0 => .int .i64 (t0 p)
  | 1 => .int .i16 (t1 p)
  | 2 => .int .i64 (t2 p)
  | 3 => .int .u64 (t3 p)
  | 4 => .int .u64 (t4 p)
  | 5 => .int .i64 (t5 p)
  | 6 => .int .i64 (t6 p)
  | 7 => .int .i32 (t7 p)
  | 8 => .int .u64 (t8 p)
  | 9 => .int .u64 (t9 p)
  | 10 => .int .i64 (t10 p)
  | 11 => .int .i64 (t11 p)
  | 12 => .int .i64 (t12 p)
  | _ => .bool false
theorem plain (p : Nat → Int) : ∀ j, plainV (θ p j) = true := by intro j; unfold θ; split <;> rfl
theorem fs (p : Nat → Int) : (t0 p = p 0) ∧ (t1 p = p 1) ∧ (t2 p = p 2) ∧ (t3 p = (t0 p) % 18446744073709551616) ∧ (0 ≤ (t3 p) → t4 p = (t3 p) % 129) ∧ (-9223372036854775808 ≤ t5 p ∧ t5 p < 9223372036854775808 ∧ ((t4 p) - t5 p) % 18446744073709551616 = 0) ∧ (-9223372036854775808 ≤ t6 p ∧ t6 p < 9223372036854775808 ∧ (((t5 p) - 64) - t6 p) % 18446744073709551616 = 0) ∧ (-2147483648 ≤ t7 p ∧ t7 p < 2147483648 ∧ ((t6 p) - t7 p) % 4294967296 = 0) ∧ (t8 p = (t2 p) % 18446744073709551616) ∧ (t9 p = (t6 p) % 18446744073709551616) ∧ (-9223372036854775808 ≤ t10 p ∧ t10 p < 9223372036854775808 ∧ ((t1 p) - t10 p) % 18446744073709551616 = 0) ∧ (-9223372036854775808 ≤ t11 p ∧ t11 p < 9223372036854775808 ∧ (((t6 p) + (t10 p)) - t11 p) % 18446744073709551616 = 0) ∧ (-9223372036854775808 ≤ t12 p ∧ t12 p < 9223372036854775808 ∧ (((t11 p) + 1) - t12 p) % 18446744073709551616 = 0) := ⟨rfl, rfl, rfl, w_u64 _, Int.tmod_eq_emod_of_nonneg, w_i64 _, w_i64 _, w_i32 _, w_u64 _, w_u64 _, w_i64 _, w_i64 _, w_i64 _⟩
def r1 : List (U1 × Value × Value) := [((.conv .u64), (.chan (some 0)), (.chan (some 3))), ((.conv .i64), (.chan (some 4)), (.chan (some 5))), ((.conv .i32), (.chan (some 6)), (.chan (some 7))), ((.conv .u64), (.chan (some 2)), (.chan (some 8))), ((.conv .i64), (.chan (some 7)), (.chan (some 6))), ((.conv .u64), (.chan (some 6)), (.chan (some 9))), ((.conv .i64), (.chan (some 9)), (.chan (some 6))), ((.conv .i64), (.chan (some 1)), (.chan (some 10)))]
theorem hr1 (p : Nat → Int) (h : H p) : ∀ x ∈ r1, Rule1 (θ p) x := by
  obtain ⟨⟨a0, b0⟩, ⟨a1, b1⟩, ⟨a2, b2⟩, hc0, hc1⟩ := h
  obtain ⟨f0, f1, f2, f3, f4, f5, f6, f7, f8, f9, f10, f11, f12⟩ := fs p
  replace f4 := f4 (by omega)
  intro x hx
  simp only [r1, List.mem_cons, List.not_mem_nil, or_false] at hx
  rcases hx with rfl | rfl | rfl | rfl | rfl | rfl | rfl | rfl
  · exact ⟨rfl, rfl, congrArg (fun z => some (Value.int .u64 z)) (show IntKind.u64.wrap (t0 p) = (t3 p) from ((w_u64 _).trans (by omega)))⟩
  · exact ⟨rfl, rfl, congrArg (fun z => some (Value.int .i64 z)) (show IntKind.i64.wrap (t4 p) = (t5 p) from (by have g := w_i64 ((t4 p)); omega))⟩
  · exact ⟨rfl, rfl, congrArg (fun z => some (Value.int .i32 z)) (show IntKind.i32.wrap (t6 p) = (t7 p) from (by have g := w_i32 ((t6 p)); omega))⟩
  · exact ⟨rfl, rfl, congrArg (fun z => some (Value.int .u64 z)) (show IntKind.u64.wrap (t2 p) = (t8 p) from ((w_u64 _).trans (by omega)))⟩
  · exact ⟨rfl, rfl, congrArg (fun z => some (Value.int .i64 z)) (show IntKind.i64.wrap (t7 p) = (t6 p) from (by have g := w_i64 ((t7 p)); omega))⟩
  · exact ⟨rfl, rfl, congrArg (fun z => some (Value.int .u64 z)) (show IntKind.u64.wrap (t6 p) = (t9 p) from ((w_u64 _).trans (by omega)))⟩
  · exact ⟨rfl, rfl, congrArg (fun z => some (Value.int .i64 z)) (show IntKind.i64.wrap (t9 p) = (t6 p) from (by have g := w_i64 ((t9 p)); omega))⟩
  · exact ⟨rfl, rfl, congrArg (fun z => some (Value.int .i64 z)) (show IntKind.i64.wrap (t1 p) = (t10 p) from (by have g := w_i64 ((t1 p)); omega))⟩
def r2 : List (U2 × Value × Value × Value) := [((.bin .rem), (.chan (some 3)), (.int .u64 129), (.chan (some 4))), ((.bin .sub), (.chan (some 5)), (.int .i64 64), (.chan (some 6))), ((.bin .rem), (.chan (some 8)), (.int .u64 4), (.int .u64 2)), ((.bin .lss), (.chan (some 6)), (.int .i64 (-64)), (.bool false)), ((.bin .gtr), (.chan (some 6)), (.int .i64 64), (.bool false)), ((.bin .gtr), (.chan (some 6)), (.chan (some 6)), (.bool false)), ((.bin .eql), (.chan (some 6)), (.chan (some 6)), (.bool true)), ((.bin .add), (.int .i64 0), (.chan (some 6)), (.chan (some 6))), ((.bin .geq), (.chan (some 6)), (.int .i64 (-131072)), (.bool true)), ((.bin .leq), (.chan (some 6)), (.int .i64 131072), (.bool true)), ((.bin .add), (.chan (some 6)), (.chan (some 10)), (.chan (some 11))), ((.bin .geq), (.chan (some 11)), (.int .i64 0), (.bool true)), ((.bin .add), (.chan (some 11)), (.int .i64 1), (.chan (some 12))), ((.bin .leq), (.chan (some 12)), (.int .i64 32), (.bool false))]
theorem hr2 (p : Nat → Int) (h : H p) : ∀ x ∈ r2, Rule2 (θ p) x := by
  obtain ⟨⟨a0, b0⟩, ⟨a1, b1⟩, ⟨a2, b2⟩, hc0, hc1⟩ := h
  obtain ⟨f0, f1, f2, f3, f4, f5, f6, f7, f8, f9, f10, f11, f12⟩ := fs p
  replace f4 := f4 (by omega)
  intro x hx
  simp only [r2, List.mem_cons, List.not_mem_nil, or_false] at hx
  rcases hx with rfl | rfl | rfl | rfl | rfl | rfl | rfl | rfl | rfl | rfl | rfl | rfl | rfl | rfl
  · exact ⟨rfl, rfl, rfl, by show intBin .rem .u64 (t3 p) .u64 (129) = some (.int .u64 (t4 p)); rw [show intBin .rem .u64 (t3 p) .u64 (129) = if IntKind.u64 = IntKind.u64 ∧ (129) ≠ 0 then some (.int .u64 (Int.tmod (t3 p) (129))) else none from rfl, if_pos ⟨rfl, by omega⟩, Int.tmod_eq_emod_of_nonneg (by omega)]; exact congrArg (fun z => some (Value.int .u64 z)) (by omega)⟩
  · exact ⟨rfl, rfl, rfl, congrArg (fun z => some (Value.int .i64 z)) (show IntKind.i64.wrap ((t5 p) - (64)) = (t6 p) from (by have g := w_i64 (((t5 p) - (64))); omega))⟩
  · exact ⟨rfl, rfl, rfl, by show intBin .rem .u64 (t8 p) .u64 (4) = some (.int .u64 (2)); rw [show intBin .rem .u64 (t8 p) .u64 (4) = if IntKind.u64 = IntKind.u64 ∧ (4) ≠ 0 then some (.int .u64 (Int.tmod (t8 p) (4))) else none from rfl, if_pos ⟨rfl, by omega⟩, Int.tmod_eq_emod_of_nonneg (by omega)]; exact congrArg (fun z => some (Value.int .u64 z)) (by omega)⟩
  · exact ⟨rfl, rfl, rfl, congrArg (fun z => some (Value.bool z)) (decide_eq_false (show ¬ ((t6 p) < (-64)) from by omega))⟩
  · exact ⟨rfl, rfl, rfl, congrArg (fun z => some (Value.bool z)) (decide_eq_false (show ¬ ((t6 p) > (64)) from by omega))⟩
  · exact ⟨rfl, rfl, rfl, congrArg (fun z => some (Value.bool z)) (decide_eq_false (show ¬ ((t6 p) > (t6 p)) from by omega))⟩
  · exact ⟨rfl, rfl, rfl, congrArg (fun z => some (Value.bool z)) (show ((t6 p) == (t6 p)) = true from beq_iff_eq.2 (by omega))⟩
  · exact ⟨rfl, rfl, rfl, congrArg (fun z => some (Value.int .i64 z)) (show IntKind.i64.wrap ((0) + (t6 p)) = (t6 p) from (by have g := w_i64 (((0) + (t6 p))); omega))⟩
  · exact ⟨rfl, rfl, rfl, congrArg (fun z => some (Value.bool z)) (decide_eq_true (show ((t6 p) ≥ (-131072)) from by omega))⟩
  · exact ⟨rfl, rfl, rfl, congrArg (fun z => some (Value.bool z)) (decide_eq_true (show ((t6 p) ≤ (131072)) from by omega))⟩
  · exact ⟨rfl, rfl, rfl, congrArg (fun z => some (Value.int .i64 z)) (show IntKind.i64.wrap ((t6 p) + (t10 p)) = (t11 p) from (by have g := w_i64 (((t6 p) + (t10 p))); omega))⟩
  · exact ⟨rfl, rfl, rfl, congrArg (fun z => some (Value.bool z)) (decide_eq_true (show ((t11 p) ≥ (0)) from by omega))⟩
  · exact ⟨rfl, rfl, rfl, congrArg (fun z => some (Value.int .i64 z)) (show IntKind.i64.wrap ((t11 p) + (1)) = (t12 p) from (by have g := w_i64 (((t11 p) + (1))); omega))⟩
  · exact ⟨rfl, rfl, rfl, congrArg (fun z => some (Value.bool z)) (decide_eq_false (show ¬ ((t12 p) ≤ (32)) from by omega))⟩
def re : List (Value × Value × Bool) := []
theorem hre (p : Nat → Int) (h : H p) : ∀ x ∈ re, RuleE (θ p) x := fun x hx => nomatch hx
abbrev sy (p : Nat → Int) (h : H p) : Sy := syOf (θ p) (plain p) r1 r2 re (hr1 p h) (hr2 p h) (hre p h)
end vx_hi2
namespace vx_in3
abbrev H (p : Nat → Int) : Prop := (-9223372036854775808 ≤ p 0 ∧ p 0 ≤ 9223372036854775807) ∧ (-32768 ≤ p 1 ∧ p 1 ≤ 32767) ∧ (-9223372036854775808 ≤ p 2 ∧ p 2 ≤ 9223372036854775807) ∧ ((p 2 % 18446744073709551616) % 4 = 3) ∧ (0 ≤ (p 0 % 18446744073709551616) % 129 - 64 + p 1 ∧ (p 0 % 18446744073709551616) % 129 - 64 + p 1 + 8 ≤ 32)
def t0 (p : Nat → Int) : Int := p 0
def t1 (p : Nat → Int) : Int := p 1
def t2 (p : Nat → Int) : Int := p 2
def t3 (p : Nat → Int) : Int := (IntKind.u64.wrap (t0 p))
def t4 (p : Nat → Int) : Int := (Int.tmod (t3 p) 129)
def t5 (p : Nat → Int) : Int := (IntKind.i64.wrap (t4 p))
def t6 (p : Nat → Int) : Int := (IntKind.i64.wrap ((t5 p) - 64))
def t7 (p : Nat → Int) : Int := (IntKind.i32.wrap (t6 p))
def t8 (p : Nat → Int) : Int := (IntKind.u64.wrap (t2 p))
def t9 (p : Nat → Int) : Int := (IntKind.u64.wrap (t6 p))
def t10 (p : Nat → Int) : Int := (IntKind.i64.wrap (t1 p))
def t11 (p : Nat → Int) : Int := (IntKind.i64.wrap ((t6 p) + (t10 p)))
def t12 (p : Nat → Int) : Int := (IntKind.i64.wrap ((t11 p) + 8))
def θ (p : Nat → Int) : Nat → Value := fun j => match j with
  | 0 => .int .i64 (t0 p)
  | 1 => .int .i16 (t1 p)
  | 2 => .int .i64 (t2 p)
  | 3 => .int .u64 (t3 p)
  | 4 => .int .u64 (t4 p)
  | 5 => .int .i64 (t5 p)
  | 6 => .int .i64 (t6 p)
  | 7 => .int .i32 (t7 p)
  | 8 => .int .u64 (t8 p)
  | 9 => .int .u64 (t9 p)
  | 10 => .int .i64 (t10 p)
  | 11 => .int .i64 (t11 p)
  | 12 => .int .i64 (t12 p)
  | _ => .bool false
theorem plain (p : Nat → Int) : ∀ j, plainV (θ p j) = true := by intro j; unfold θ; split <;> rfl
theorem fs (p : Nat → Int) : (t0 p = p 0) ∧ (t1 p = p 1) ∧ (t2 p = p 2) ∧ (t3 p = (t0 p) % 18446744073709551616) ∧ (0 ≤ (t3 p) → t4 p = (t3 p) % 129) ∧ (-9223372036854775808 ≤ t5 p ∧ t5 p < 9223372036854775808 ∧ ((t4 p) - t5 p) % 18446744073709551616 = 0) ∧ (-9223372036854775808 ≤ t6 p ∧ t6 p < 9223372036854775808 ∧ (((t5 p) - 64) - t6 p) % 18446744073709551616 = 0) ∧ (-2147483648 ≤ t7 p ∧ t7 p < 2147483648 ∧ ((t6 p) - t7 p) % 4294967296 = 0) ∧ (t8 p = (t2 p) % 18446744073709551616) ∧ (t9 p = (t6 p) % 18446744073709551616) ∧ (-9223372036854775808 ≤ t10 p ∧ t10 p < 9223372036854775808 ∧ ((t1 p) - t10 p) % 18446744073709551616 = 0) ∧ (-9223372036854775808 ≤ t11 p ∧ t11 p < 9223372036854775808 ∧ (((t6 p) + (t10 p)) - t11 p) % 18446744073709551616 = 0) ∧ (-9223372036854775808 ≤ t12 p ∧ t12 p < 9223372036854775808 ∧ (((t11 p) + 8) - t12 p) % 18446744073709551616 = 0) := ⟨rfl, rfl, rfl, w_u64 _, Int.tmod_eq_emod_of_nonneg, w_i64 _, w_i64 _, w_i32 _, w_u64 _, w_u64 _, w_i64 _, w_i64 _, w_i64 _⟩
def r1 : List (U1 × Value × Value) := [((.conv .u64), (.chan (some 0)), (.chan (some 3))), ((.conv .i64), (.chan (some 4)), (.chan (some 5))), ((.conv .i32), (.chan (some 6)), (.chan (some 7))), ((.conv .u64), (.chan (some 2)), (.chan (some 8))), ((.conv .i64), (.chan (some 7)), (.chan (some 6))), ((.conv .u64), (.chan (some 6)), (.chan (some 9))), ((.conv .i64), (.chan (some 9)), (.chan (some 6))), ((.conv .i64), (.chan (some 1)), (.chan (some 10)))]
theorem hr1 (p : Nat → Int) (h : H p) : ∀ x ∈ r1, Rule1 (θ p) x := by
  obtain ⟨⟨a0, b0⟩, ⟨a1, b1⟩, ⟨a2, b2⟩, hc0, hc1⟩ := h
  obtain ⟨f0, f1, f2, f3, f4, f5, f6, f7, f8, f9, f10, f11, f12⟩ := fs p
  replace f4 := f4 (by omega)
  intro x hx
  simp only [r1, List.mem_cons, List.not_mem_nil, or_false] at hx
  rcases hx with rfl | rfl | rfl | rfl | rfl | rfl | rfl | rfl
  · exact ⟨rfl, rfl, congrArg (fun z => some (Value.int .u64 z)) (show IntKind.u64.wrap (t0 p) = (t3 p) from ((w_u64 _).trans (by omega)))⟩
  · exact ⟨rfl, rfl, congrArg (fun z => some (Value.int .i64 z)) (show IntKind.i64.wrap (t4 p) = (t5 p) from (by have g := w_i64 ((t4 p)); omega))⟩
  · exact ⟨rfl, rfl, congrArg (fun z => some (Value.int .i32 z)) (show IntKind.i32.wrap (t6 p) = (t7 p) from (by have g := w_i32 ((t6 p)); omega))⟩
  · exact ⟨rfl, rfl, congrArg (fun z => some (Value.int .u64 z)) (show IntKind.u64.wrap (t2 p) = (t8 p) from ((w_u64 _).trans (by omega)))⟩
  · exact ⟨rfl, rfl, congrArg (fun z => some (Value.int .i64 z)) (show IntKind.i64.wrap (t7 p) = (t6 p) from (by have g := w_i64 ((t7 p)); omega))⟩
  · exact ⟨rfl, rfl, congrArg (fun z => some (Value.int .u64 z)) (show IntKind.u64.wrap (t6 p) = (t9 p) from ((w_u64 _).trans (by omega)))⟩
  · exact ⟨rfl, rfl, congrArg (fun z => some (Value.int .i64 z)) (show IntKind.i64.wrap (t9 p) = (t6 p) from (by have g := w_i64 ((t9 p)); omega))⟩
  · exact ⟨rfl, rfl, congrArg (fun z => some (Value.int .i64 z)) (show IntKind.i64.wrap (t1 p) = (t10 p) from (by have g := w_i64 ((t1 p)); omega))⟩
def r2 : List (U2 × Value × Value × Value) := [((.bin .rem), (.chan (some 3)), (.int .u64 129), (.chan (some 4))), ((.bin .sub), (.chan (some 5)), (.int .i64 64), (.chan (some 6))), ((.bin .rem), (.chan (some 8)), (.int .u64 4), (.int .u64 3)), ((.bin .lss), (.chan (some 6)), (.int .i64 (-64)), (.bool false)), ((.bin .gtr), (.chan (some 6)), (.int .i64 64), (.bool false)), ((.bin .gtr), (.chan (some 6)), (.chan (some 6)), (.bool false)), ((.bin .eql), (.chan (some 6)), (.chan (some 6)), (.bool true)), ((.bin .add), (.int .i64 0), (.chan (some 6)), (.chan (some 6))), ((.bin .geq), (.chan (some 6)), (.int .i64 (-131072)), (.bool true)), ((.bin .leq), (.chan (some 6)), (.int .i64 131072), (.bool true)), ((.bin .add), (.chan (some 6)), (.chan (some 10)), (.chan (some 11))), ((.bin .geq), (.chan (some 11)), (.int .i64 0), (.bool true)), ((.bin .add), (.chan (some 11)), (.int .i64 8), (.chan (some 12))), ((.bin .leq), (.chan (some 12)), (.int .i64 32), (.bool true))]
theorem hr2 (p : Nat → Int) (h : H p) : ∀ x ∈ r2, Rule2 (θ p) x := by
  obtain ⟨⟨a0, b0⟩, ⟨a1, b1⟩, ⟨a2, b2⟩, hc0, hc1⟩ := h
  obtain ⟨f0, f1, f2, f3, f4, f5, f6, f7, f8, f9, f10, f11, f12⟩ := fs p
  replace f4 := f4 (by omega)
  intro x hx
  simp only [r2, List.mem_cons, List.not_mem_nil, or_false] at hx
  rcases hx with rfl | rfl | rfl | rfl | rfl | rfl | rfl | rfl | rfl | rfl | rfl | rfl | rfl | rfl
  · exact ⟨rfl, rfl, rfl, by show intBin .rem .u64 (t3 p) .u64 (129) = some (.int .u64 (t4 p)); rw [show intBin .rem .u64 (t3 p) .u64 (129) = if IntKind.u64 = IntKind.u64 ∧ (129) ≠ 0 then some (.int .u64 (Int.tmod (t3 p) (129))) else none from rfl, if_pos ⟨rfl, by omega⟩, Int.tmod_eq_emod_of_nonneg (by omega)]; exact congrArg (fun z => some (Value.int .u64 z)) (by omega)⟩
  · exact ⟨rfl, rfl, rfl, congrArg (fun z => some (Value.int .i64 z)) (show IntKind.i64.wrap ((t5 p) - (64)) = (t6 p) from (by have g := w_i64 (((t5 p) - (64))); omega))⟩
  · exact ⟨rfl, rfl, rfl, by show intBin .rem .u64 (t8 p) .u64 (4) = some (.int .u64 (3)); rw [show intBin .rem .u64 (t8 p) .u64 (4) = if IntKind.u64 = IntKind.u64 ∧ (4) ≠ 0 then some (.int .u64 (Int.tmod (t8 p) (4))) else none from rfl, if_pos ⟨rfl, by omega⟩, Int.tmod_eq_emod_of_nonneg (by omega)]; exact congrArg (fun z => some (Value.int .u64 z)) (by omega)⟩
  · exact ⟨rfl, rfl, rfl, congrArg (fun z => some (Value.bool z)) (decide_eq_false (show ¬ ((t6 p) < (-64)) from by omega))⟩
  · exact ⟨rfl, rfl, rfl, congrArg (fun z => some (Value.bool z)) (decide_eq_false (show ¬ ((t6 p) > (64)) from by omega))⟩
  · exact ⟨rfl, rfl, rfl, congrArg (fun z => some (Value.bool z)) (decide_eq_false (show ¬ ((t6 p) > (t6 p)) from by omega))⟩
  · exact ⟨rfl, rfl, rfl, congrArg (fun z => some (Value.bool z)) (show ((t6 p) == (t6 p)) = true from beq_iff_eq.2 (by omega))⟩
  · exact ⟨rfl, rfl, rfl, congrArg (fun z => some (Value.int .i64 z)) (show IntKind.i64.wrap ((0) + (t6 p)) = (t6 p) from (by have g := w_i64 (((0) + (t6 p))); omega))⟩
  · exact ⟨rfl, rfl, rfl, congrArg (fun z => some (Value.bool z)) (decide_eq_true (show ((t6 p) ≥ (-131072)) from by omega))⟩
  · exact ⟨rfl, rfl, rfl, congrArg (fun z => some (Value.bool z)) (decide_eq_true (show ((t6 p) ≤ (131072)) from by omega))⟩
  · exact ⟨rfl, rfl, rfl, congrArg (fun z => some (Value.int .i64 z)) (show IntKind.i64.wrap ((t6 p) + (t10 p)) = (t11 p) from (by have g := w_i64 (((t6 p) + (t10 p))); omega))⟩
  · exact ⟨rfl, rfl, rfl, congrArg (fun z => some (Value.bool z)) (decide_eq_true (show ((t11 p) ≥ (0)) from by omega))⟩
  · exact ⟨rfl, rfl, rfl, congrArg (fun z => some (Value.int .i64 z)) (show IntKind.i64.wrap ((t11 p) + (8)) = (t12 p) from (by have g := w_i64 (((t11 p) + (8))); omega))⟩
  · exact ⟨rfl, rfl, rfl, congrArg (fun z => some (Value.bool z)) (decide_eq_true (show ((t12 p) ≤ (32)) from by omega))⟩
def re : List (Value × Value × Bool) := []
theorem hre (p : Nat → Int) (h : H p) : ∀ x ∈ re, RuleE (θ p) x := fun x hx => nomatch hx
abbrev sy (p : Nat → Int) (h : H p) : Sy := syOf (θ p) (plain p) r1 r2 re (hr1 p h) (hr2 p h) (hre p h)
end vx_in3
namespace vx_lo3
abbrev H (p : Nat → Int) : Prop := (-9223372036854775808 ≤ p 0 ∧ p 0 ≤ 9223372036854775807) ∧ (-32768 ≤ p 1 ∧ p 1 ≤ 32767) ∧ (-9223372036854775808 ≤ p 2 ∧ p 2 ≤ 9223372036854775807) ∧ ((p 2 % 18446744073709551616) % 4 = 3) ∧ ((p 0 % 18446744073709551616) % 129 - 64 + p 1 < 0)
def t0 (p : Nat → Int) : Int := p 0
def t1 (p : Nat → Int) : Int := p 1
def t2 (p : Nat → Int) : Int := p 2
def t3 (p : Nat → Int) : Int := (IntKind.u64.wrap (t0 p))
def t4 (p : Nat → Int) : Int := (Int.tmod (t3 p) 129)
def t5 (p : Nat → Int) : Int := (IntKind.i64.wrap (t4 p))
def t6 (p : Nat → Int) : Int := (IntKind.i64.wrap ((t5 p) - 64))
def t7 (p : Nat → Int) : Int := (IntKind.i32.wrap (t6 p))
def t8 (p : Nat → Int) : Int := (IntKind.u64.wrap (t2 p))
def t9 (p : Nat → Int) : Int := (IntKind.u64.wrap (t6 p))
def t10 (p : Nat → Int) : Int := (IntKind.i64.wrap (t1 p))
def t11 (p : Nat → Int) : Int := (IntKind.i64.wrap ((t6 p) + (t10 p)))
def θ (p : Nat → Int) : Nat → Value := fun j => match j with
  | 0 => .int .i64 (t0 p)
  | 1 => .int .i16 (t1 p)
  | 2 => .int .i64 (t2 p)
  | 3 => .int .u64 (t3 p)
  | 4 => .int .u64 (t4 p)
  | 5 => .int .i64 (t5 p)
  | 6 => .int .i64 (t6 p)
  | 7 => .int .i32 (t7 p)
  | 8 => .int .u64 (t8 p)
  | 9 => .int .u64 (t9 p)
  | 10 => .int .i64 (t10 p)
  | 11 => .int .i64 (t11 p)
  | _ => .bool false
theorem plain (p : Nat → Int) : ∀ j, plainV (θ p j) = true := by intro j; unfold θ; split <;> rfl
theorem fs (p : Nat → Int) : (t0 p = p 0) ∧ (t1 p = p 1) ∧ (t2 p = p 2) ∧ (t3 p = (t0 p) % 18446744073709551616) ∧ (0 ≤ (t3 p) → t4 p = (t3 p) % 129) ∧ (-9223372036854775808 ≤ t5 p ∧ t5 p < 9223372036854775808 ∧ ((t4 p) - t5 p) % 18446744073709551616 = 0) ∧ (-9223372036854775808 ≤ t6 p ∧ t6 p < 9223372036854775808 ∧ (((t5 p) - 64) - t6 p) % 18446744073709551616 = 0) ∧ (-2147483648 ≤ t7 p ∧ t7 p < 2147483648 ∧ ((t6 p) - t7 p) % 4294967296 = 0) ∧ (t8 p = (t2 p) % 18446744073709551616) ∧ (t9 p = (t6 p) % 18446744073709551616) ∧ (-9223372036854775808 ≤ t10 p ∧ t10 p < 9223372036854775808 ∧ ((t1 p) - t10 p) % 18446744073709551616 = 0) ∧ (-9223372036854775808 ≤ t11 p ∧ t11 p < 9223372036854775808 ∧ (((t6 p) + (t10 p)) - t11 p) % 18446744073709551616 = 0) := ⟨rfl, rfl, rfl, w_u64 _, Int.tmod_eq_emod_of_nonneg, w_i64 _, w_i64 _, w_i32 _, w_u64 _, w_u64 _, w_i64 _, w_i64 _⟩
def r1 : List (U1 × Value × Value) := [((.conv .u64), (.chan (some 0)), (.chan (some 3))), ((.conv .i64), (.chan (some 4)), (.chan (some 5))), ((.conv .i32), (.chan (some 6)), (.chan (some 7))), ((.conv .u64), (.chan (some 2)), (.chan (some 8))), ((.conv .i64), (.chan (some 7)), (.chan (some 6))), ((.conv .u64), (.chan (some 6)), (.chan (some 9))), ((.conv .i64), (.chan (some 9)), (.chan (some 6))), ((.conv .i64), (.chan (some 1)), (.chan (some 10)))]
theorem hr1 (p : Nat → Int) (h : H p) : ∀ x ∈ r1, Rule1 (θ p) x := by
  obtain ⟨⟨a0, b0⟩, ⟨a1, b1⟩, ⟨a2, b2⟩, hc0, hc1⟩ := h
  obtain ⟨f0, f1, f2, f3, f4, f5, f6, f7, f8, f9, f10, f11⟩ := fs p
  replace f4 := f4 (by omega)
  intro x hx
  simp only [r1, List.mem_cons, List.not_mem_nil, or_false] at hx
  rcases hx with rfl | rfl | rfl | rfl | rfl | rfl | rfl | rfl
  · exact ⟨rfl, rfl, congrArg (fun z => some (Value.int .u64 z)) (show IntKind.u64.wrap (t0 p) = (t3 p) from ((w_u64 _).trans (by omega)))⟩
  · exact ⟨rfl, rfl, congrArg (fun z => some (Value.int .i64 z)) (show IntKind.i64.wrap (t4 p) = (t5 p) from (by have g := w_i64 ((t4 p)); omega))⟩
  · exact ⟨rfl, rfl, congrArg (fun z => some (Value.int .i32 z)) (show IntKind.i32.wrap (t6 p) = (t7 p) from (by have g := w_i32 ((t6 p)); omega))⟩
  · exact ⟨rfl, rfl, congrArg (fun z => some (Value.int .u64 z)) (show IntKind.u64.wrap (t2 p) = (t8 p) from ((w_u64 _).trans (by omega)))⟩
  · exact ⟨rfl, rfl, congrArg (fun z => some (Value.int .i64 z)) (show IntKind.i64.wrap (t7 p) = (t6 p) from (by have g := w_i64 ((t7 p)); omega))⟩
  · exact ⟨rfl, rfl, congrArg (fun z => some (Value.int .u64 z)) (show IntKind.u64.wrap (t6 p) = (t9 p) from ((w_u64 _).trans (by omega)))⟩
  · exact ⟨rfl, rfl, congrArg (fun z => some (Value.int .i64 z)) (show IntKind.i64.wrap (t9 p) = (t6 p) from (by have g := w_i64 ((t9 p)); omega))⟩
  · exact ⟨rfl, rfl, congrArg (fun z => some (Value.int .i64 z)) (show IntKind.i64.wrap (t1 p) = (t10 p) from (by have g := w_i64 ((t1 p)); omega))⟩
def r2 : List (U2 × Value × Value × Value) := [((.bin .rem), (.chan (some 3)), (.int .u64 129), (.chan (some 4))), ((.bin .sub), (.chan (some 5)), (.int .i64 64), (.chan (some 6))), ((.bin .rem), (.chan (some 8)), (.int .u64 4), (.int .u64 3)), ((.bin .lss), (.chan (some 6)), (.int .i64 (-64)), (.bool false)), ((.bin .gtr), (.chan (some 6)), (.int .i64 64), (.bool false)), ((.bin .gtr), (.chan (some 6)), (.chan (some 6)), (.bool false)), ((.bin .eql), (.chan (some 6)), (.chan (some 6)), (.bool true)), ((.bin .add), (.int .i64 0), (.chan (some 6)), (.chan (some 6))), ((.bin .geq), (.chan (some 6)), (.int .i64 (-131072)), (.bool true)), ((.bin .leq), (.chan (some 6)), (.int .i64 131072), (.bool true)), ((.bin .add), (.chan (some 6)), (.chan (some 10)), (.chan (some 11))), ((.bin .geq), (.chan (some 11)), (.int .i64 0), (.bool false))]
theorem hr2 (p : Nat → Int) (h : H p) : ∀ x ∈ r2, Rule2 (θ p) x := by
  obtain ⟨⟨a0, b0⟩, ⟨a1, b1⟩, ⟨a2, b2⟩, hc0, hc1⟩ := h
  obtain ⟨f0, f1, f2, f3, f4, f5, f6, f7, f8, f9, f10, f11⟩ := fs p
  replace f4 := f4 (by omega)
  intro x hx
  simp only [r2, List.mem_cons, List.not_mem_nil, or_false] at hx
  rcases hx with rfl | rfl | rfl | rfl | rfl | rfl | rfl | rfl | rfl | rfl | rfl | rfl
  · exact ⟨rfl, rfl, rfl, by show intBin .rem .u64 (t3 p) .u64 (129) = some (.int .u64 (t4 p)); rw [show intBin .rem .u64 (t3 p) .u64 (129) = if IntKind.u64 = IntKind.u64 ∧ (129) ≠ 0 then some (.int .u64 (Int.tmod (t3 p) (129))) else none from rfl, if_pos ⟨rfl, by omega⟩, Int.tmod_eq_emod_of_nonneg (by omega)]; exact congrArg (fun z => some (Value.int .u64 z)) (by omega)⟩
  · exact ⟨rfl, rfl, rfl, congrArg (fun z => some (Value.int .i64 z)) (show IntKind.i64.wrap ((t5 p) - (64)) = (t6 p) from (by have g := w_i64 (((t5 p) - (64))); omega))⟩
  · exact ⟨rfl, rfl, rfl, by show intBin .rem .u64 (t8 p) .u64 (4) = some (.int .u64 (3)); rw [show intBin .rem .u64 (t8 p) .u64 (4) = if IntKind.u64 = IntKind.u64 ∧ (4) ≠ 0 then some (.int .u64 (Int.tmod (t8 p) (4))) else none from rfl, if_pos ⟨rfl, by omega⟩, Int.tmod_eq_emod_of_nonneg (by omega)]; exact congrArg (fun z => some (Value.int .u64 z)) (by omega)⟩
  · exact ⟨rfl, rfl, rfl, congrArg (fun z => some (Value.bool z)) (decide_eq_false (show ¬ ((t6 p) < (-64)) from by omega))⟩
  · exact ⟨rfl, rfl, rfl, congrArg (fun z => some (Value.bool z)) (decide_eq_false (show ¬ ((t6 p) > (64)) from by omega))⟩
  · exact ⟨rfl, rfl, rfl, congrArg (fun z => some (Value.bool z)) (decide_eq_false (show ¬ ((t6 p) > (t6 p)) from by omega))⟩
  · exact ⟨rfl, rfl, rfl, congrArg (fun z => some (Value.bool z)) (show ((t6 p) == (t6 p)) = true from beq_iff_eq.2 (by omega))⟩
  · exact ⟨rfl, rfl, rfl, congrArg (fun z => some (Value.int .i64 z)) (show IntKind.i64.wrap ((0) + (t6 p)) = (t6 p) from (by have g := w_i64 (((0) + (t6 p))); omega))⟩
  · exact ⟨rfl, rfl, rfl, congrArg (fun z => some (Value.bool z)) (decide_eq_true (show ((t6 p) ≥ (-131072)) from by omega))⟩
  · exact ⟨rfl, rfl, rfl, congrArg (fun z => some (Value.bool z)) (decide_eq_true (show ((t6 p) ≤ (131072)) from by omega))⟩
  · exact ⟨rfl, rfl, rfl, congrArg (fun z => some (Value.int .i64 z)) (show IntKind.i64.wrap ((t6 p) + (t10 p)) = (t11 p) from (by have g := w_i64 (((t6 p) + (t10 p))); omega))⟩
  · exact ⟨rfl, rfl, rfl, congrArg (fun z => some (Value.bool z)) (decide_eq_false (show ¬ ((t11 p) ≥ (0)) from by omega))⟩
def re : List (Value × Value × Bool) := []
theorem hre (p : Nat → Int) (h : H p) : ∀ x ∈ re, RuleE (θ p) x := fun x hx => nomatch hx
abbrev sy (p : Nat → Int) (h : H p) : Sy := syOf (θ p) (plain p) r1 r2 re (hr1 p h) (hr2 p h) (hre p h)
end vx_lo3
namespace vx_hi3
abbrev H (p : Nat → Int) : Prop := (-9223372036854775808 ≤ p 0 ∧ p 0 ≤ 9223372036854775807) ∧ (-32768 ≤ p 1 ∧ p 1 ≤ 32767) ∧ (-9223372036854775808 ≤ p 2 ∧ p 2 ≤ 9223372036854775807) ∧ ((p 2 % 18446744073709551616) % 4 = 3) ∧ (0 ≤ (p 0 % 18446744073709551616) % 129 - 64 + p 1 ∧ 32 < (p 0 % 18446744073709551616) % 129 - 64 + p 1 + 8)
def t0 (p : Nat → Int) : Int := p 0
def t1 (p : Nat → Int) : Int := p 1
def t2 (p : Nat → Int) : Int := p 2
def t3 (p : Nat → Int) : Int := (IntKind.u64.wrap (t0 p))
def t4 (p : Nat → Int) : Int := (Int.tmod (t3 p) 129)
def t5 (p : Nat → Int) : Int := (IntKind.i64.wrap (t4 p))
def t6 (p : Nat → Int) : Int := (IntKind.i64.wrap ((t5 p) - 64))
def t7 (p : Nat → Int) : Int := (IntKind.i32.wrap (t6 p))
def t8 (p : Nat → Int) : Int := (IntKind.u64.wrap (t2 p))
def t9 (p : Nat → Int) : Int := (IntKind.u64.wrap (t6 p))
def t10 (p : Nat → Int) : Int := (IntKind.i64.wrap (t1 p))
def t11 (p : Nat → Int) : Int := (IntKind.i64.wrap ((t6 p) + (t10 p)))
def t12 (p : Nat → Int) : Int := (IntKind.i64.wrap ((t11 p) + 8))
def θ (p : Nat → Int) : Nat → Value := fun j => match j with
  | 0 => .int .i64 (t0 p)
  | 1 => .int .i16 (t1 p)
  | 2 => .int .i64 (t2 p)
  | 3 => .int .u64 (t3 p)
  | 4 => .int .u64 (t4 p)
  | 5 => .int .i64 (t5 p)
  | 6 => .int .i64 (t6 p)
  | 7 => .int .i32 (t7 p)
  | 8 => .int .u64 (t8 p)
  | 9 => .int .u64 (t9 p)
  | 10 => .int .i64 (t10 p)
  | 11 => .int .i64 (t11 p)
  | 12 => .int .i64 (t12 p)
  | _ => .bool false
theorem plain (p : Nat → Int) : ∀ j, plainV (θ p j) = true := by intro j; unfold θ; split <;> rfl
theorem fs (p : Nat → Int) : (t0 p = p 0) ∧ (t1 p = p 1) ∧ (t2 p = p 2) ∧ (t3 p = (t0 p) % 18446744073709551616) ∧ (0 ≤ (t3 p) → t4 p = (t3 p) % 129) ∧ (-9223372036854775808 ≤ t5 p ∧ t5 p < 9223372036854775808 ∧ ((t4 p) - t5 p) % 18446744073709551616 = 0) ∧ (-9223372036854775808 ≤ t6 p ∧ t6 p < 9223372036854775808 ∧ (((t5 p) - 64) - t6 p) % 18446744073709551616 = 0) ∧ (-2147483648 ≤ t7 p ∧ t7 p < 2147483648 ∧ ((t6 p) - t7 p) % 4294967296 = 0) ∧ (t8 p = (t2 p) % 18446744073709551616) ∧ (t9 p = (t6 p) % 18446744073709551616) ∧ (-9223372036854775808 ≤ t10 p ∧ t10 p < 9223372036854775808 ∧ ((t1 p) - t10 p) % 18446744073709551616 = 0) ∧ (-9223372036854775808 ≤ t11 p ∧ t11 p < 9223372036854775808 ∧ (((t6 p) + (t10 p)) - t11 p) % 18446744073709551616 = 0) ∧ (-9223372036854775808 ≤ t12 p ∧ t12 p < 9223372036854775808 ∧ (((t11 p) + 8) - t12 p) % 18446744073709551616 = 0) := ⟨rfl, rfl, rfl, w_u64 _, Int.tmod_eq_emod_of_nonneg, w_i64 _, w_i64 _, w_i32 _, w_u64 _, w_u64 _, w_i64 _, w_i64 _, w_i64 _⟩
def r1 : List (U1 × Value × Value) := [((.conv .u64), (.chan (some 0)), (.chan (some 3))), ((.conv .i64), (.chan (some 4)), (.chan (some 5))), ((.conv .i32), (.chan (some 6)), (.chan (some 7))), ((.conv .u64), (.chan (some 2)), (.chan (some 8))), ((.conv .i64), (.chan (some 7)), (.chan (some 6))), ((.conv .u64), (.chan (some 6)), (.chan (some 9))), ((.conv .i64), (.chan (some 9)), (.chan (some 6))), ((.conv .i64), (.chan (some 1)), (.chan (some 10)))]
theorem hr1 (p : Nat → Int) (h : H p) : ∀ x ∈ r1, Rule1 (θ p) x := by
  obtain ⟨⟨a0, b0⟩, ⟨a1, b1⟩, ⟨a2, b2⟩, hc0, hc1⟩ := h
  obtain ⟨f0, f1, f2, f3, f4, f5, f6, f7, f8, f9, f10, f11, f12⟩ := fs p
  replace f4 := f4 (by omega)
  intro x hx
  simp only [r1, List.mem_cons, List.not_mem_nil, or_false] at hx
  rcases hx with rfl | rfl | rfl | rfl | rfl | rfl | rfl | rfl
  · exact ⟨rfl, rfl, congrArg (fun z => some (Value.int .u64 z)) (show IntKind.u64.wrap (t0 p) = (t3 p) from ((w_u64 _).trans (by omega)))⟩
  · exact ⟨rfl, rfl, congrArg (fun z => some (Value.int .i64 z)) (show IntKind.i64.wrap (t4 p) = (t5 p) from (by have g := w_i64 ((t4 p)); omega))⟩
  · exact ⟨rfl, rfl, congrArg (fun z => some (Value.int .i32 z)) (show IntKind.i32.wrap (t6 p) = (t7 p) from (by have g := w_i32 ((t6 p)); omega))⟩
  · exact ⟨rfl, rfl, congrArg (fun z => some (Value.int .u64 z)) (show IntKind.u64.wrap (t2 p) = (t8 p) from ((w_u64 _).trans (by omega)))⟩
  · exact ⟨rfl, rfl, congrArg (fun z => some (Value.int .i64 z)) (show IntKind.i64.wrap (t7 p) = (t6 p) from (by have g := w_i64 ((t7 p)); omega))⟩
  · exact ⟨rfl, rfl, congrArg (fun z => some (Value.int .u64 z)) (show IntKind.u64.wrap (t6 p) = (t9 p) from ((w_u64 _).trans (by omega)))⟩
  · exact ⟨rfl, rfl, congrArg (fun z => some (Value.int .i64 z)) (show IntKind.i64.wrap (t9 p) = (t6 p) from (by have g := w_i64 ((t9 p)); omega))⟩
  · exact ⟨rfl, rfl, congrArg (fun z => some (Value.int .i64 z)) (show IntKind.i64.wrap (t1 p) = (t10 p) from (by have g := w_i64 ((t1 p)); omega))⟩
def r2 : List (U2 × Value × Value × Value) := [((.bin .rem), (.chan (some 3)), (.int .u64 129), (.chan (some 4))), ((.bin .sub), (.chan (some 5)), (.int .i64 64), (.chan (some 6))), ((.bin .rem), (.chan (some 8)), (.int .u64 4), (.int .u64 3)), ((.bin .lss), (.chan (some 6)), (.int .i64 (-64)), (.bool false)), ((.bin .gtr), (.chan (some 6)), (.int .i64 64), (.bool false)), ((.bin .gtr), (.chan (some 6)), (.chan (some 6)), (.bool false)), ((.bin .eql), (.chan (some 6)), (.chan (some 6)), (.bool true)), ((.bin .add), (.int .i64 0), (.chan (some 6)), (.chan (some 6))), ((.bin .geq), (.chan (some 6)), (.int .i64 (-131072)), (.bool true)), ((.bin .leq), (.chan (some 6)), (.int .i64 131072), (.bool true)), ((.bin .add), (.chan (some 6)), (.chan (some 10)), (.chan (some 11))), ((.bin .geq), (.chan (some 11)), (.int .i64 0), (.bool true)), ((.bin .add), (.chan (some 11)), (.int .i64 8), (.chan (some 12))), ((.bin .leq), (.chan (some 12)), (.int .i64 32), (.bool false))]
theorem hr2 (p : Nat → Int) (h : H p) : ∀ x ∈ r2, Rule2 (θ p) x := by
  obtain ⟨⟨a0, b0⟩, ⟨a1, b1⟩, ⟨a2, b2⟩, hc0, hc1⟩ := h
  obtain ⟨f0, f1, f2, f3, f4, f5, f6, f7, f8, f9, f10, f11, f12⟩ := fs p
  replace f4 := f4 (by omega)
  intro x hx
  simp only [r2, List.mem_cons, List.not_mem_nil, or_false] at hx
  rcases hx with rfl | rfl | rfl | rfl | rfl | rfl | rfl | rfl | rfl | rfl | rfl | rfl | rfl | rfl
  · exact ⟨rfl, rfl, rfl, by show intBin .rem .u64 (t3 p) .u64 (129) = some (.int .u64 (t4 p)); rw [show intBin .rem .u64 (t3 p) .u64 (129) = if IntKind.u64 = IntKind.u64 ∧ (129) ≠ 0 then some (.int .u64 (Int.tmod (t3 p) (129))) else none from rfl, if_pos ⟨rfl, by omega⟩, Int.tmod_eq_emod_of_nonneg (by omega)]; exact congrArg (fun z => some (Value.int .u64 z)) (by omega)⟩
  · exact ⟨rfl, rfl, rfl, congrArg (fun z => some (Value.int .i64 z)) (show IntKind.i64.wrap ((t5 p) - (64)) = (t6 p) from (by have g := w_i64 (((t5 p) - (64))); omega))⟩
  · exact ⟨rfl, rfl, rfl, by show intBin .rem .u64 (t8 p) .u64 (4) = some (.int .u64 (3)); rw [show intBin .rem .u64 (t8 p) .u64 (4) = if IntKind.u64 = IntKind.u64 ∧ (4) ≠ 0 then some (.int .u64 (Int.tmod (t8 p) (4))) else none from rfl, if_pos ⟨rfl, by omega⟩, Int.tmod_eq_emod_of_nonneg (by omega)]; exact congrArg (fun z => some (Value.int .u64 z)) (by omega)⟩
  · exact ⟨rfl, rfl, rfl, congrArg (fun z => some (Value.bool z)) (decide_eq_false (show ¬ ((t6 p) < (-64)) from by omega))⟩
  · exact ⟨rfl, rfl, rfl, congrArg (fun z => some (Value.bool z)) (decide_eq_false (show ¬ ((t6 p) > (64)) from by omega))⟩
  · exact ⟨rfl, rfl, rfl, congrArg (fun z => some (Value.bool z)) (decide_eq_false (show ¬ ((t6 p) > (t6 p)) from by omega))⟩
  · exact ⟨rfl, rfl, rfl, congrArg (fun z => some (Value.bool z)) (show ((t6 p) == (t6 p)) = true from beq_iff_eq.2 (by omega))⟩
  · exact ⟨rfl, rfl, rfl, congrArg (fun z => some (Value.int .i64 z)) (show IntKind.i64.wrap ((0) + (t6 p)) = (t6 p) from (by have g := w_i64 (((0) + (t6 p))); omega))⟩
  · exact ⟨rfl, rfl, rfl, congrArg (fun z => some (Value.bool z)) (decide_eq_true (show ((t6 p) ≥ (-131072)) from by omega))⟩
  · exact ⟨rfl, rfl, rfl, congrArg (fun z => some (Value.bool z)) (decide_eq_true (show ((t6 p) ≤ (131072)) from by omega))⟩
  · exact ⟨rfl, rfl, rfl, congrArg (fun z => some (Value.int .i64 z)) (show IntKind.i64.wrap ((t6 p) + (t10 p)) = (t11 p) from (by have g := w_i64 (((t6 p) + (t10 p))); omega))⟩
  · exact ⟨rfl, rfl, rfl, congrArg (fun z => some (Value.bool z)) (decide_eq_true (show ((t11 p) ≥ (0)) from by omega))⟩
  · exact ⟨rfl, rfl, rfl, congrArg (fun z => some (Value.int .i64 z)) (show IntKind.i64.wrap ((t11 p) + (8)) = (t12 p) from (by have g := w_i64 (((t11 p) + (8))); omega))⟩
  · exact ⟨rfl, rfl, rfl, congrArg (fun z => some (Value.bool z)) (decide_eq_false (show ¬ ((t12 p) ≤ (32)) from by omega))⟩
def re : List (Value × Value × Bool) := []
theorem hre (p : Nat → Int) (h : H p) : ∀ x ∈ re, RuleE (θ p) x := fun x hx => nomatch hx
abbrev sy (p : Nat → Int) (h : H p) : Sy := syOf (θ p) (plain p) r1 r2 re (hr1 p h) (hr2 p h) (hre p h)
end vx_hi3
end Go.Proofs.YtfdeipckfdogfaaGreat
