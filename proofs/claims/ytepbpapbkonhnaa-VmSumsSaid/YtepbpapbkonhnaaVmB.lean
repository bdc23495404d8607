/- Layers 14, 15: numbers, comparisons; as equations. -/
import Derived.Test.YtepbpapbkonhnaaVmA
set_option linter.unusedSimpArgs false
set_option linter.unusedVariables false
set_option maxRecDepth 8000
namespace Go.Proofs.Ytepbpapbkonhnaa
open Go.Eng

/-! Numbers. -/
def plainOf (op : Nat) (x y : Int) : Int :=
  if op = 0 then IntKind.u64.wrap (x + y) else if op = 1 then IntKind.u64.wrap (x - y) else if op = 2 then IntKind.u64.wrap (x * y) else if op = 4 then bitOr .u64 x y
  else if op = 5 then bitAnd .u64 x y else if op = 8 then IntKind.u64.wrap (0 - x) else if op = 10 then bitXor .u64 x y else if op = 11 then y
  else if op = 3 then (if y = 0 then 0 else IntKind.u64.wrap (x.tdiv y)) else if op = 9 then (if y = 0 then x else x.tmod y) else 0
def shiftOf (op : Nat) (wide : Bool) (x y : Int) : Int :=
  let by' := if wide = true then y.tmod 64 else y.tmod 32
  if op = 6 then IntKind.u64.wrap (x * 2 ^ (min by'.toNat 64)) else if op = 7 then x.fdiv (2 ^ (min by'.toNat 64))
  else if wide = true then IntKind.u64.wrap ((IntKind.i64.wrap x).fdiv (2 ^ (min by'.toNat 64))) else IntKind.u64.wrap ((IntKind.i32.wrap x).fdiv (2 ^ (min by'.toNat 32)))
def low32 (wide : Bool) (x : Int) : Int := if wide = true then x else IntKind.u64.wrap (IntKind.u32.wrap x)
def evalOf (op : Nat) (wide : Bool) (x y : Int) : Int :=
  low32 wide (if op = 6 ∨ op = 7 ∨ op = 12 then shiftOf op wide (low32 wide x) (low32 wide y) else plainOf op (low32 wide x) (low32 wide y))

set_option maxHeartbeats 2000000 in
theorem plain_T (w0 : World) (op : Nat) (x y : Int) : T Try.prog w0 82 [.int .i64 op, .int .u64 x, .int .u64 y] = some (.int .u64 (plainOf op x y)) :=
  T_of (by kernel_rfl) Try.func82 rfl ok_scalar_plain (by simp) (by simp) fun B hB => by
    unfold plainOf
    by_cases h0 : op = 0
    · subst h0; simp [c_scalar_plain, C_cond_eq]
    by_cases h1 : op = 1
    · subst h1; simp [c_scalar_plain, C_cond_eq]
    by_cases h2 : op = 2
    · subst h2; simp [c_scalar_plain, C_cond_eq]
    by_cases h4 : op = 4
    · subst h4; simp [c_scalar_plain, C_cond_eq]
    by_cases h5 : op = 5
    · subst h5; simp [c_scalar_plain, C_cond_eq]
    by_cases h8 : op = 8
    · subst h8; simp [c_scalar_plain, C_cond_eq]
    by_cases h10 : op = 10
    · subst h10; simp [c_scalar_plain, C_cond_eq]
    by_cases h11 : op = 11
    · subst h11; simp [c_scalar_plain, C_cond_eq]
    by_cases h3 : op = 3
    · subst h3; by_cases hy : y = 0
      · subst hy; simp [c_scalar_plain, C_cond_eq]
      · simp [c_scalar_plain, C_cond_eq, hy]
    by_cases h9 : op = 9
    · subst h9; by_cases hy : y = 0
      · subst hy; simp [c_scalar_plain, C_cond_eq]
      · simp [c_scalar_plain, C_cond_eq, hy]
    simp [c_scalar_plain, C_cond_eq, ci_eq, h0, h1, h2, h4, h5, h8, h10, h11, h3, h9]
set_option maxHeartbeats 2000000 in
theorem shift_T (w0 : World) (op : Nat) (wide : Bool) (x y : Int) (hy : 0 ≤ y) : T Try.prog w0 81 [.int .i64 op, .bool wide, .int .u64 x, .int .u64 y] = some (.int .u64 (shiftOf op wide x y)) :=
  T_of (by kernel_rfl) Try.func81 rfl ok_scalar_shift (by simp) (by simp) fun B hB => by
    have g1 : 0 ≤ y.tmod 64 := Int.tmod_nonneg _ hy
    have g2 : 0 ≤ y.tmod 32 := Int.tmod_nonneg _ hy
    unfold shiftOf
    cases wide <;> simp [c_scalar_shift, C_cond_eq, ci_eq, g1, g2] <;> (by_cases h6 : op = 6 <;> by_cases h7 : op = 7 <;> simp [h6, h7] <;> rfl)
set_option maxHeartbeats 2000000 in
theorem eval_T (w0 : World) (op : Nat) (wide : Bool) (x y : Int) (hy : 0 ≤ y) : T Try.prog w0 77 [.int .i64 op, .bool wide, .int .u64 x, .int .u64 y] = some (.int .u64 (evalOf op wide x y)) :=
  T_of (by kernel_rfl) Try.func77 rfl ok_scalar_Eval (by simp) (by simp) fun B hB => by
    have g : 0 ≤ low32 wide y := by
      unfold low32
      split
      · exact hy
      · rw [IntKind.wrap_u64]; omega
    have t1 := shift_T w0 op wide (low32 wide x) (low32 wide y) g
    have t2 := plain_T w0 op (low32 wide x) (low32 wide y)
    unfold evalOf
    by_cases h6 : op = 6
    · subst h6; cases wide <;> simp [low32] at t1 t2 <;> simp [c_scalar_Eval, C_cond_eq, ci_eq, low32, t1, t2]
    by_cases h7 : op = 7
    · subst h7; cases wide <;> simp [low32] at t1 t2 <;> simp [c_scalar_Eval, C_cond_eq, ci_eq, low32, t1, t2]
    by_cases h12 : op = 12
    · subst h12; cases wide <;> simp [low32] at t1 t2 <;> simp [c_scalar_Eval, C_cond_eq, ci_eq, low32, t1, t2]
    cases wide <;> simp [low32] at t1 t2 <;> simp [c_scalar_Eval, C_cond_eq, ci_eq, low32, t1, t2, h6, h7, h12]

def unsignedOf (op : Nat) (x y : Int) : Bool :=
  if op = 1 then decide (x = y) else if op = 2 then decide (y < x) else if op = 3 then decide (y ≤ x) else if op = 4 then !decide (bitAnd .u64 x y = 0) else if op = 5 then !decide (x = y)
  else if op = 10 then decide (x < y) else if op = 11 then decide (x ≤ y) else false
def sgn (wide : Bool) (x : Int) : Int := if wide = true then IntKind.i64.wrap x else IntKind.i64.wrap (IntKind.i32.wrap x)
def holdsOf (op : Nat) (wide : Bool) (x y : Int) : Bool :=
  if op = 6 then decide (sgn wide y < sgn wide x) else if op = 7 then decide (sgn wide y ≤ sgn wide x) else if op = 12 then decide (sgn wide x < sgn wide y) else if op = 13 then decide (sgn wide x ≤ sgn wide y)
  else unsignedOf op (low32 wide x) (low32 wide y)
set_option maxHeartbeats 2000000 in
theorem unsigned_T (w0 : World) (op : Nat) (x y : Int) : T Try.prog w0 85 [.int .i64 op, .int .u64 x, .int .u64 y] = some (.bool (unsignedOf op x y)) :=
  T_of (by kernel_rfl) Try.func85 rfl ok_branch_unsigned (by simp) (by simp) fun B hB => by
    unfold unsignedOf
    by_cases h1 : op = 1
    · subst h1; simp [c_branch_unsigned, C_cond_eq]
    by_cases h2 : op = 2
    · subst h2; simp [c_branch_unsigned, C_cond_eq]
    by_cases h3 : op = 3
    · subst h3; simp [c_branch_unsigned, C_cond_eq]
    by_cases h4 : op = 4
    · subst h4; simp [c_branch_unsigned, C_cond_eq]
    by_cases h5 : op = 5
    · subst h5; simp [c_branch_unsigned, C_cond_eq]
    by_cases h10 : op = 10
    · subst h10; simp [c_branch_unsigned, C_cond_eq]
    by_cases h11 : op = 11
    · subst h11; simp [c_branch_unsigned, C_cond_eq]
    simp [c_branch_unsigned, C_cond_eq, ci_eq, h1, h2, h3, h4, h5, h10, h11]
set_option maxHeartbeats 2000000 in
theorem holds_T (w0 : World) (op : Nat) (wide : Bool) (x y : Int) : T Try.prog w0 79 [.int .i64 op, .bool wide, .int .u64 x, .int .u64 y] = some (.bool (holdsOf op wide x y)) :=
  T_of (by kernel_rfl) Try.func79 rfl ok_branch_Holds (by simp) (by simp) fun B hB => by
    have t1 := unsigned_T w0 op (low32 wide x) (low32 wide y)
    unfold holdsOf
    by_cases h6 : op = 6
    · subst h6; cases wide <;> simp [low32] at t1 <;> simp [c_branch_Holds, C_cond_eq, ci_eq, low32, sgn, t1]
    by_cases h7 : op = 7
    · subst h7; cases wide <;> simp [low32] at t1 <;> simp [c_branch_Holds, C_cond_eq, ci_eq, low32, sgn, t1]
    by_cases h12 : op = 12
    · subst h12; cases wide <;> simp [low32] at t1 <;> simp [c_branch_Holds, C_cond_eq, ci_eq, low32, sgn, t1]
    by_cases h13 : op = 13
    · subst h13; cases wide <;> simp [low32] at t1 <;> simp [c_branch_Holds, C_cond_eq, ci_eq, low32, sgn, t1]
    cases wide <;> simp [low32] at t1 <;> simp [c_branch_Holds, C_cond_eq, ci_eq, low32, sgn, t1, h6, h7, h12, h13]
end Go.Proofs.Ytepbpapbkonhnaa
