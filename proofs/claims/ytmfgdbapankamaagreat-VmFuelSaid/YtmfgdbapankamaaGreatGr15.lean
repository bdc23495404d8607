/- Layers 4, 14, 15: parts of an instruction, numbers, comparisons; as equations. -/
import Derived.Test.YtmfgdbapankamaaGreatGr12
import Derived.Test.YtmfgdbapankamaaGreatGr13
import Derived.Test.YtmfgdbapankamaaGreatGr14
import Derived.Test.YtmfgdbapankamaaGreatGr8
set_option linter.unusedSimpArgs false
set_option linter.unusedVariables false
set_option maxRecDepth 8000
namespace Go.Proofs.YtmfgdbapankamaaGreat
open Go.Eng
structure Parts where
  kind : Int
  op : Nat
  size : Int
  long : Bool
  reg : Bool
def Parts.arr (p : Parts) : Array Value := #[.int .i64 p.kind, .int .i64 p.op, .int .i64 p.size, .bool p.long, .bool p.reg]
def Parts.val (p : Parts) : Value := .agg p.arr
attribute [simp] Parts.val
def Parts.zero : Parts := ⟨0, 0, 0, false, false⟩
@[simp] theorem parts_size (p : Parts) : p.arr.size = 5 := by simp [Parts.arr]
@[simp] theorem parts_one (p : Parts) : p.arr.all (·.oneCell') = true := by simp [Parts.arr, Value.oneCell']
@[simp] theorem parts_ext (n : Nat) (p : Parts) : (∀ x, x ∈ p.arr → Ext n x) = True := eq_true fun x hx => by
  simp [Parts.arr] at hx
  rcases hx with rfl | rfl | rfl | rfl | rfl <;> simp
@[simp] theorem parts_0 (p : Parts) : p.arr[0]? = some (.int .i64 p.kind) := rfl
@[simp] theorem parts_1 (p : Parts) : p.arr[1]? = some (.int .i64 p.op) := rfl
@[simp] theorem parts_2 (p : Parts) : p.arr[2]? = some (.int .i64 p.size) := rfl
@[simp] theorem parts_3 (p : Parts) : p.arr[3]? = some (.bool p.long) := rfl
@[simp] theorem parts_4 (p : Parts) : p.arr[4]? = some (.bool p.reg) := rfl
@[simp] theorem ostC_parts (c : Array Value) (p : Parts) (h : c.size = 5) : ostC c 5 0 (.agg p.arr) = some p.arr := ostC_all c 5 p.arr h (parts_size p) (parts_one p)
def partsAlu (op : Nat) : Parts :=
  if 12 < op / 16 ∨ (op / 16 = 8 ∧ op / 8 % 2 = 1) then Parts.zero else ⟨1, op / 16, 0, decide (op % 8 = 7), decide (op / 8 % 2 = 1)⟩
def partsJump (op : Nat) : Parts :=
  if op / 16 = 0 ∨ op / 16 = 8 ∨ op / 16 = 9 then
    if op % 8 = 5 ∧ op / 8 % 2 = 0 then ⟨if op / 16 = 0 then 3 else if op / 16 = 8 then 4 else 5, 0, 0, false, false⟩ else Parts.zero
  else if 13 < op / 16 then Parts.zero else ⟨2, op / 16, 0, decide (op % 8 = 5), decide (op / 8 % 2 = 1)⟩
def sizeAt (k : Nat) : Int := if k = 0 then 4 else if k = 1 then 2 else if k = 2 then 1 else 8
def partsMem (op : Nat) : Parts :=
  if op / 32 = 3 then ⟨if op % 8 = 1 then 6 else 7, 0, sizeAt (op / 8 % 4), false, decide (op % 8 = 3)⟩
  else if op / 32 = 6 ∧ op % 8 = 3 ∧ 4 ≤ sizeAt (op / 8 % 4) then ⟨8, 0, sizeAt (op / 8 % 4), false, true⟩ else Parts.zero
def partsOf (op : Nat) : Parts :=
  if op % 8 = 4 ∨ op % 8 = 7 then partsAlu op else if op % 8 = 5 ∨ op % 8 = 6 then partsJump op
  else if op % 8 = 1 ∨ op % 8 = 2 ∨ op % 8 = 3 then partsMem op
  else if op = 24 then ⟨9, 0, 8, false, false⟩ else if op = 0 then ⟨10, 0, 0, false, false⟩ else Parts.zero
theorem u8and (m : Nat) (f : Nat → Nat) (h : ∀ op : Fin 256, bitAnd .u8 ((op.val : Nat) : Int) (m : Int) = ((f op.val : Nat) : Int)) {op : Nat} (ho : op < 256) : bitAnd .u8 (op : Int) (m : Int) = ((f op : Nat) : Int) := h ⟨op, ho⟩
theorem op_and7 {op : Nat} (ho : op < 256) : bitAnd .u8 (op : Int) 7 = ((op % 8 : Nat) : Int) := u8and 7 (fun x => x % 8) (by decide +kernel) ho
theorem op_and8 {op : Nat} (ho : op < 256) : bitAnd .u8 (op : Int) 8 = ((op / 8 % 2 * 8 : Nat) : Int) := u8and 8 (fun x => x / 8 % 2 * 8) (by decide +kernel) ho
theorem op_and3 {op : Nat} (ho : op < 256) : bitAnd .u8 ((op : Int) / 8) 3 = ((op / 8 % 4 : Nat) : Int) := by
  have h := u8and 3 (fun x => x % 4) (by decide +kernel) (op := op / 8) (by omega)
  simpa using h
theorem nat_fdiv (a b : Nat) : Int.fdiv (a : Int) (b : Int) = ((a / b : Nat) : Int) := by
  rw [Int.fdiv_eq_ediv_of_nonneg _ (by omega)]
  rfl
theorem op_shr4 (op : Nat) : Int.fdiv (op : Int) (2 ^ (min 4 (IntKind.bits .u8))) = ((op / 16 : Nat) : Int) := nat_fdiv op 16
theorem op_shr3 (op : Nat) : Int.fdiv (op : Int) (2 ^ (min 3 (IntKind.bits .u8))) = ((op / 8 : Nat) : Int) := nat_fdiv op 8
theorem op_shr5 (op : Nat) : Int.fdiv (op : Int) (2 ^ (min 5 (IntKind.bits .u8))) = ((op / 32 : Nat) : Int) := nat_fdiv op 32
theorem op_bit {op : Nat} (ho : op < 256) : decide (bitAnd .u8 (op : Int) 8 = 0) = !decide (op / 8 % 2 = 1) := by
  rw [op_and8 ho]
  have : op / 8 % 2 = 0 ∨ op / 8 % 2 = 1 := by omega
  rcases this with h | h <;> rw [h] <;> rfl
theorem ci_eq (q n : Nat) : ((q : Int) = (no_index (@OfNat.ofNat Int n _))) = (q = @OfNat.ofNat Nat n _) := propext ⟨fun h => by have h : (q : Int) = (n : Int) := h; exact Int.ofNat.inj h, fun h => by have h : q = n := h; rw [h]; rfl⟩
theorem ci_lt (q n : Nat) : ((no_index (@OfNat.ofNat Int n _)) < (q : Int)) = (@OfNat.ofNat Nat n _ < q) := propext ⟨fun h => by have h : (n : Int) < (q : Int) := h; exact Int.ofNat_lt.1 h, fun h => by have h : n < q := h; exact Int.ofNat_lt.2 h⟩
theorem insn_alu_T (w0 : World) {op : Nat} (ho : op < 256) : T Tryz.prog w0 54 [.int .u8 op] = some (partsAlu op).val :=
  T_of (by kernel_rfl) Tryz.func54 rfl ok_insn_alu (by simp) (by simp) fun B hB => by
    have e7 := op_and7 ho
    have e8 := op_bit ho
    have e4 := op_shr4 op
    unfold partsAlu
    generalize op / 8 % 2 = r at *
    have hq : op / 16 < 16 := by omega
    generalize op / 16 = q at *
    generalize op % 8 = lo at *
    have e0 := i64w (n := (q : Int)) (by omega) (by omega)
    simp [c_insn_alu, C_cond_eq, e7, e8, e4, e0, ci_eq, ci_lt]
    split <;> rfl
theorem insn_jump_T (w0 : World) {op : Nat} (ho : op < 256) : T Tryz.prog w0 55 [.int .u8 op] = some (partsJump op).val :=
  T_of (by kernel_rfl) Tryz.func55 rfl ok_insn_jump (by simp) (by simp) fun B hB => by
    have e7 := op_and7 ho
    have e8 := op_bit ho
    have e4 := op_shr4 op
    have hr : (op / 8 % 2 = 0) = (¬ op / 8 % 2 = 1) := propext (by omega)
    unfold partsJump
    simp only [hr]
    generalize op / 8 % 2 = r at *
    have hq : op / 16 < 16 := by omega
    generalize op / 16 = q at *
    generalize op % 8 = lo at *
    have e0 := i64w (n := (q : Int)) (by omega) (by omega)
    simp [c_insn_jump, C_cond_eq, e7, e8, e4, e0, ci_eq, ci_lt]
    by_cases h0 : q = 0
    · subst h0; simp; by_cases ha : lo = 5 <;> by_cases hb : r = 1 <;> simp [ha, hb] <;> rfl
    by_cases h8 : q = 8
    · subst h8; simp; by_cases ha : lo = 5 <;> by_cases hb : r = 1 <;> simp [ha, hb] <;> rfl
    by_cases h9 : q = 9
    · subst h9; simp; by_cases ha : lo = 5 <;> by_cases hb : r = 1 <;> simp [ha, hb] <;> rfl
    simp [h0, h8, h9]
    split <;> rfl
theorem insn_memory_T (w0 : World) {op : Nat} (ho : op < 256) : T Tryz.prog w0 56 [.int .u8 op] = some (partsMem op).val :=
  T_of (by kernel_rfl) Tryz.func56 rfl ok_insn_memory (by simp) (by simp) fun B hB => by
    have e7 := op_and7 ho
    have e3 := op_and3 ho
    have e4 := op_shr3 op
    have e5 := op_shr5 op
    simp only [Int.natCast_ediv] at e4
    unfold partsMem
    have hr : op / 8 % 4 < 4 := by omega
    generalize op / 8 % 4 = r at *
    have hq : op / 32 < 8 := by omega
    generalize op / 32 = q at *
    generalize op % 8 = lo at *
    have : r = 0 ∨ r = 1 ∨ r = 2 ∨ r = 3 := by omega
    rcases this with rfl | rfl | rfl | rfl <;> simp [c_insn_memory, C_cond_eq, e7, e3, e4, e5, ci_eq, ci_lt]
    all_goals
      by_cases h3 : q = 3
      · subst h3; by_cases h1 : lo = 1
        · subst h1; simp; rfl
        · simp [h1]; rfl
      · by_cases h6 : q = 6
        · subst h6; by_cases h1 : lo = 3
          · subst h1; simp; rfl
          · simp [h1]; rfl
        · simp [h3, h6]; rfl
theorem Of_T (w0 : World) {op : Nat} (ho : op < 256) : T Tryz.prog w0 33 [.int .u8 op] = some (partsOf op).val :=
  T_of (by kernel_rfl) Tryz.func33 rfl ok_insn_Of (by simp) (by simp) fun B hB => by
    have e7 := op_and7 ho
    have t1 := insn_alu_T w0 ho
    have t2 := insn_jump_T w0 ho
    have t3 := insn_memory_T w0 ho
    simp only [Parts.val] at t1 t2 t3
    unfold partsOf
    have hl : op % 8 < 8 := by omega
    generalize op % 8 = lo at *
    have : lo = 0 ∨ lo = 1 ∨ lo = 2 ∨ lo = 3 ∨ lo = 4 ∨ lo = 5 ∨ lo = 6 ∨ lo = 7 := by omega
    rcases this with rfl | rfl | rfl | rfl | rfl | rfl | rfl | rfl <;> simp [c_insn_Of, C_cond_eq, e7, ci_eq, ci_lt, t1, t2, t3]
    by_cases h1 : op = 24
    · subst h1; simp; rfl
    · by_cases h2 : op = 0
      · subst h2; simp; rfl
      · simp [h1, h2]; rfl
end Go.Proofs.YtmfgdbapankamaaGreat
namespace Go.Proofs.YtmfgdbapankamaaGreat
open Go.Eng
def plainOf (op : Nat) (x y : Int) : Int :=
  if op = 0 then IntKind.u64.wrap (x + y) else if op = 1 then IntKind.u64.wrap (x - y) else if op = 2 then IntKind.u64.wrap (x * y) else if op = 4 then bitOr .u64 x y
  else if op = 5 then bitAnd .u64 x y else if op = 8 then IntKind.u64.wrap (0 - x) else if op = 10 then bitXor .u64 x y else if op = 11 then y
  else if op = 3 then (if y = 0 then 0 else IntKind.u64.wrap (x.tdiv y)) else if op = 9 then (if y = 0 then x else x.tmod y) else 0
def shiftOf (op : Nat) (wide : Bool) (x y : Int) : Int :=
  let by' := if wide = true then y.tmod 64 else y.tmod 32
  if op = 6 then IntKind.u64.wrap (x * 2 ^ (min by'.toNat 64)) else if op = 7 then x.fdiv (2 ^ (min by'.toNat 64))
  else if wide = true then IntKind.u64.wrap ((IntKind.i64.wrap x).fdiv (2 ^ (min by'.toNat 64))) else IntKind.u64.wrap ((IntKind.i32.wrap x).fdiv (2 ^ (min by'.toNat 32)))
def low32 (wide : Bool) (x : Int) : Int := if wide = true then x else IntKind.u64.wrap (IntKind.u32.wrap x)
def evalOf (op : Nat) (wide : Bool) (x y : Int) : Int :=
  low32 wide (if op = 6 ∨ op = 7 ∨ op = 12 then shiftOf op wide (low32 wide x) (low32 wide y) else plainOf op (low32 wide x) (low32 wide y))
set_option maxHeartbeats 2000000 in
theorem plain_T (w0 : World) (op : Nat) (x y : Int) : T Tryz.prog w0 69 [.int .i64 op, .int .u64 x, .int .u64 y] = some (.int .u64 (plainOf op x y)) :=
  T_of (by kernel_rfl) Tryz.func69 rfl ok_scalar_plain (by simp) (by simp) fun B hB => by
    unfold plainOf
    by_cases h0 : op = 0
    · subst h0; simp [c_scalar_plain, C_cond_eq]
    by_cases h1 : op = 1
    · subst h1; simp [c_scalar_plain, C_cond_eq]
    by_cases h2 : op = 2
    · subst h2; simp [c_scalar_plain, C_cond_eq]
    by_cases h4 : op = 4
    · subst h4; simp [c_scalar_plain, C_cond_eq]
    by_cases h5 : op = 5
    · subst h5; simp [c_scalar_plain, C_cond_eq]
    by_cases h8 : op = 8
    · subst h8; simp [c_scalar_plain, C_cond_eq]
    by_cases h10 : op = 10
    · subst h10; simp [c_scalar_plain, C_cond_eq]
    by_cases h11 : op = 11
    · subst h11; simp [c_scalar_plain, C_cond_eq]
    by_cases h3 : op = 3
    · subst h3; by_cases hy : y = 0
      · subst hy; simp [c_scalar_plain, C_cond_eq]
      · simp [c_scalar_plain, C_cond_eq, hy]
    by_cases h9 : op = 9
    · subst h9; by_cases hy : y = 0
      · subst hy; simp [c_scalar_plain, C_cond_eq]
      · simp [c_scalar_plain, C_cond_eq, hy]
    simp [c_scalar_plain, C_cond_eq, ci_eq, h0, h1, h2, h4, h5, h8, h10, h11, h3, h9]
set_option maxHeartbeats 2000000 in
theorem shift_T (w0 : World) (op : Nat) (wide : Bool) (x y : Int) (hy : 0 ≤ y) : T Tryz.prog w0 68 [.int .i64 op, .bool wide, .int .u64 x, .int .u64 y] = some (.int .u64 (shiftOf op wide x y)) :=
  T_of (by kernel_rfl) Tryz.func68 rfl ok_scalar_shift (by simp) (by simp) fun B hB => by
    have g1 : 0 ≤ y.tmod 64 := Int.tmod_nonneg _ hy
    have g2 : 0 ≤ y.tmod 32 := Int.tmod_nonneg _ hy
    unfold shiftOf
    cases wide <;> simp [c_scalar_shift, C_cond_eq, ci_eq, g1, g2] <;> (by_cases h6 : op = 6 <;> by_cases h7 : op = 7 <;> simp [h6, h7] <;> rfl)
set_option maxHeartbeats 2000000 in
theorem eval_T (w0 : World) (op : Nat) (wide : Bool) (x y : Int) (hy : 0 ≤ y) : T Tryz.prog w0 59 [.int .i64 op, .bool wide, .int .u64 x, .int .u64 y] = some (.int .u64 (evalOf op wide x y)) :=
  T_of (by kernel_rfl) Tryz.func59 rfl ok_scalar_Eval (by simp) (by simp) fun B hB => by
    have g : 0 ≤ low32 wide y := by
      unfold low32
      split
      · exact hy
      · rw [IntKind.wrap_u64]; omega
    have t1 := shift_T w0 op wide (low32 wide x) (low32 wide y) g
    have t2 := plain_T w0 op (low32 wide x) (low32 wide y)
    unfold evalOf
    by_cases h6 : op = 6
    · subst h6; cases wide <;> simp [low32] at t1 t2 <;> simp [c_scalar_Eval, C_cond_eq, ci_eq, low32, t1, t2]
    by_cases h7 : op = 7
    · subst h7; cases wide <;> simp [low32] at t1 t2 <;> simp [c_scalar_Eval, C_cond_eq, ci_eq, low32, t1, t2]
    by_cases h12 : op = 12
    · subst h12; cases wide <;> simp [low32] at t1 t2 <;> simp [c_scalar_Eval, C_cond_eq, ci_eq, low32, t1, t2]
    cases wide <;> simp [low32] at t1 t2 <;> simp [c_scalar_Eval, C_cond_eq, ci_eq, low32, t1, t2, h6, h7, h12]
def unsignedOf (op : Nat) (x y : Int) : Bool :=
  if op = 1 then decide (x = y) else if op = 2 then decide (y < x) else if op = 3 then decide (y ≤ x) else if op = 4 then !decide (bitAnd .u64 x y = 0) else if op = 5 then !decide (x = y)
  else if op = 10 then decide (x < y) else if op = 11 then decide (x ≤ y) else false
def sgn (wide : Bool) (x : Int) : Int := if wide = true then IntKind.i64.wrap x else IntKind.i64.wrap (IntKind.i32.wrap x)
def holdsOf (op : Nat) (wide : Bool) (x y : Int) : Bool :=
  if op = 6 then decide (sgn wide y < sgn wide x) else if op = 7 then decide (sgn wide y ≤ sgn wide x) else if op = 12 then decide (sgn wide x < sgn wide y) else if op = 13 then decide (sgn wide x ≤ sgn wide y)
  else unsignedOf op (low32 wide x) (low32 wide y)
set_option maxHeartbeats 2000000 in
theorem unsigned_T (w0 : World) (op : Nat) (x y : Int) : T Tryz.prog w0 72 [.int .i64 op, .int .u64 x, .int .u64 y] = some (.bool (unsignedOf op x y)) :=
  T_of (by kernel_rfl) Tryz.func72 rfl ok_branch_unsigned (by simp) (by simp) fun B hB => by
    unfold unsignedOf
    by_cases h1 : op = 1
    · subst h1; simp [c_branch_unsigned, C_cond_eq]
    by_cases h2 : op = 2
    · subst h2; simp [c_branch_unsigned, C_cond_eq]
    by_cases h3 : op = 3
    · subst h3; simp [c_branch_unsigned, C_cond_eq]
    by_cases h4 : op = 4
    · subst h4; simp [c_branch_unsigned, C_cond_eq]
    by_cases h5 : op = 5
    · subst h5; simp [c_branch_unsigned, C_cond_eq]
    by_cases h10 : op = 10
    · subst h10; simp [c_branch_unsigned, C_cond_eq]
    by_cases h11 : op = 11
    · subst h11; simp [c_branch_unsigned, C_cond_eq]
    simp [c_branch_unsigned, C_cond_eq, ci_eq, h1, h2, h3, h4, h5, h10, h11]
set_option maxHeartbeats 2000000 in
theorem holds_T (w0 : World) (op : Nat) (wide : Bool) (x y : Int) : T Tryz.prog w0 61 [.int .i64 op, .bool wide, .int .u64 x, .int .u64 y] = some (.bool (holdsOf op wide x y)) :=
  T_of (by kernel_rfl) Tryz.func61 rfl ok_branch_Holds (by simp) (by simp) fun B hB => by
    have t1 := unsigned_T w0 op (low32 wide x) (low32 wide y)
    unfold holdsOf
    by_cases h6 : op = 6
    · subst h6; cases wide <;> simp [low32] at t1 <;> simp [c_branch_Holds, C_cond_eq, ci_eq, low32, sgn, t1]
    by_cases h7 : op = 7
    · subst h7; cases wide <;> simp [low32] at t1 <;> simp [c_branch_Holds, C_cond_eq, ci_eq, low32, sgn, t1]
    by_cases h12 : op = 12
    · subst h12; cases wide <;> simp [low32] at t1 <;> simp [c_branch_Holds, C_cond_eq, ci_eq, low32, sgn, t1]
    by_cases h13 : op = 13
    · subst h13; cases wide <;> simp [low32] at t1 <;> simp [c_branch_Holds, C_cond_eq, ci_eq, low32, sgn, t1]
    cases wide <;> simp [low32] at t1 <;> simp [c_branch_Holds, C_cond_eq, ci_eq, low32, sgn, t1, h6, h7, h12, h13]
end Go.Proofs.YtmfgdbapankamaaGreat
namespace Go.Eng
inductive Sl where
  | v (x : Value)
  | p (T : TypeId) (cs : Array Value)
  | any
def Sl.is (n : Nat) (l : Own) : Sl → Value → Prop
  | .v x, u => u = x
  | .p T cs, u => ∃ j, u = .pointer (some ⟨n + j, 0, none⟩) ∧ l[j]? = some (cs, T)
  | .any, _ => True
def Sl.inn (w w' : World) : Sl → Value → Prop
  | .v x, u => u = x
  | .p T cs, u => ∃ b, u = .pointer (some ⟨b, 0, none⟩) ∧ w.heap.size ≤ b ∧ w'.heap[b]? = some (.cells cs T (0, 0))
  | .any, _ => True
def Sl.ok (n : Nat) : Sl → Prop
  | .v x => Ext n x
  | .p _ cs => ∀ x ∈ cs.toList, Ext n x
  | .any => True
def slsIs (n : Nat) (l : Own) : List Sl → Env → Prop
  | [], [] => True
  | s :: L, u :: e => s.is n l u ∧ slsIs n l L e
  | _, _ => False
def slsIn (w w' : World) : List Sl → Env → Prop
  | [], [] => True
  | s :: L, u :: e => s.inn w w' u ∧ slsIn w w' L e
  | _, _ => False
def slsOk (n : Nat) : List Sl → Prop
  | [] => True
  | s :: L => s.ok n ∧ slsOk n L
theorem slsIn_of {w B w' : World} {l : Own} {σ : Nat → Nat} (hB : Base w B) (hs : Sim w B l w' σ) : ∀ (L : List Sl) (env env' : Env), slsOk w.heap.size L → slsIs B.heap.size l L env → EnvR (B.heap.size + l.length) σ env env' → slsIn w w' L env'
  | [], [], env', _, _, he => by
    cases env' with
    | nil => trivial
    | cons a r => have := he.1; simp at this
  | s :: L, u :: e, env', hk, hi, he => by
    cases env' with
    | nil => have := he.1; simp at this
    | cons u' e' =>
      have hu := he.2 0 u u' rfl rfl
      have hr : EnvR (B.heap.size + l.length) σ e e' := ⟨by have := he.1; simpa using this, fun i a b ha hb => he.2 (i + 1) a b (by simpa using ha) (by simpa using hb)⟩
      refine ⟨?_, slsIn_of hB hs L e e' hk.2 hi.2 hr⟩
      have h1 := hi.1
      have h2 := hk.1
      cases s with
      | v x =>
        obtain rfl : u = x := h1
        exact VR.uniq hu (Ext.vr h2 (by have := hB.le; omega) (fun b hb => hs.fix b (Nat.lt_of_lt_of_le hb hB.le)))
      | p T cs =>
        obtain ⟨j, rfl, hj⟩ := h1
        have hj' : j < l.length := (List.getElem?_eq_some_iff.1 hj).1
        obtain ⟨cs', h3, h4⟩ := hs.own j _ hj
        cases hu
        refine ⟨_, rfl, hs.new j hj', ?_⟩
        rw [h3]
        have : cs' = cs := by
          refine (arr_ext h4.1 fun i a b ha hb => ?_).symm
          have hx : Ext w.heap.size a := h2 a (Array.mem_toList_iff.2 (Array.mem_of_getElem? ha))
          exact (VR.uniq (h4.2 i a b ha hb) (Ext.vr hx (by have := hB.le; omega) (fun b hb => hs.fix b (Nat.lt_of_lt_of_le hb hB.le)))).symm
        rw [this]
      | any => trivial
  | [], _ :: _, _, _, hi, _ => hi.elim
  | _ :: _, [], _, _, hi, _ => hi.elim
section
variable {P : Program} {R : Env → World → Prop} {k : List It} {env : Env} {w : World}
theorem W_seg {a : Cmd} (L : List Sl) (he : ∀ v ∈ env, Ext w.heap.size v) (hL : slsOk w.heap.size L)
    (h : ∀ B, HeapLe w B → C P w B (fun _ _ => False) [.c a, .post (fun env' l => slsIs B.heap.size l L env')] env [])
    (hk : ∀ w', Kept none' w w' → ∀ env', slsIn w w' L env' → W P R k env' w') : W P R (.c a :: k) env w := by
  obtain ⟨n1, hn1⟩ := a.cl_ex
  obtain ⟨B, hB, hnB⟩ := base_ex w n1
  have hs : Sim w B [] w id := ⟨fun b _ => rfl, Kept.refl _ _, fun j x hx => by simp at hx, fun j hj => by simp at hj, fun i j hi => by simp at hi⟩
  have hee : EnvR (B.heap.size + ([] : Own).length) id env env := by
    refine ⟨rfl, fun i u v hu hv => ?_⟩
    rw [hu] at hv
    obtain rfl := Option.some.inj hv
    exact (he u (List.mem_of_getElem? hu)).vr (by have := hB.le; simp; omega) (fun _ _ => rfl)
  show a.wp P (Wx P R k) env w
  refine cwp_wp hB (Kept.refl _ _) a (hn1.mono hnB) (fun y env1 env2 l w' σ hs he hq => ?_) hs hee (h B hB.has)
  cases y with
  | normal => exact hk _ hs.kept _ (slsIn_of hB hs L _ _ hL hq he)
  | _ => exact hq.elim
theorem W_segX {a : Cmd} (LR : List Sl) (he : ∀ v ∈ env, Ext w.heap.size v) (hLR : slsOk w.heap.size LR)
    (h : ∀ B, HeapLe w B → C P w B (fun env' l => slsIs B.heap.size l LR env') [.c a, .post (fun _ _ => False)] env [])
    (hr : ∀ w', Kept none' w w' → ∀ env', slsIn w w' LR env' → R env' w') : W P R (.c a :: k) env w := by
  obtain ⟨n1, hn1⟩ := a.cl_ex
  obtain ⟨B, hB, hnB⟩ := base_ex w n1
  have hs : Sim w B [] w id := ⟨fun b _ => rfl, Kept.refl _ _, fun j x hx => by simp at hx, fun j hj => by simp at hj, fun i j hi => by simp at hi⟩
  have hee : EnvR (B.heap.size + ([] : Own).length) id env env := by
    refine ⟨rfl, fun i u v hu hv => ?_⟩
    rw [hu] at hv
    obtain rfl := Option.some.inj hv
    exact (he u (List.mem_of_getElem? hu)).vr (by have := hB.le; simp; omega) (fun _ _ => rfl)
  show a.wp P (Wx P R k) env w
  refine cwp_wp hB (Kept.refl _ _) a (hn1.mono hnB) (fun y env1 env2 l w' σ hs he hq => ?_) hs hee (h B hB.has)
  cases y with
  | ret =>
    rw [Wx_ret]
    exact hr _ hs.kept _ (slsIn_of hB hs LR _ _ hLR hq he)
  | _ => exact hq.elim
end
theorem W_assoc {P : Program} {R : Env → World → Prop} {k : List It} {env : Env} {w : World} (a b c : Cmd) : W P R (.c (.seq a (.seq b c)) :: k) env w = W P R (.c (.seq (.seq a b) c) :: k) env w := by
  rw [W_seq, W_seq, W_seq]
  unfold W
  rw [Wx_c, Wx_c a]
  have : Wx P R (.c (.seq b c) :: k) = Wx P R (.c b :: .c c :: k) := by
    funext x env w
    cases x with
    | normal => exact W_seq b c
    | _ => rfl
  rw [this]
theorem open_v {w w' : World} {x : Value} {L : List Sl} {Q : Env → Prop} (h : ∀ e, slsIn w w' L e → Q (x :: e)) : ∀ e, slsIn w w' (.v x :: L) e → Q e
  | [], h' => h'.elim
  | u :: e, h' => by have h1 : u = x := h'.1; subst h1; exact h e h'.2
theorem open_p {w w' : World} {T : TypeId} {cs : Array Value} {L : List Sl} {Q : Env → Prop} (h : ∀ b, w.heap.size ≤ b → w'.heap[b]? = some (.cells cs T (0, 0)) → ∀ e, slsIn w w' L e → Q (.pointer (some ⟨b, 0, none⟩) :: e)) : ∀ e, slsIn w w' (.p T cs :: L) e → Q e
  | [], h' => h'.elim
  | u :: e, h' => by obtain ⟨b, rfl, h1, h2⟩ := h'.1; exact h b h1 h2 e h'.2
theorem open_any {w w' : World} {L : List Sl} {Q : Env → Prop} (h : ∀ u e, slsIn w w' L e → Q (u :: e)) : ∀ e, slsIn w w' (.any :: L) e → Q e
  | [], h' => h'.elim
  | u :: e, h' => h u e h'.2
theorem open_nil {w w' : World} {Q : Env → Prop} (h : Q []) : ∀ e, slsIn w w' [] e → Q e
  | [], _ => h
  | _ :: _, h' => h'.elim
@[simp] theorem ext_undef (n : Nat) : Ext n undef = True := eq_true vr_undef
end Go.Eng
namespace Go.Proofs.YtmfgdbapankamaaGreat
open Go.Eng
structure Ins where
  op : Nat
  dst : Nat
  src : Nat
  off : Int
  imm : Int
def Ins.arr (x : Ins) : Array Value := #[.int .u8 x.op, .int .u8 x.dst, .int .u8 x.src, .int .i16 x.off, .int .i32 x.imm]
def Ins.val (x : Ins) : Value := .agg x.arr
attribute [simp] Ins.val
@[simp] theorem ins_size (x : Ins) : x.arr.size = 5 := by simp [Ins.arr]
@[simp] theorem ins_one (x : Ins) : x.arr.all (·.oneCell') = true := by simp [Ins.arr, Value.oneCell']
@[simp] theorem ins_ext (n : Nat) (x : Ins) : (∀ y, y ∈ x.arr → Ext n y) = True := eq_true fun y hy => by
  simp [Ins.arr] at hy
  rcases hy with rfl | rfl | rfl | rfl | rfl <;> simp
@[simp] theorem ins_ext' (n : Nat) (x : Ins) : (∀ y, y ∈ x.arr.toList → Ext n y) = True := by simp
@[simp] theorem ins_0 (x : Ins) : x.arr[0]? = some (.int .u8 x.op) := rfl
@[simp] theorem ins_1 (x : Ins) : x.arr[1]? = some (.int .u8 x.dst) := rfl
@[simp] theorem ins_2 (x : Ins) : x.arr[2]? = some (.int .u8 x.src) := rfl
@[simp] theorem ins_3 (x : Ins) : x.arr[3]? = some (.int .i16 x.off) := rfl
@[simp] theorem ins_4 (x : Ins) : x.arr[4]? = some (.int .i32 x.imm) := rfl
@[simp] theorem ins_g0 (x : Ins) (h : 0 < x.arr.size) : x.arr[0]'h = .int .u8 x.op := rfl
@[simp] theorem ins_g1 (x : Ins) (h : 1 < x.arr.size) : x.arr[1]'h = .int .u8 x.dst := rfl
@[simp] theorem ins_g2 (x : Ins) (h : 2 < x.arr.size) : x.arr[2]'h = .int .u8 x.src := rfl
@[simp] theorem ins_g3 (x : Ins) (h : 3 < x.arr.size) : x.arr[3]'h = .int .i16 x.off := rfl
@[simp] theorem ins_g4 (x : Ins) (h : 4 < x.arr.size) : x.arr[4]'h = .int .i32 x.imm := rfl
@[simp] theorem parts_g0 (p : Parts) (h : 0 < p.arr.size) : p.arr[0]'h = .int .i64 p.kind := rfl
@[simp] theorem parts_g1 (p : Parts) (h : 1 < p.arr.size) : p.arr[1]'h = .int .i64 p.op := rfl
@[simp] theorem parts_g2 (p : Parts) (h : 2 < p.arr.size) : p.arr[2]'h = .int .i64 p.size := rfl
@[simp] theorem parts_g3 (p : Parts) (h : 3 < p.arr.size) : p.arr[3]'h = .bool p.long := rfl
@[simp] theorem parts_g4 (p : Parts) (h : 4 < p.arr.size) : p.arr[4]'h = .bool p.reg := rfl
@[simp] theorem ostC_ins (c : Array Value) (p : Ins) (h : c.size = 5) : ostC c 5 0 (.agg p.arr) = some p.arr := ostC_all c 5 p.arr h (ins_size p) (ins_one p)
@[simp] theorem rval_one (v : RVal) : v.arr.all (·.oneCell') = true := by simp [RVal.arr, Value.oneCell']
@[simp] theorem ostC_rval (c : Array Value) (v : RVal) (h : c.size = 4) : ostC c 4 0 (.agg v.arr) = some v.arr := ostC_all c 4 v.arr h (by simp) (rval_one v)
theorem rval_ext (n : Nat) (v : RVal) (h : Ext n (.pointer v.cell)) : (∀ y, y ∈ v.arr → Ext n y) := fun y hy => by
  simp [RVal.arr] at hy
  rcases hy with rfl | rfl | rfl | rfl <;> first | exact h | simp
theorem rval_ext0 (n : Nat) (v : RVal) (h : v.cell = none) : (∀ y, y ∈ v.arr → Ext n y) := rval_ext n v (by rw [h]; simp)
theorem own_extR {w0 B : World} {l : Own} (hB : HeapLe w0 B) {b off n : Nat} {v : Array Value} (h : wrow w0 b off n = some v) : wrow (ownW B l) b off n = some v := by
  have h1 := wrow_mono hB h
  have hb : b < B.heap.size := by
    unfold wrow at h1
    cases hc : B.heap[b]? with
    | none => rw [hc] at h1; cases h1
    | some o => exact blk_lt hc
  unfold wrow at h1 ⊢
  rw [own_old hb]
  exact h1
def num (n : Int) : RVal := ⟨1, n, 0, none⟩
structure VK where
  l : Value
  ctx : Nat → Int
  maps : Value
  clock : Int
  random : Value
  fuel : Int
  bm : Nat
structure VSt where
  r : Nat → RVal
  pos : Int
  done : Bool
  luck : Int
def VSt.cellAt (k : VK) (s : VSt) (i : Nat) : Value :=
  if i = 0 then k.l else if i < 33 then .int .u8 (k.ctx (i - 1)) else if i = 33 then k.maps else if i = 34 then .int .u64 k.clock else if i = 35 then k.random else if i = 36 then .int .i64 k.fuel
  else if i = 37 then .pointer (some ⟨k.bm, 0, none⟩) else if i < 82 then (s.r ((i - 38) / 4)).at ((i - 38) % 4) else if i = 82 then .int .i64 s.pos else if i = 83 then .bool s.done else .int .i64 s.luck
def VSt.cells (k : VK) (s : VSt) : Array Value := Array.ofFn (n := 85) fun i => s.cellAt k i.val
theorem mach_size (k : VK) (s : VSt) : (s.cells k).size = 85 := by simp [VSt.cells]
theorem mach_at (k : VK) (s : VSt) (i : Nat) (h : i < 85) : (s.cells k)[i]? = some (s.cellAt k i) := by simp [VSt.cells, h]
theorem mach_reg (k : VK) (s : VSt) (i j : Nat) (h : i < 11) (hj : j < 4) : (s.cells k)[38 + i * 4 + j]? = some ((s.r i).at j) := by
  rw [mach_at _ _ _ (by omega)]
  have h1 : (38 + i * 4 + j - 38) / 4 = i := by omega
  have h2 : (38 + i * 4 + j - 38) % 4 = j := by omega
  unfold VSt.cellAt
  rw [if_neg (by omega), if_neg (by omega), if_neg (by omega), if_neg (by omega), if_neg (by omega), if_neg (by omega), if_neg (by omega), if_pos (by omega), h1, h2]
theorem mach_row (k : VK) (s : VSt) (i : Nat) (h : i < 11) : (s.cells k).extract (38 + i * 4) (38 + i * 4 + 4) = (s.r i).arr := by
  apply Array.ext_getElem?
  intro j
  rw [Array.getElem?_extract]
  have hs := mach_size k s
  by_cases hj : j < 4
  · rw [if_pos (by omega), mach_reg k s i j h hj, arr_at _ _ hj]
  · rw [if_neg (by omega)]
    simp; omega
theorem mach_ext {k : VK} {s' : VSt} {c : Array Value} (hs : c.size = 85) (h : ∀ i, i < 85 → c[i]? = some (s'.cellAt k i)) : c = s'.cells k := by
  apply Array.ext_getElem?
  intro j
  by_cases hj : j < 85
  · rw [mach_at _ _ _ hj, h j hj]
  · have e1 : c[j]? = none := by simp; omega
    have e2 : (s'.cells k)[j]? = none := by simp [mach_size]; omega
    rw [e1, e2]
theorem mach_setreg (k : VK) (s : VSt) (i : Nat) (v : RVal) (h : i < 11) : setRow (s.cells k) (38 + i * 4) v.arr.toList = ({ s with r := fset s.r i v } : VSt).cells k := by
  refine mach_ext (by rw [Go.Eng.setRow_size]; exact mach_size k s) fun j hj => ?_
  have hs := mach_size k s
  have hl : v.arr.toList.length = 4 := rfl
  rw [setRow_get _ _ _ _ (by omega), hl]
  by_cases h1 : 38 + i * 4 ≤ j ∧ j < 38 + i * 4 + 4
  · rw [if_pos h1]
    simp only [Array.getElem?_toList]
    rw [arr_at _ _ (by omega)]
    have e1 : (j - 38) / 4 = i := by omega
    have e2 : (j - 38) % 4 = j - (38 + i * 4) := by omega
    unfold VSt.cellAt
    rw [if_neg (by omega), if_neg (by omega), if_neg (by omega), if_neg (by omega), if_neg (by omega), if_neg (by omega), if_neg (by omega), if_pos (by omega), e1, e2]
    show _ = some ((fset s.r i v i).at _)
    rw [fset_same]
  · rw [if_neg h1, mach_at _ _ _ hj]
    unfold VSt.cellAt
    by_cases h2 : 38 ≤ j ∧ j < 82
    · rw [if_neg (by omega), if_neg (by omega), if_neg (by omega), if_neg (by omega), if_neg (by omega), if_neg (by omega), if_neg (by omega), if_pos (by omega),
        if_neg (by omega), if_neg (by omega), if_neg (by omega), if_neg (by omega), if_neg (by omega), if_neg (by omega), if_neg (by omega), if_pos (by omega)]
      show _ = some ((fset s.r i v _).at _)
      rw [fset_other _ _ (by omega)]
    · by_cases h4 : j < 38
      · have : j < 33 ∨ j = 33 ∨ j = 34 ∨ j = 35 ∨ j = 36 ∨ j = 37 := by omega
        rcases this with h | rfl | rfl | rfl | rfl | rfl
        · by_cases h0 : j = 0
          · rw [if_pos h0, if_pos h0]
          · rw [if_neg h0, if_pos h, if_neg h0, if_pos h]
        all_goals rfl
      · have : j = 82 ∨ j = 83 ∨ j = 84 := by omega
        rcases this with rfl | rfl | rfl <;> rfl
theorem mach_setpos (k : VK) (s : VSt) (x : Int) : (s.cells k).setIfInBounds 82 (.int .i64 x) = ({ s with pos := x } : VSt).cells k := by
  refine mach_ext (by simp [mach_size]) fun j hj => ?_
  rw [Array.getElem?_setIfInBounds, mach_size, mach_at _ _ _ hj]
  split
  · rename_i h; subst h; rfl
  · rename_i h
    have : j < 82 ∨ j = 82 ∨ j = 83 ∨ j = 84 := by omega
    rcases this with h | rfl | rfl | rfl
    · unfold VSt.cellAt
      simp only [h, if_true]
    all_goals first | rfl | omega
theorem mach_setdone (k : VK) (s : VSt) (x : Bool) : (s.cells k).setIfInBounds 83 (.bool x) = ({ s with done := x } : VSt).cells k := by
  refine mach_ext (by simp [mach_size]) fun j hj => ?_
  rw [Array.getElem?_setIfInBounds, mach_size, mach_at _ _ _ hj]
  split
  · rename_i h; subst h; rfl
  · rename_i h
    have : j < 82 ∨ j = 82 ∨ j = 83 ∨ j = 84 := by omega
    rcases this with h | rfl | rfl | rfl
    · unfold VSt.cellAt
      simp only [h, if_true]
    all_goals first | rfl | omega
theorem mach_setluck (k : VK) (s : VSt) (x : Int) : (s.cells k).setIfInBounds 84 (.int .i64 x) = ({ s with luck := x } : VSt).cells k := by
  refine mach_ext (by simp [mach_size]) fun j hj => ?_
  rw [Array.getElem?_setIfInBounds, mach_size, mach_at _ _ _ hj]
  split
  · rename_i h; subst h; rfl
  · rename_i h
    have : j < 82 ∨ j = 82 ∨ j = 83 ∨ j = 84 := by omega
    rcases this with h | rfl | rfl | rfl
    · unfold VSt.cellAt
      simp only [h, if_true]
    all_goals first | rfl | omega
def IsMach (w : World) (b : Nat) (k : VK) (s : VSt) : Prop := w.heap[b]? = some (.cells (s.cells k) 71 (0, 0))
section
variable {w : World} {b : Nat} {k : VK} {s : VSt} (hm : IsMach w b k s)
include hm
theorem mach_cell (i : Nat) (h : i < 85) : wcell w b i = some (s.cellAt k i) := by rw [wcell_of hm, mach_at _ _ _ h]
theorem mach_l : wcell w b 0 = some k.l := mach_cell hm 0 (by omega)
theorem mach_clock : wcell w b 34 = some (.int .u64 k.clock) := mach_cell hm 34 (by omega)
theorem mach_random : wcell w b 35 = some k.random := mach_cell hm 35 (by omega)
theorem mach_bm : wcell w b 37 = some (.pointer (some ⟨k.bm, 0, none⟩)) := mach_cell hm 37 (by omega)
theorem mach_pos : wcell w b 82 = some (.int .i64 s.pos) := mach_cell hm 82 (by omega)
theorem mach_done : wcell w b 83 = some (.bool s.done) := mach_cell hm 83 (by omega)
theorem mach_luck : wcell w b 84 = some (.int .i64 s.luck) := mach_cell hm 84 (by omega)
theorem mach_tag0 : wcell w b 38 = some (.int .i64 (s.r 0).tag) := mach_cell hm 38 (by omega)
theorem mach_n0 : wcell w b 39 = some (.int .u64 (s.r 0).n) := mach_cell hm 39 (by omega)
theorem mach_tag1 : wcell w b 42 = some (.int .i64 (s.r 1).tag) := mach_cell hm 42 (by omega)
theorem mach_slot1 : wcell w b 44 = some (.int .i64 (s.r 1).slot) := mach_cell hm 44 (by omega)
theorem mach_rrow (i : Nat) (h : i < 11) : wrow w b (38 + i * 4) 4 = some (s.r i).arr := by rw [wrow_of hm (by rw [mach_size]; omega), mach_row k s i h]
theorem mach_streg (i : Nat) (h : i < 11) (v : RVal) : stv w 4 (.pointer (some ⟨b, 38 + i * 4, none⟩)) (.agg v.arr) = some (put w b (.cells (({ s with r := fset s.r i v } : VSt).cells k) 71 (0, 0))) := by
  rw [stv_of (n := 4) (v := .agg v.arr) hm rfl (by rw [mach_size]; show _ + 4 ≤ _; omega) (.inl (by simp)) (rval_one v)]
  have := mach_setreg k s i v h
  simp only [Value.cells] at this ⊢
  rw [this]
theorem mach_stpos (x : Int) : stv w 1 (.pointer (some ⟨b, 82, none⟩)) (.int .i64 x) = some (put w b (.cells (({ s with pos := x } : VSt).cells k) 71 (0, 0))) := by
  rw [stv_of (n := 1) (v := .int .i64 x) hm rfl (by rw [mach_size]; show 82 + 1 ≤ 85; omega) (.inl (by simp)) (by simp [Value.cells, Value.oneCell'])]
  have := mach_setpos k s x
  rw [← this]; rfl
theorem mach_stdone (x : Bool) : stv w 1 (.pointer (some ⟨b, 83, none⟩)) (.bool x) = some (put w b (.cells (({ s with done := x } : VSt).cells k) 71 (0, 0))) := by
  rw [stv_of (n := 1) (v := .bool x) hm rfl (by rw [mach_size]; show 83 + 1 ≤ 85; omega) (.inl (by simp)) (by simp [Value.cells, Value.oneCell'])]
  have := mach_setdone k s x
  rw [← this]; rfl
theorem mach_stluck (x : Int) : stv w 1 (.pointer (some ⟨b, 84, none⟩)) (.int .i64 x) = some (put w b (.cells (({ s with luck := x } : VSt).cells k) 71 (0, 0))) := by
  rw [stv_of (n := 1) (v := .int .i64 x) hm rfl (by rw [mach_size]; show 84 + 1 ≤ 85; omega) (.inl (by simp)) (by simp [Value.cells, Value.oneCell'])]
  have := mach_setluck k s x
  rw [← this]; rfl
theorem mach_put (s' : VSt) : IsMach (put w b (.cells (s'.cells k) 71 (0, 0))) b k s' := put_same (blk_lt hm)
theorem mach_keep {S : Nat → Prop} {w' : World} (hk : Kept S w w') (hS : ¬ S b) : IsMach w' b k s := hk.has hm hS
end
end Go.Proofs.YtmfgdbapankamaaGreat
namespace Go.Proofs.YtmfgdbapankamaaGreat
open Go.Eng
theorem zero_val : (Value.agg #[.int .i64 0, .int .u64 0, .int .i64 0, .pointer none]) = .agg RVal.zero.arr := rfl
theorem number_T (w0 : World) (n : Int) : T Tryz.prog w0 57 [.int .u64 n] = some (num n).val :=
  T_of (by kernel_rfl) Tryz.func57 rfl ok_vm_number (by simp) (by simpa using rval_ext0 _ (num n) rfl) fun B hB => by
    simp only [c_vm_number, zero_val]
    simp [num, RVal.zero]
def placeOf (v : RVal) : Bool := decide (v.tag = 2) || decide (v.tag = 3) || decide (v.tag = 5)
theorem place_T (w0 : World) (v : RVal) (h : v.cell = none) : T Tryz.prog w0 70 [.agg v.arr] = some (.bool (placeOf v)) :=
  T_of (by kernel_rfl) Tryz.func70 rfl ok_vm_place (by simpa using rval_ext0 _ _ h) (by simp) fun B hB => by
    simp only [c_vm_place, zero_val]
    by_cases h2 : v.tag = 2
    · simp [placeOf, h2]
    · by_cases h3 : v.tag = 3
      · simp [placeOf, h3]
      · simp [placeOf, h2, h3]
def furth (v : RVal) (by' : Int) : RVal := { v with n := IntKind.u64.wrap (v.n + by') }
theorem further_T (w0 : World) (v : RVal) (y : Int) (h : v.cell = none) : T Tryz.prog w0 71 [.agg v.arr, .int .u64 y] = some (.agg (furth v y).arr) :=
  T_of (by kernel_rfl) Tryz.func71 rfl ok_vm_further (by simpa using rval_ext0 _ _ h) (by simpa using rval_ext0 _ (furth v y) h) fun B hB => by
    simp only [c_vm_further, zero_val]
    simp [furth]
def onPlaceOf (op : Nat) (a b : RVal) : RVal × Bool :=
  if op = 11 ∧ b.tag ≠ 0 then (b, true)
  else if op = 0 ∧ placeOf a = true ∧ b.tag = 1 then (furth a b.n, true)
  else if op = 1 ∧ placeOf a = true ∧ b.tag = 1 then (furth a (IntKind.u64.wrap (0 - b.n)), true)
  else if op = 0 ∧ placeOf b = true ∧ a.tag = 1 then (furth b a.n, true)
  else (RVal.zero, false)
theorem onPlace_cell (op : Nat) (a b : RVal) (ha : a.cell = none) (hb : b.cell = none) : (onPlaceOf op a b).1.cell = none := by
  unfold onPlaceOf furth
  repeat' split
  all_goals first | exact ha | exact hb | rfl
set_option maxHeartbeats 1000000 in
theorem onPlace_T (w0 : World) (op : Nat) (a b : RVal) (ha : a.cell = none) (hb : b.cell = none) : T Tryz.prog w0 60 [.int .i64 op, .agg a.arr, .agg b.arr] = some (.tuple #[.agg (onPlaceOf op a b).1.arr, .bool (onPlaceOf op a b).2]) :=
  T_of (by kernel_rfl) Tryz.func60 rfl ok_vm_onPlace (by have := rval_ext0 w0.heap.size a ha; have := rval_ext0 w0.heap.size b hb; simp_all) (by have := rval_ext0 w0.heap.size _ (onPlace_cell op a b ha hb); simpa using this) fun B hB => by
    have p1 := place_T w0 a ha
    have p2 := place_T w0 b hb
    have f1 := further_T w0 a b.n ha
    have f2 := further_T w0 a (IntKind.u64.wrap (0 - b.n)) ha
    have f3 := further_T w0 b a.n hb
    simp only [Int.zero_sub] at f2
    simp only [c_vm_onPlace, zero_val]
    unfold onPlaceOf
    by_cases h11 : op = 11
    · subst h11
      by_cases h0 : b.tag = 0 <;> simp [C_cond_eq, h0]
    by_cases h0 : op = 0
    · subst h0
      cases q1 : placeOf a <;> cases q2 : placeOf b <;> rw [q1] at p1 <;> rw [q2] at p2 <;> by_cases h1 : b.tag = 1 <;> by_cases h2 : a.tag = 1 <;> simp [C_cond_eq, p1, p2, f1, f2, f3, h1, h2]
    by_cases h1 : op = 1
    · subst h1
      cases q1 : placeOf a <;> rw [q1] at p1 <;> by_cases h1 : b.tag = 1 <;> simp [C_cond_eq, p1, f2, h1]
    simp [C_cond_eq, ci_eq, h11, h0, h1]
def targetOf (pos off : Int) : Int := IntKind.i64.wrap (IntKind.i64.wrap (pos + IntKind.i64.wrap off) + 1)
theorem target_T (w0 : World) (pos : Int) (x : Ins) : T Tryz.prog w0 36 [.int .i64 pos, .agg x.arr] = some (.int .i64 (targetOf pos x.off)) :=
  T_of (by kernel_rfl) Tryz.func36 rfl ok_shape_Target (by simp) (by simp) fun B hB => by
    simp [c_shape_Target, targetOf]
def secondOf (s : VSt) (x : Ins) (reg : Bool) : RVal := if reg = true then s.r x.src else num (IntKind.u64.wrap (IntKind.i64.wrap x.imm))
theorem second_T (w0 : World) (b : Nat) (k : VK) (s : VSt) (hm : IsMach w0 b k s) (x : Ins) (reg : Bool) (hx : x.src < 11) (hc : ∀ i, (s.r i).cell = none) :
    T Tryz.prog w0 40 [.pointer (some ⟨b, 0, none⟩), .agg x.arr, .bool reg] = some (.agg (secondOf s x reg).arr) :=
  T_of (by kernel_rfl) Tryz.func40 rfl ok_vm_machine_second (by simpa using blk_lt hm) (by
      have : (secondOf s x reg).cell = none := by unfold secondOf; split; exact hc _; rfl
      simpa using rval_ext0 _ _ this) fun B hB => by
    have t1 := number_T w0 (IntKind.u64.wrap (IntKind.i64.wrap x.imm))
    have e1 : ∀ l, wrow (ownW B l) b (38 + x.src * 4) 4 = some (s.r x.src).arr := fun l => own_extR hB (mach_rrow hm x.src hx)
    simp only [RVal.val] at t1
    simp only [c_vm_machine_second, zero_val]
    have hx' : ((x.src : Int) < 11) := by omega
    cases reg
    · simp [C_cond_eq, t1, secondOf]
    · simp [C_cond_eq, e1, secondOf, hx']
end Go.Proofs.YtmfgdbapankamaaGreat
