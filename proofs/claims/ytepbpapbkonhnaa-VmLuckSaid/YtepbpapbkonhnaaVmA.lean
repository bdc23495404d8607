/- Layers 4, 14, 15: parts of an instruction, numbers, comparisons; as equations. -/
import Derived.Test.YtepbpapbkonhnaaCmdsVm
import Derived.Test.YtepbpapbkonhnaaBase
import Derived.Test.YtepbpapbkonhnaaEngO
import Derived.Test.YtepbpapbkonhnaaRegJ
set_option linter.unusedSimpArgs false
set_option linter.unusedVariables false
set_option maxRecDepth 8000
namespace Go.Proofs.Ytepbpapbkonhnaa
open Go.Eng

structure Parts where
  kind : Int
  op : Nat
  size : Int
  long : Bool
  reg : Bool
def Parts.arr (p : Parts) : Array Value := #[.int .i64 p.kind, .int .i64 p.op, .int .i64 p.size, .bool p.long, .bool p.reg]
def Parts.val (p : Parts) : Value := .agg p.arr
attribute [simp] Parts.val
def Parts.zero : Parts := ⟨0, 0, 0, false, false⟩
@[simp] theorem parts_size (p : Parts) : p.arr.size = 5 := by simp [Parts.arr]
@[simp] theorem parts_one (p : Parts) : p.arr.all (·.oneCell') = true := by simp [Parts.arr, Value.oneCell']
@[simp] theorem parts_ext (n : Nat) (p : Parts) : (∀ x, x ∈ p.arr → Ext n x) = True := eq_true fun x hx => by
  simp [Parts.arr] at hx
  rcases hx with rfl | rfl | rfl | rfl | rfl <;> simp
@[simp] theorem parts_0 (p : Parts) : p.arr[0]? = some (.int .i64 p.kind) := rfl
@[simp] theorem parts_1 (p : Parts) : p.arr[1]? = some (.int .i64 p.op) := rfl
@[simp] theorem parts_2 (p : Parts) : p.arr[2]? = some (.int .i64 p.size) := rfl
@[simp] theorem parts_3 (p : Parts) : p.arr[3]? = some (.bool p.long) := rfl
@[simp] theorem parts_4 (p : Parts) : p.arr[4]? = some (.bool p.reg) := rfl

@[simp] theorem ostC_parts (c : Array Value) (p : Parts) (h : c.size = 5) : ostC c 5 0 (.agg p.arr) = some p.arr := ostC_all c 5 p.arr h (parts_size p) (parts_one p)

def partsAlu (op : Nat) : Parts :=
  if 12 < op / 16 ∨ (op / 16 = 8 ∧ op / 8 % 2 = 1) then Parts.zero else ⟨1, op / 16, 0, decide (op % 8 = 7), decide (op / 8 % 2 = 1)⟩
def partsJump (op : Nat) : Parts :=
  if op / 16 = 0 ∨ op / 16 = 8 ∨ op / 16 = 9 then
    if op % 8 = 5 ∧ op / 8 % 2 = 0 then ⟨if op / 16 = 0 then 3 else if op / 16 = 8 then 4 else 5, 0, 0, false, false⟩ else Parts.zero
  else if 13 < op / 16 then Parts.zero else ⟨2, op / 16, 0, decide (op % 8 = 5), decide (op / 8 % 2 = 1)⟩
def sizeAt (k : Nat) : Int := if k = 0 then 4 else if k = 1 then 2 else if k = 2 then 1 else 8
def partsMem (op : Nat) : Parts :=
  if op / 32 = 3 then ⟨if op % 8 = 1 then 6 else 7, 0, sizeAt (op / 8 % 4), false, decide (op % 8 = 3)⟩
  else if op / 32 = 6 ∧ op % 8 = 3 ∧ 4 ≤ sizeAt (op / 8 % 4) then ⟨8, 0, sizeAt (op / 8 % 4), false, true⟩ else Parts.zero
def partsOf (op : Nat) : Parts :=
  if op % 8 = 4 ∨ op % 8 = 7 then partsAlu op else if op % 8 = 5 ∨ op % 8 = 6 then partsJump op
  else if op % 8 = 1 ∨ op % 8 = 2 ∨ op % 8 = 3 then partsMem op
  else if op = 24 then ⟨9, 0, 8, false, false⟩ else if op = 0 then ⟨10, 0, 0, false, false⟩ else Parts.zero

theorem u8and (m : Nat) (f : Nat → Nat) (h : ∀ op : Fin 256, bitAnd .u8 ((op.val : Nat) : Int) (m : Int) = ((f op.val : Nat) : Int)) {op : Nat} (ho : op < 256) : bitAnd .u8 (op : Int) (m : Int) = ((f op : Nat) : Int) := h ⟨op, ho⟩
theorem op_and7 {op : Nat} (ho : op < 256) : bitAnd .u8 (op : Int) 7 = ((op % 8 : Nat) : Int) := u8and 7 (fun x => x % 8) (by decide +kernel) ho
theorem op_and8 {op : Nat} (ho : op < 256) : bitAnd .u8 (op : Int) 8 = ((op / 8 % 2 * 8 : Nat) : Int) := u8and 8 (fun x => x / 8 % 2 * 8) (by decide +kernel) ho
theorem op_and3 {op : Nat} (ho : op < 256) : bitAnd .u8 ((op : Int) / 8) 3 = ((op / 8 % 4 : Nat) : Int) := by
  have h := u8and 3 (fun x => x % 4) (by decide +kernel) (op := op / 8) (by omega)
  simpa using h
theorem nat_fdiv (a b : Nat) : Int.fdiv (a : Int) (b : Int) = ((a / b : Nat) : Int) := by
  rw [Int.fdiv_eq_ediv_of_nonneg _ (by omega)]
  rfl
theorem op_shr4 (op : Nat) : Int.fdiv (op : Int) (2 ^ (min 4 (IntKind.bits .u8))) = ((op / 16 : Nat) : Int) := nat_fdiv op 16
theorem op_shr3 (op : Nat) : Int.fdiv (op : Int) (2 ^ (min 3 (IntKind.bits .u8))) = ((op / 8 : Nat) : Int) := nat_fdiv op 8
theorem op_shr5 (op : Nat) : Int.fdiv (op : Int) (2 ^ (min 5 (IntKind.bits .u8))) = ((op / 32 : Nat) : Int) := nat_fdiv op 32
theorem op_bit {op : Nat} (ho : op < 256) : decide (bitAnd .u8 (op : Int) 8 = 0) = !decide (op / 8 % 2 = 1) := by
  rw [op_and8 ho]
  have : op / 8 % 2 = 0 ∨ op / 8 % 2 = 1 := by omega
  rcases this with h | h <;> rw [h] <;> rfl

theorem ci_eq (q n : Nat) : ((q : Int) = (no_index (@OfNat.ofNat Int n _))) = (q = @OfNat.ofNat Nat n _) := propext ⟨fun h => by have h : (q : Int) = (n : Int) := h; exact Int.ofNat.inj h, fun h => by have h : q = n := h; rw [h]; rfl⟩
theorem ci_lt (q n : Nat) : ((no_index (@OfNat.ofNat Int n _)) < (q : Int)) = (@OfNat.ofNat Nat n _ < q) := propext ⟨fun h => by have h : (n : Int) < (q : Int) := h; exact Int.ofNat_lt.1 h, fun h => by have h : n < q := h; exact Int.ofNat_lt.2 h⟩

theorem insn_alu_T (w0 : World) {op : Nat} (ho : op < 256) : T Try.prog w0 72 [.int .u8 op] = some (partsAlu op).val :=
  T_of (by kernel_rfl) Try.func72 rfl ok_insn_alu (by simp) (by simp) fun B hB => by
    have e7 := op_and7 ho
    have e8 := op_bit ho
    have e4 := op_shr4 op
    unfold partsAlu
    generalize op / 8 % 2 = r at *
    have hq : op / 16 < 16 := by omega
    generalize op / 16 = q at *
    generalize op % 8 = lo at *
    have e0 := i64w (n := (q : Int)) (by omega) (by omega)
    simp [c_insn_alu, C_cond_eq, e7, e8, e4, e0, ci_eq, ci_lt]
    split <;> rfl
theorem insn_jump_T (w0 : World) {op : Nat} (ho : op < 256) : T Try.prog w0 73 [.int .u8 op] = some (partsJump op).val :=
  T_of (by kernel_rfl) Try.func73 rfl ok_insn_jump (by simp) (by simp) fun B hB => by
    have e7 := op_and7 ho
    have e8 := op_bit ho
    have e4 := op_shr4 op
    have hr : (op / 8 % 2 = 0) = (¬ op / 8 % 2 = 1) := propext (by omega)
    unfold partsJump
    simp only [hr]
    generalize op / 8 % 2 = r at *
    have hq : op / 16 < 16 := by omega
    generalize op / 16 = q at *
    generalize op % 8 = lo at *
    have e0 := i64w (n := (q : Int)) (by omega) (by omega)
    simp [c_insn_jump, C_cond_eq, e7, e8, e4, e0, ci_eq, ci_lt]
    by_cases h0 : q = 0
    · subst h0; simp; by_cases ha : lo = 5 <;> by_cases hb : r = 1 <;> simp [ha, hb] <;> rfl
    by_cases h8 : q = 8
    · subst h8; simp; by_cases ha : lo = 5 <;> by_cases hb : r = 1 <;> simp [ha, hb] <;> rfl
    by_cases h9 : q = 9
    · subst h9; simp; by_cases ha : lo = 5 <;> by_cases hb : r = 1 <;> simp [ha, hb] <;> rfl
    simp [h0, h8, h9]
    split <;> rfl
theorem insn_memory_T (w0 : World) {op : Nat} (ho : op < 256) : T Try.prog w0 74 [.int .u8 op] = some (partsMem op).val :=
  T_of (by kernel_rfl) Try.func74 rfl ok_insn_memory (by simp) (by simp) fun B hB => by
    have e7 := op_and7 ho
    have e3 := op_and3 ho
    have e4 := op_shr3 op
    have e5 := op_shr5 op
    simp only [Int.natCast_ediv] at e4
    unfold partsMem
    have hr : op / 8 % 4 < 4 := by omega
    generalize op / 8 % 4 = r at *
    have hq : op / 32 < 8 := by omega
    generalize op / 32 = q at *
    generalize op % 8 = lo at *
    have : r = 0 ∨ r = 1 ∨ r = 2 ∨ r = 3 := by omega
    rcases this with rfl | rfl | rfl | rfl <;> simp [c_insn_memory, C_cond_eq, e7, e3, e4, e5, ci_eq, ci_lt]
    all_goals
      by_cases h3 : q = 3
      · subst h3; by_cases h1 : lo = 1
        · subst h1; simp; rfl
        · simp [h1]; rfl
      · by_cases h6 : q = 6
        · subst h6; by_cases h1 : lo = 3
          · subst h1; simp; rfl
          · simp [h1]; rfl
        · simp [h3, h6]; rfl

theorem Of_T (w0 : World) {op : Nat} (ho : op < 256) : T Try.prog w0 59 [.int .u8 op] = some (partsOf op).val :=
  T_of (by kernel_rfl) Try.func59 rfl ok_insn_Of (by simp) (by simp) fun B hB => by
    have e7 := op_and7 ho
    have t1 := insn_alu_T w0 ho
    have t2 := insn_jump_T w0 ho
    have t3 := insn_memory_T w0 ho
    simp only [Parts.val] at t1 t2 t3
    unfold partsOf
    have hl : op % 8 < 8 := by omega
    generalize op % 8 = lo at *
    have : lo = 0 ∨ lo = 1 ∨ lo = 2 ∨ lo = 3 ∨ lo = 4 ∨ lo = 5 ∨ lo = 6 ∨ lo = 7 := by omega
    rcases this with rfl | rfl | rfl | rfl | rfl | rfl | rfl | rfl <;> simp [c_insn_Of, C_cond_eq, e7, ci_eq, ci_lt, t1, t2, t3]
    by_cases h1 : op = 24
    · subst h1; simp; rfl
    · by_cases h2 : op = 0
      · subst h2; simp; rfl
      · simp [h1, h2]; rfl

end Go.Proofs.Ytepbpapbkonhnaa
