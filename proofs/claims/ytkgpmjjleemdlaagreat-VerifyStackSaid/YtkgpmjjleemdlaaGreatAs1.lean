/- Layer 4: parts of an instruction, as equations. -/
import Derived.Test.YtkgpmjjleemdlaaGreatCmdsA
import Derived.Test.YtkgpmjjleemdlaaGreatBase
import Derived.Test.YtkgpmjjleemdlaaGreatEngO
set_option linter.unusedSimpArgs false
set_option linter.unusedVariables false
set_option maxRecDepth 8000
namespace Go.Proofs.YtkgpmjjleemdlaaGreat
open Go.Eng

structure Parts where
  kind : Int
  op : Nat
  size : Int
  long : Bool
  reg : Bool
def Parts.arr (p : Parts) : Array Value := #[.int .i64 p.kind, .int .i64 p.op, .int .i64 p.size, .bool p.long, .bool p.reg]
def Parts.val (p : Parts) : Value := .agg p.arr
attribute [simp] Parts.val
def Parts.zero : Parts := ⟨0, 0, 0, false, false⟩
@[simp] theorem parts_size (p : Parts) : p.arr.size = 5 := by simp [Parts.arr]
@[simp] theorem parts_one (p : Parts) : p.arr.all (·.oneCell') = true := by simp [Parts.arr, Value.oneCell']
@[simp] theorem parts_ext (n : Nat) (p : Parts) : (∀ x, x ∈ p.arr → Ext n x) = True := eq_true fun x hx => by
  simp [Parts.arr] at hx
  rcases hx with rfl | rfl | rfl | rfl | rfl <;> simp
@[simp] theorem parts_0 (p : Parts) : p.arr[0]? = some (.int .i64 p.kind) := rfl
@[simp] theorem parts_1 (p : Parts) : p.arr[1]? = some (.int .i64 p.op) := rfl
@[simp] theorem parts_2 (p : Parts) : p.arr[2]? = some (.int .i64 p.size) := rfl
@[simp] theorem parts_3 (p : Parts) : p.arr[3]? = some (.bool p.long) := rfl
@[simp] theorem parts_4 (p : Parts) : p.arr[4]? = some (.bool p.reg) := rfl

@[simp] theorem ostC_parts (c : Array Value) (p : Parts) (h : c.size = 5) : ostC c 5 0 (.agg p.arr) = some p.arr := ostC_all c 5 p.arr h (parts_size p) (parts_one p)

def partsAlu (op : Nat) : Parts :=
  if 12 < op / 16 ∨ (op / 16 = 8 ∧ op / 8 % 2 = 1) then Parts.zero else ⟨1, op / 16, 0, decide (op % 8 = 7), decide (op / 8 % 2 = 1)⟩
def partsJump (op : Nat) : Parts :=
  if op / 16 = 0 ∨ op / 16 = 8 ∨ op / 16 = 9 then
    if op % 8 = 5 ∧ op / 8 % 2 = 0 then ⟨if op / 16 = 0 then 3 else if op / 16 = 8 then 4 else 5, 0, 0, false, false⟩ else Parts.zero
  else if 13 < op / 16 then Parts.zero else ⟨2, op / 16, 0, decide (op % 8 = 5), decide (op / 8 % 2 = 1)⟩
def sizeAt (k : Nat) : Int := if k = 0 then 4 else if k = 1 then 2 else if k = 2 then 1 else 8
def partsMem (op : Nat) : Parts :=
  if op / 32 = 3 then ⟨if op % 8 = 1 then 6 else 7, 0, sizeAt (op / 8 % 4), false, decide (op % 8 = 3)⟩
  else if op / 32 = 6 ∧ op % 8 = 3 ∧ 4 ≤ sizeAt (op / 8 % 4) then ⟨8, 0, sizeAt (op / 8 % 4), false, true⟩ else Parts.zero
def partsOf (op : Nat) : Parts :=
  if op % 8 = 4 ∨ op % 8 = 7 then partsAlu op else if op % 8 = 5 ∨ op % 8 = 6 then partsJump op
  else if op % 8 = 1 ∨ op % 8 = 2 ∨ op % 8 = 3 then partsMem op
  else if op = 24 then ⟨9, 0, 8, false, false⟩ else if op = 0 then ⟨10, 0, 0, false, false⟩ else Parts.zero

theorem u8and (m : Nat) (f : Nat → Nat) (h : ∀ op : Fin 256, bitAnd .u8 ((op.val : Nat) : Int) (m : Int) = ((f op.val : Nat) : Int)) {op : Nat} (ho : op < 256) : bitAnd .u8 (op : Int) (m : Int) = ((f op : Nat) : Int) := h ⟨op, ho⟩
theorem op_and7 {op : Nat} (ho : op < 256) : bitAnd .u8 (op : Int) 7 = ((op % 8 : Nat) : Int) := u8and 7 (fun x => x % 8) (by decide +kernel) ho
theorem op_and8 {op : Nat} (ho : op < 256) : bitAnd .u8 (op : Int) 8 = ((op / 8 % 2 * 8 : Nat) : Int) := u8and 8 (fun x => x / 8 % 2 * 8) (by decide +kernel) ho
theorem op_and3 {op : Nat} (ho : op < 256) : bitAnd .u8 ((op : Int) / 8) 3 = ((op / 8 % 4 : Nat) : Int) := by
  have h := u8and 3 (fun x => x % 4) (by decide +kernel) (op := op / 8) (by omega)
  simpa using h
theorem nat_fdiv (a b : Nat) : Int.fdiv (a : Int) (b : Int) = ((a / b : Nat) : Int) := by
  rw [Int.fdiv_eq_ediv_of_nonneg _ (by omega)]
  rfl
theorem op_shr4 (op : Nat) : Int.fdiv (op : Int) (2 ^ (min 4 (IntKind.bits .u8))) = ((op / 16 : Nat) : Int) := nat_fdiv op 16
theorem op_shr3 (op : Nat) : Int.fdiv (op : Int) (2 ^ (min 3 (IntKind.bits .u8))) = ((op / 8 : Nat) : Int) := nat_fdiv op 8
theorem op_shr5 (op : Nat) : Int.fdiv (op : Int) (2 ^ (min 5 (IntKind.bits .u8))) = ((op / 32 : Nat) : Int) := nat_fdiv op 32
theorem op_bit {op : Nat} (ho : op < 256) : decide (bitAnd .u8 (op : Int) 8 = 0) = !decide (op / 8 % 2 = 1) := by
  rw [op_and8 ho]
  have : op / 8 % 2 = 0 ∨ op / 8 % 2 = 1 := by omega
  rcases this with h | h <;> rw [h] <;> rfl

theorem ci_eq (q n : Nat) : ((q : Int) = (no_index (@OfNat.ofNat Int n _))) = (q = @OfNat.ofNat Nat n _) := propext ⟨fun h => by have h : (q : Int) = (n : Int) := h; exact Int.ofNat.inj h, fun h => by have h : q = n := h; rw [h]; rfl⟩
theorem ci_lt (q n : Nat) : ((no_index (@OfNat.ofNat Int n _)) < (q : Int)) = (@OfNat.ofNat Nat n _ < q) := propext ⟨fun h => by have h : (n : Int) < (q : Int) := h; exact Int.ofNat_lt.1 h, fun h => by have h : n < q := h; exact Int.ofNat_lt.2 h⟩

theorem insn_alu_T (w0 : World) {op : Nat} (ho : op < 256) : T Tryz.prog w0 37 [.int .u8 op] = some (partsAlu op).val :=
  T_of (by kernel_rfl) Tryz.func37 rfl ok_insn_alu (by simp) (by simp) fun B hB => by
    have e7 := op_and7 ho
    have e8 := op_bit ho
    have e4 := op_shr4 op
    unfold partsAlu
    generalize op / 8 % 2 = r at *
    have hq : op / 16 < 16 := by omega
    generalize op / 16 = q at *
    generalize op % 8 = lo at *
    have e0 := i64w (n := (q : Int)) (by omega) (by omega)
    simp [c_insn_alu, C_cond_eq, e7, e8, e4, e0, ci_eq, ci_lt]
    split <;> rfl
theorem insn_jump_T (w0 : World) {op : Nat} (ho : op < 256) : T Tryz.prog w0 38 [.int .u8 op] = some (partsJump op).val :=
  T_of (by kernel_rfl) Tryz.func38 rfl ok_insn_jump (by simp) (by simp) fun B hB => by
    have e7 := op_and7 ho
    have e8 := op_bit ho
    have e4 := op_shr4 op
    have hr : (op / 8 % 2 = 0) = (¬ op / 8 % 2 = 1) := propext (by omega)
    unfold partsJump
    simp only [hr]
    generalize op / 8 % 2 = r at *
    have hq : op / 16 < 16 := by omega
    generalize op / 16 = q at *
    generalize op % 8 = lo at *
    have e0 := i64w (n := (q : Int)) (by omega) (by omega)
    simp [c_insn_jump, C_cond_eq, e7, e8, e4, e0, ci_eq, ci_lt]
    by_cases h0 : q = 0
    · subst h0; simp; by_cases ha : lo = 5 <;> by_cases hb : r = 1 <;> simp [ha, hb] <;> rfl
    by_cases h8 : q = 8
    · subst h8; simp; by_cases ha : lo = 5 <;> by_cases hb : r = 1 <;> simp [ha, hb] <;> rfl
    by_cases h9 : q = 9
    · subst h9; simp; by_cases ha : lo = 5 <;> by_cases hb : r = 1 <;> simp [ha, hb] <;> rfl
    simp [h0, h8, h9]
    split <;> rfl
theorem insn_memory_T (w0 : World) {op : Nat} (ho : op < 256) : T Tryz.prog w0 39 [.int .u8 op] = some (partsMem op).val :=
  T_of (by kernel_rfl) Tryz.func39 rfl ok_insn_memory (by simp) (by simp) fun B hB => by
    have e7 := op_and7 ho
    have e3 := op_and3 ho
    have e4 := op_shr3 op
    have e5 := op_shr5 op
    simp only [Int.natCast_ediv] at e4
    unfold partsMem
    have hr : op / 8 % 4 < 4 := by omega
    generalize op / 8 % 4 = r at *
    have hq : op / 32 < 8 := by omega
    generalize op / 32 = q at *
    generalize op % 8 = lo at *
    have : r = 0 ∨ r = 1 ∨ r = 2 ∨ r = 3 := by omega
    rcases this with rfl | rfl | rfl | rfl <;> simp [c_insn_memory, C_cond_eq, e7, e3, e4, e5, ci_eq, ci_lt]
    all_goals
      by_cases h3 : q = 3
      · subst h3; by_cases h1 : lo = 1
        · subst h1; simp; rfl
        · simp [h1]; rfl
      · by_cases h6 : q = 6
        · subst h6; by_cases h1 : lo = 3
          · subst h1; simp; rfl
          · simp [h1]; rfl
        · simp [h3, h6]; rfl

theorem Of_T (w0 : World) {op : Nat} (ho : op < 256) : T Tryz.prog w0 24 [.int .u8 op] = some (partsOf op).val :=
  T_of (by kernel_rfl) Tryz.func24 rfl ok_insn_Of (by simp) (by simp) fun B hB => by
    have e7 := op_and7 ho
    have t1 := insn_alu_T w0 ho
    have t2 := insn_jump_T w0 ho
    have t3 := insn_memory_T w0 ho
    simp only [Parts.val] at t1 t2 t3
    unfold partsOf
    have hl : op % 8 < 8 := by omega
    generalize op % 8 = lo at *
    have : lo = 0 ∨ lo = 1 ∨ lo = 2 ∨ lo = 3 ∨ lo = 4 ∨ lo = 5 ∨ lo = 6 ∨ lo = 7 := by omega
    rcases this with rfl | rfl | rfl | rfl | rfl | rfl | rfl | rfl <;> simp [c_insn_Of, C_cond_eq, e7, ci_eq, ci_lt, t1, t2, t3]
    by_cases h1 : op = 24
    · subst h1; simp; rfl
    · by_cases h2 : op = 0
      · subst h2; simp; rfl
      · simp [h1, h2]; rfl

end Go.Proofs.YtkgpmjjleemdlaaGreat

set_option linter.unusedSimpArgs false
set_option linter.unusedVariables false
set_option maxRecDepth 8000
namespace Go.Proofs.YtkgpmjjleemdlaaGreat
open Go.Eng

structure Ins where
  op : Nat
  dst : Nat
  src : Nat
  off : Int
  imm : Int
structure Ins.wf (x : Ins) : Prop where
  op : x.op < 256
  dst : x.dst < 256
  src : x.src < 256
  off : -32768 ≤ x.off ∧ x.off ≤ 32767
  imm : -2147483648 ≤ x.imm ∧ x.imm ≤ 2147483647
def Ins.arr (x : Ins) : Array Value := #[.int .u8 x.op, .int .u8 x.dst, .int .u8 x.src, .int .i16 x.off, .int .i32 x.imm]
def Ins.val (x : Ins) : Value := .agg x.arr
attribute [simp] Ins.val
def Ins.zero : Ins := ⟨0, 0, 0, 0, 0⟩
@[simp] theorem ins_size (x : Ins) : x.arr.size = 5 := by simp [Ins.arr]
@[simp] theorem ins_one (x : Ins) : x.arr.all (·.oneCell') = true := by simp [Ins.arr, Value.oneCell']
@[simp] theorem ins_ext (n : Nat) (x : Ins) : (∀ y, y ∈ x.arr → Ext n y) = True := eq_true fun y hy => by
  simp [Ins.arr] at hy
  rcases hy with rfl | rfl | rfl | rfl | rfl <;> simp
@[simp] theorem ins_0 (x : Ins) : x.arr[0]? = some (.int .u8 x.op) := rfl
@[simp] theorem ins_1 (x : Ins) : x.arr[1]? = some (.int .u8 x.dst) := rfl
@[simp] theorem ins_2 (x : Ins) : x.arr[2]? = some (.int .u8 x.src) := rfl
@[simp] theorem ins_3 (x : Ins) : x.arr[3]? = some (.int .i16 x.off) := rfl
@[simp] theorem ins_4 (x : Ins) : x.arr[4]? = some (.int .i32 x.imm) := rfl
@[simp] theorem ins_g0 (x : Ins) (h : 0 < x.arr.size) : x.arr[0]'h = .int .u8 x.op := rfl
@[simp] theorem ins_g1 (x : Ins) (h : 1 < x.arr.size) : x.arr[1]'h = .int .u8 x.dst := rfl
@[simp] theorem ins_g2 (x : Ins) (h : 2 < x.arr.size) : x.arr[2]'h = .int .u8 x.src := rfl
@[simp] theorem ins_g3 (x : Ins) (h : 3 < x.arr.size) : x.arr[3]'h = .int .i16 x.off := rfl
@[simp] theorem ins_g4 (x : Ins) (h : 4 < x.arr.size) : x.arr[4]'h = .int .i32 x.imm := rfl
@[simp] theorem parts_g0 (p : Parts) (h : 0 < p.arr.size) : p.arr[0]'h = .int .i64 p.kind := rfl
@[simp] theorem parts_g1 (p : Parts) (h : 1 < p.arr.size) : p.arr[1]'h = .int .i64 p.op := rfl
@[simp] theorem parts_g2 (p : Parts) (h : 2 < p.arr.size) : p.arr[2]'h = .int .i64 p.size := rfl
@[simp] theorem parts_g3 (p : Parts) (h : 3 < p.arr.size) : p.arr[3]'h = .bool p.long := rfl
@[simp] theorem parts_g4 (p : Parts) (h : 4 < p.arr.size) : p.arr[4]'h = .bool p.reg := rfl
@[simp] theorem ostC_ins (c : Array Value) (p : Ins) (h : c.size = 5) : ostC c 5 0 (.agg p.arr) = some p.arr := ostC_all c 5 p.arr h (ins_size p) (ins_one p)
@[simp] theorem zero_ins : (#[.int .u8 0, .int .u8 0, .int .u8 0, .int .i16 0, .int .i32 0] : Array Value) = Ins.zero.arr := rfl

/-- An instruction's named fields. -/
structure Fl where
  dst : Bool
  src : Bool
  off : Bool
  imm : Bool
def Fl.arr (f : Fl) : Array Value := #[.bool f.dst, .bool f.src, .bool f.off, .bool f.imm]
def Fl.val (f : Fl) : Value := .agg f.arr
attribute [simp] Fl.val
@[simp] theorem fl_size (x : Fl) : x.arr.size = 4 := by simp [Fl.arr]
@[simp] theorem fl_one (x : Fl) : x.arr.all (·.oneCell') = true := by simp [Fl.arr, Value.oneCell']
@[simp] theorem fl_ext (n : Nat) (x : Fl) : (∀ y, y ∈ x.arr → Ext n y) = True := eq_true fun y hy => by
  simp [Fl.arr] at hy
  rcases hy with rfl | rfl | rfl | rfl <;> simp
@[simp] theorem fl_0 (x : Fl) : x.arr[0]? = some (.bool x.dst) := rfl
@[simp] theorem fl_1 (x : Fl) : x.arr[1]? = some (.bool x.src) := rfl
@[simp] theorem fl_2 (x : Fl) : x.arr[2]? = some (.bool x.off) := rfl
@[simp] theorem fl_3 (x : Fl) : x.arr[3]? = some (.bool x.imm) := rfl
@[simp] theorem fl_g0 (x : Fl) (h : 0 < x.arr.size) : x.arr[0]'h = .bool x.dst := rfl
@[simp] theorem fl_g1 (x : Fl) (h : 1 < x.arr.size) : x.arr[1]'h = .bool x.src := rfl
@[simp] theorem fl_g2 (x : Fl) (h : 2 < x.arr.size) : x.arr[2]'h = .bool x.off := rfl
@[simp] theorem fl_g3 (x : Fl) (h : 3 < x.arr.size) : x.arr[3]'h = .bool x.imm := rfl
@[simp] theorem ostC_fl (c : Array Value) (p : Fl) (h : c.size = 4) : ostC c 4 0 (.agg p.arr) = some p.arr := ostC_all c 4 p.arr h (fl_size p) (fl_one p)

@[simp] theorem rep4 : Array.replicate 4 (Value.bool false) = Fl.arr ⟨false, false, false, false⟩ := rfl
@[simp] theorem fl_s0 (f : Fl) (b : Bool) : f.arr.setIfInBounds 0 (.bool b) = Fl.arr { f with dst := b } := rfl
@[simp] theorem fl_s1 (f : Fl) (b : Bool) : f.arr.setIfInBounds 1 (.bool b) = Fl.arr { f with src := b } := rfl
@[simp] theorem fl_s2 (f : Fl) (b : Bool) : f.arr.setIfInBounds 2 (.bool b) = Fl.arr { f with off := b } := rfl
@[simp] theorem fl_s3 (f : Fl) (b : Bool) : f.arr.setIfInBounds 3 (.bool b) = Fl.arr { f with imm := b } := rfl
def kindOf (x : Ins) : Int := (partsOf x.op).kind
theorem kind_T (w0 : World) {x : Ins} (hx : x.wf) : T Tryz.prog w0 45 [x.val] = some (.int .i64 (kindOf x)) :=
  T_of (by kernel_rfl) Tryz.func45 rfl ok_shape_kind (by simp) (by simp) fun B hB => by
    have e := Of_T w0 hx.op
    simp at e
    simp [c_shape_kind, e]; rfl
theorem atomic_T (w0 : World) (n : Int) : T Tryz.prog w0 86 [.int .i32 n] = some (.bool (decide (n = 0 ∨ n = 64 ∨ n = 80 ∨ n = 160))) :=
  T_of (by kernel_rfl) Tryz.func86 rfl ok_shape_atomic (by simp) (by simp) fun B hB => by
    by_cases h0 : n = 0 <;> by_cases h1 : n = 64 <;> by_cases h2 : n = 80 <;> by_cases h3 : n = 160 <;> simp [c_shape_atomic, pickV, h0, h1, h2, h3]
theorem writes_T (w0 : World) (n : Int) : T Tryz.prog w0 83 [.int .i64 n] = some (.bool (decide (n = 1 ∨ n = 6 ∨ n = 9))) :=
  T_of (by kernel_rfl) Tryz.func83 rfl ok_shape_writes (by simp) (by simp) fun B hB => by
    by_cases h0 : n = 1 <;> by_cases h1 : n = 6 <;> by_cases h2 : n = 9 <;> simp [c_shape_writes, pickV, h0, h1, h2]
def helperOk (n : Int) : Bool := decide (n = 1 ∨ n = 2 ∨ n = 3 ∨ n = 5 ∨ n = 7 ∨ n = 87 ∨ n = 88 ∨ n = 89)
theorem args_T (w0 : World) (n : Int) : ∃ k : Int, T Tryz.prog w0 85 [.int .i32 n] = some (.tuple #[.int .i64 k, .bool (helperOk n)]) := by
  refine ⟨if n = 1 ∨ n = 3 ∨ n = 88 ∨ n = 89 then 2 else if n = 2 then 4 else if n = 5 ∨ n = 7 then 0 else if n = 87 then 3 else 0, ?_⟩
  refine T_of (by kernel_rfl) Tryz.func85 rfl ok_shape_Args (by simp) (by simp) fun B hB => ?_
  unfold helperOk
  by_cases h : n = 1 ∨ n = 2 ∨ n = 3 ∨ n = 5 ∨ n = 7 ∨ n = 87 ∨ n = 88 ∨ n = 89
  · rcases h with rfl | rfl | rfl | rfl | rfl | rfl | rfl | rfl <;> simp [c_shape_Args, C_cond_eq] <;> rfl
  · simp only [not_or] at h
    obtain ⟨h1, h2, h3, h4, h5, h6, h7, h8⟩ := h
    simp [c_shape_Args, C_cond_eq, h1, h2, h3, h4, h5, h6, h7, h8]
def namedOf (p : Parts) : Fl :=
  if p.kind = 1 then ⟨true, p.reg, false, !p.reg && decide (p.op ≠ 8)⟩
  else if p.kind = 2 ∨ p.kind = 7 then ⟨true, p.reg, true, !p.reg⟩
  else if p.kind = 3 then ⟨false, false, true, false⟩
  else if p.kind = 4 ∨ p.kind = 10 then ⟨false, false, false, true⟩
  else if p.kind = 6 then ⟨true, true, true, false⟩
  else if p.kind = 8 then ⟨true, true, true, true⟩
  else if p.kind = 9 then ⟨true, true, false, true⟩ else ⟨false, false, false, false⟩
theorem named_T (w0 : World) (p : Parts) : T Tryz.prog w0 82 [p.val] = some (namedOf p).val :=
  T_of (by kernel_rfl) Tryz.func82 rfl ok_shape_named (by simp) (by simp) fun B hB => by
    obtain ⟨k, op, sz, lg, rg⟩ := p
    unfold namedOf
    by_cases h1 : k = 1
    · subst h1; cases rg <;> by_cases h8 : op = 8 <;> simp [c_shape_named, C_cond_eq, h8, ci_eq]
    by_cases h2 : k = 2
    · subst h2; simp [c_shape_named, C_cond_eq]
    by_cases h7 : k = 7
    · subst h7; simp [c_shape_named, C_cond_eq]
    by_cases h3 : k = 3
    · subst h3; simp [c_shape_named, C_cond_eq]
    by_cases h4 : k = 4
    · subst h4; simp [c_shape_named, C_cond_eq]
    by_cases h10 : k = 10
    · subst h10; simp [c_shape_named, C_cond_eq]
    by_cases h6 : k = 6
    · subst h6; simp [c_shape_named, C_cond_eq]
    by_cases h8 : k = 8
    · subst h8; simp [c_shape_named, C_cond_eq]
    by_cases h9 : k = 9
    · subst h9; simp [c_shape_named, C_cond_eq]
    simp [c_shape_named, C_cond_eq, h1, h2, h3, h4, h6, h7, h8, h9, h10]
theorem pickV_bool (a b c : Bool) : pickV (.bool a) (some (.bool b)) (some (.bool c)) = some (.bool (bif a then b else c)) := by cases a <;> rfl
def plainOk (x : Ins) (f : Fl) : Bool :=
  decide (x.dst < 11) && decide (x.src < 11) && (f.dst || decide (x.dst = 0)) && (f.src || decide (x.src = 0)) && (f.off || decide (x.off = 0)) && (f.imm || decide (x.imm = 0))
theorem plain_T (w0 : World) (x : Ins) (f : Fl) : T Tryz.prog w0 81 [x.val, f.val] = some (.bool (plainOk x f)) :=
  T_of (by kernel_rfl) Tryz.func81 rfl ok_shape_plain (by simp) (by simp) fun B hB => by
    obtain ⟨op, d, r, o, m⟩ := x
    obtain ⟨f1, f2, f3, f4⟩ := f
    have hd : decide ((11 : Int) ≤ d) = !decide (d < 11) := by by_cases h : d < 11 <;> simp [h] <;> omega
    have hr : decide ((11 : Int) ≤ r) = !decide (r < 11) := by by_cases h : r < 11 <;> simp [h] <;> omega
    simp [c_shape_plain, C_cond_eq, pickV_bool, hd, hr, ci_eq]
    unfold plainOk
    split
    · rename_i h
      rcases h with h | h
      · rw [decide_eq_false (show ¬ d < 11 by omega)]; simp
      · rw [decide_eq_false (show ¬ r < 11 by omega)]; simp
    · rename_i h
      rw [decide_eq_true (show d < 11 by omega), decide_eq_true (show r < 11 by omega)]
      split
      · rename_i h
        rcases h with ⟨rfl, h⟩ | ⟨rfl, h⟩ <;> simp [h]
      · rename_i h6
        split
        · rename_i h
          rcases h with ⟨rfl, h⟩ | ⟨rfl, h⟩ <;> simp [h]
        · rename_i h7
          cases f1 <;> cases f2 <;> cases f3 <;> cases f4 <;> simp_all
def constOk (p : Parts) (n : Int) : Bool :=
  if p.reg then true else if p.op = 3 ∨ p.op = 9 then decide (n ≠ 0)
  else if p.op = 6 ∨ p.op = 7 ∨ p.op = 12 then decide (0 ≤ n) && decide (n ≤ if p.long then 63 else 31) else true
theorem constant_T (w0 : World) (p : Parts) (n : Int) : T Tryz.prog w0 84 [p.val, .int .i32 n] = some (.bool (constOk p n)) :=
  T_of (by kernel_rfl) Tryz.func84 rfl ok_shape_constant (by simp) (by simp) fun B hB => by
    obtain ⟨k, op, sz, lg, rg⟩ := p
    unfold constOk
    cases rg
    · by_cases h3 : op = 3
      · subst h3; simp [c_shape_constant, C_cond_eq, ci_eq]
      by_cases h9 : op = 9
      · subst h9; simp [c_shape_constant, C_cond_eq, ci_eq]
      by_cases h6 : op = 6
      · subst h6; cases lg <;> by_cases hn : 0 ≤ n <;> simp [c_shape_constant, C_cond_eq, pickV, ci_eq, hn]
      by_cases h7 : op = 7
      · subst h7; cases lg <;> by_cases hn : 0 ≤ n <;> simp [c_shape_constant, C_cond_eq, pickV, ci_eq, hn]
      by_cases h12 : op = 12
      · subst h12; cases lg <;> by_cases hn : 0 ≤ n <;> simp [c_shape_constant, C_cond_eq, pickV, ci_eq, hn]
      simp [c_shape_constant, C_cond_eq, ci_eq, h3, h9, h6, h7, h12]
    · simp [c_shape_constant, C_cond_eq]
end Go.Proofs.YtkgpmjjleemdlaaGreat

set_option linter.unusedSimpArgs false
set_option linter.unusedVariables false
set_option maxRecDepth 8000
namespace Go.Proofs.YtkgpmjjleemdlaaGreat
open Go.Eng

/-- A row of instructions. -/
def CodeAt (w : World) (b o : Nat) (xs : List Ins) : Prop := ∀ (i : Nat) (x : Ins), xs[i]? = some x → wrow w b (o + i * 5) 5 = some x.arr
def AllWf (xs : List Ins) : Prop := ∀ x ∈ xs, x.wf
theorem CodeAt.calm {w w' : World} {b o : Nat} {xs : List Ins} (h : CodeAt w b o xs) (hk : Kept none' w w') : CodeAt w' b o xs := fun i x hx => wrow_calm hk (h i x hx)
theorem own_extR {w0 B : World} {l : Own} (hB : HeapLe w0 B) {b off n : Nat} {v : Array Value} (h : wrow w0 b off n = some v) : wrow (ownW B l) b off n = some v := by
  have h1 := wrow_mono hB h
  have hb : b < B.heap.size := by
    unfold wrow at h1
    cases hc : B.heap[b]? with
    | none => rw [hc] at h1; cases h1
    | some o => exact blk_lt hc
  unfold wrow at h1 ⊢
  rw [own_old hb]
  exact h1
theorem CodeAt.lt {w : World} {b o : Nat} {xs : List Ins} (h : CodeAt w b o xs) (h0 : 0 < xs.length) : b < w.heap.size := by
  have h1 := h 0 xs[0] (List.getElem?_eq_getElem h0)
  unfold wrow at h1
  cases hc : w.heap[b]? with
  | none => rw [hc] at h1; cases h1
  | some o => exact blk_lt hc

theorem row_cell {w : World} {q off n : Nat} {v : Array Value} (h : wrow w q off n = some v) (j : Nat) (hj : j < n) : wcell w q (off + j) = v[j]? := by
  unfold wrow at h
  unfold wcell
  cases hc : w.heap[q]? with
  | none => rw [hc] at h; cases h
  | some o =>
    rw [hc] at h
    cases o with
    | cells c T fz =>
      simp only [rowOf] at h
      split at h
      · simp at h; rw [← h]; simp [Array.getElem?_extract]; intro h2; omega
      · cases h
    | _ => cases h
theorem pickV_t (a b : Option Value) : pickV (.bool true) a b = a := rfl
theorem pickV_f (a b : Option Value) : pickV (.bool false) a b = b := rfl
def wideOk (xs : List Ins) (i : Nat) (x : Ins) : Bool := match xs[i + 1]? with
  | none => false
  | some y => decide (kindOf y = 10) && decide (x.src ≤ 1) && (decide (x.src = 0) || decide (0 ≤ x.imm) && decide (x.imm < 4) && decide (y.imm = 0))
theorem wide_T {w0 : World} {b o c : Nat} {xs : List Ins} (h : CodeAt w0 b o xs) (hw : AllWf xs) (hn : xs.length ≤ 1000000) {i : Nat} {x : Ins} (hi : xs[i]? = some x) :
    T Tryz.prog w0 87 [.slice (some ⟨b, o, none⟩) xs.length c, .int .i64 i] = some (.bool (wideOk xs i x)) := by
  have hil := (List.getElem?_eq_some_iff.1 hi).1
  have hb := h.lt (by omega)
  refine T_of (by kernel_rfl) Tryz.func87 rfl ok_shape_wide (by simp [hb]) (by simp) fun B hB => ?_
  have hx := fun l => own_extR (l := l) hB (h i x hi)
  have e1 : IntKind.i64.wrap ((i : Int) + 1) = ((i + 1 : Nat) : Int) := i64w (by omega) (by omega)
  have hii : (i : Int) < xs.length := by omega
  unfold wideOk
  cases hy : xs[i + 1]? with
  | none =>
    have hlen : xs.length ≤ i + 1 := by simpa using hy
    have hl2 : ¬ i + 1 < xs.length := by omega
    simp [c_shape_wide, C_cond_eq, pickV_bool, hx, hil, hii, e1, hlen, hl2, pickV_t, -Int.natCast_add]
  | some y =>
    have hyl := (List.getElem?_eq_some_iff.1 hy).1
    have hy' := fun l => own_extR (l := l) hB (h (i + 1) y hy)
    have hy4 := fun l => row_cell (hy' l) 4 (by omega)
    have hlen : ¬ xs.length ≤ i + 1 := by omega
    have hyz : (((i + 1 : Nat) : Int)) < xs.length := by omega
    have ek := kind_T w0 (hw y (List.mem_of_getElem? hy))
    simp at ek
    simp [c_shape_wide, C_cond_eq, pickV_bool, hx, hil, hii, e1, hlen, hyl, hyz, hy', hy4, pickV_f, ek, ci_eq, ci_lt, -Int.natCast_add]
    split
    · rename_i h
      intro h1 h2
      rcases h with h | h
      · exact absurd h1 h
      · omega
    · rename_i h
      intro _
      simp only [not_or, Classical.not_not] at h
      exact ⟨h.1, by omega⟩
def atomOk (n : Int) : Bool := decide (n = 0 ∨ n = 64 ∨ n = 80 ∨ n = 160)
def oneOk (xs : List Ins) (i : Nat) (x : Ins) : Bool :=
  if (partsOf x.op).kind = 0 then false else if plainOk x (namedOf (partsOf x.op)) = false then false
  else if ((partsOf x.op).kind = 1 ∨ (partsOf x.op).kind = 6 ∨ (partsOf x.op).kind = 9) ∧ x.dst = 10 then false
  else if (partsOf x.op).kind = 1 then constOk (partsOf x.op) x.imm
  else if (partsOf x.op).kind = 4 then helperOk x.imm
  else if (partsOf x.op).kind = 8 then atomOk x.imm
  else if (partsOf x.op).kind = 9 then wideOk xs i x
  else if (partsOf x.op).kind = 10 then (match i with
    | 0 => false
    | j + 1 => match xs[j]? with
      | some y => decide (kindOf y = 9)
      | none => false)
  else true
set_option maxHeartbeats 8000000 in
theorem one_T {w0 : World} {b o c : Nat} {xs : List Ins} (h : CodeAt w0 b o xs) (hw : AllWf xs) (hn : xs.length ≤ 1000000) {i : Nat} {x : Ins} (hi : xs[i]? = some x) :
    T Tryz.prog w0 43 [.slice (some ⟨b, o, none⟩) xs.length c, .int .i64 i] = some (.bool (oneOk xs i x)) := by
  have hil := (List.getElem?_eq_some_iff.1 hi).1
  have hb := h.lt (by omega)
  refine T_of (by kernel_rfl) Tryz.func43 rfl ok_shape_one (by simp [hb]) (by simp) fun B hB => ?_
  have hx := fun l => own_extR (l := l) hB (h i x hi)
  have hxw := hw x (List.mem_of_getElem? hi)
  have e1 : IntKind.i64.wrap ((i : Int) + 1) = ((i + 1 : Nat) : Int) := i64w (by omega) (by omega)
  have hii : (i : Int) < xs.length := by omega
  have t1 := Of_T w0 hxw.op
  have t2 := named_T w0 (partsOf x.op)
  have t3 := plain_T w0 x (namedOf (partsOf x.op))
  have t4 := writes_T w0 (partsOf x.op).kind
  have t5 := constant_T w0 (partsOf x.op) x.imm
  obtain ⟨ka, t6⟩ := args_T w0 x.imm
  have t7 := atomic_T w0 x.imm
  have t8 := wide_T h hw hn (c := c) hi
  simp at t1 t2 t3 t4 t5 t6 t7 t8
  unfold oneOk
  generalize hp : partsOf x.op = p at *
  obtain ⟨k, op, sz, lg, rg⟩ := p
  have hx0 : i = 0 → ∀ l, wrow (ownW B l) b o 5 = some x.arr := fun e l => by subst e; simpa using hx l
  have hx1 := fun l => hx l
  by_cases hk0 : k = 0
  · subst hk0
    simp [c_shape_one, C_cond_eq, pickV_bool, hx, hil, hii, t1, t2, t3, t4, pickV_t, pickV_f]
  cases hpl : plainOk x (namedOf ⟨k, op, sz, lg, rg⟩) with
  | false =>
    rw [hpl] at t3
    simp [c_shape_one, C_cond_eq, pickV_bool, hx, hil, hii, t1, t2, t3, t4, hk0, pickV_t, pickV_f]
  | true =>
    rw [hpl] at t3
    by_cases hwr : (k = 1 ∨ k = 6 ∨ k = 9) ∧ x.dst = 10
    · obtain ⟨hw1, hw2⟩ := hwr
      simp only [hw1] at t4
      simp [c_shape_one, C_cond_eq, pickV_bool, hx, hil, hii, t1, t2, t3, t4, hk0, pickV_t, pickV_f, hw1, hw2]
    have hwr' : (k = 1 ∨ k = 6 ∨ k = 9) → ¬ x.dst = 10 := fun h1 h2 => hwr ⟨h1, h2⟩
    by_cases h1 : k = 1
    · subst h1
      have hd := hwr' (by omega)
      simp at t4
      simp [c_shape_one, C_cond_eq, pickV_bool, hx, hil, hii, t1, t2, t3, t4, pickV_t, pickV_f, hd, t5, ci_eq]
    by_cases h4 : k = 4
    · subst h4
      simp at t4
      simp [c_shape_one, C_cond_eq, pickV_bool, hx, hil, hii, t1, t2, t3, t4, pickV_t, pickV_f, t6, ci_eq]
    by_cases h8 : k = 8
    · subst h8
      simp at t4
      simp [c_shape_one, C_cond_eq, pickV_bool, hx, hil, hii, t1, t2, t3, t4, pickV_t, pickV_f, t7, ci_eq, atomOk]
    by_cases h9 : k = 9
    · subst h9
      have hd := hwr' (by omega)
      simp at t4
      simp [c_shape_one, C_cond_eq, pickV_bool, hx, hil, hii, t1, t2, t3, t4, pickV_t, pickV_f, hd, t8, ci_eq]
    by_cases h10 : k = 10
    · subst h10
      simp at t4
      cases i with
      | zero =>
        have hx0 := hx0 rfl
        simp [c_shape_one, C_cond_eq, pickV_bool, hx0, hil, hii, t1, t2, t3, t4, pickV_t, pickV_f, ci_eq]
      | succ j =>
        have hj : j < xs.length := by omega
        have hjj : (j : Int) < xs.length := by omega
        have hgy : xs[j]? = some xs[j] := List.getElem?_eq_getElem hj
        have hy := fun l => own_extR (l := l) hB (h j _ hgy)
        have ek := kind_T w0 (hw _ (List.mem_of_getElem? hgy))
        have e0 : IntKind.i64.wrap (((j + 1 : Nat) : Int) - 1) = (j : Int) := by rw [i64w (by omega) (by omega)]; omega
        have hpos : (0 : Int) < ((j + 1 : Nat) : Int) := by omega
        simp at ek
        simp only [hgy]
        generalize xs[j] = y at hgy hy ek
        simp [c_shape_one, C_cond_eq, pickV_bool, hx, hil, hii, t1, t2, t3, t4, pickV_t, pickV_f, ci_eq, e0, hpos, hj, hjj, hy, ek, -Int.natCast_add]
    by_cases h6 : k = 6
    · subst h6
      have hd := hwr' (by omega)
      simp at t4
      simp [c_shape_one, C_cond_eq, pickV_bool, hx, hil, hii, t1, t2, t3, t4, pickV_t, pickV_f, hd, ci_eq]
    simp [h1, h6, h9] at t4
    simp [c_shape_one, C_cond_eq, pickV_bool, hx, hil, hii, t1, t2, t3, t4, hk0, pickV_t, pickV_f, h1, h4, h8, h9, h10, h6, ci_eq]
end Go.Proofs.YtkgpmjjleemdlaaGreat

set_option linter.unusedSimpArgs false
set_option linter.unusedVariables false
set_option maxRecDepth 8000
namespace Go.Proofs.YtkgpmjjleemdlaaGreat
open Go.Eng

theorem target_T (w0 : World) (pos : Nat) (hp : pos ≤ 1000000) {x : Ins} (hx : x.wf) : T Tryz.prog w0 54 [.int .i64 pos, x.val] = some (.int .i64 ((pos : Int) + x.off + 1)) :=
  T_of (by kernel_rfl) Tryz.func54 rfl ok_shape_Target (by simp) (by simp) fun B hB => by
    have h1 := hx.off
    have e0 : IntKind.i64.wrap x.off = x.off := i64w (by omega) (by omega)
    have e1 : IntKind.i64.wrap ((pos : Int) + x.off) = (pos : Int) + x.off := i64w (by omega) (by omega)
    have e2 : IntKind.i64.wrap ((pos : Int) + x.off + 1) = (pos : Int) + x.off + 1 := i64w (by omega) (by omega)
    simp [c_shape_Target, e0, e1, e2]

def landsOk (xs : List Ins) (i : Nat) (x : Ins) : Bool :=
  if kindOf x = 2 ∨ kindOf x = 3 then
    if 0 ≤ (i : Int) + x.off + 1 then (match xs[((i : Int) + x.off + 1).toNat]? with
      | some y => decide (kindOf y ≠ 10)
      | none => false) else false
  else true
theorem lands_T {w0 : World} {b o c : Nat} {xs : List Ins} (h : CodeAt w0 b o xs) (hw : AllWf xs) (hn : xs.length ≤ 1000000) {i : Nat} {x : Ins} (hi : xs[i]? = some x) :
    T Tryz.prog w0 44 [.slice (some ⟨b, o, none⟩) xs.length c, .int .i64 i] = some (.bool (landsOk xs i x)) := by
  have hil := (List.getElem?_eq_some_iff.1 hi).1
  have hb := h.lt (by omega)
  refine T_of (by kernel_rfl) Tryz.func44 rfl ok_shape_lands (by simp [hb]) (by simp) fun B hB => ?_
  have hx := fun l => own_extR (l := l) hB (h i x hi)
  have hxw := hw x (List.mem_of_getElem? hi)
  have hii : (i : Int) < xs.length := by omega
  have t1 := kind_T w0 hxw
  have t2 := target_T w0 i (by omega) hxw
  simp at t1 t2
  unfold landsOk
  by_cases hk : kindOf x = 2 ∨ kindOf x = 3
  · rw [if_pos hk]
    have hk' : (decide (kindOf x = 2) || decide (kindOf x = 3)) = true := by simpa using hk
    have hkn : ¬ (¬ kindOf x = 2 ∧ ¬ kindOf x = 3) := by omega
    by_cases h0 : 0 ≤ (i : Int) + x.off + 1
    · rw [if_pos h0]
      obtain ⟨t, ht⟩ : ∃ t : Nat, (i : Int) + x.off + 1 = t := ⟨((i : Int) + x.off + 1).toNat, by omega⟩
      rw [ht] at t2 ⊢
      rw [Int.toNat_natCast]
      cases hy : xs[t]? with
      | none =>
        have hlen : xs.length ≤ t := by simpa using hy
        have hl2 : ¬ (t : Int) < xs.length := by omega
        simp [c_shape_lands, C_cond_eq, pickV_bool, hx, hil, hii, t1, t2, hkn, hl2, pickV_f, pickV_t]
      | some y =>
        have hyl := (List.getElem?_eq_some_iff.1 hy).1
        have hyl' : (t : Int) < xs.length := by omega
        have hy' := fun l => own_extR (l := l) hB (h t y hy)
        have ek := kind_T w0 (hw y (List.mem_of_getElem? hy))
        simp at ek
        simp [c_shape_lands, C_cond_eq, pickV_bool, hx, hil, hii, t1, t2, hkn, hyl, hyl', hy', ek, pickV_f, pickV_t]
    · rw [if_neg h0]
      have h0' : ¬ (0 : Int) ≤ (i : Int) + x.off + 1 := h0
      generalize (i : Int) + x.off + 1 = t at *
      simp [c_shape_lands, C_cond_eq, pickV_bool, hx, hil, hii, t1, t2, hkn, h0', pickV_f, pickV_t]
  · rw [if_neg hk]
    have hk' : ¬ kindOf x = 2 ∧ ¬ kindOf x = 3 := by omega
    simp [c_shape_lands, C_cond_eq, pickV_bool, hx, hil, hii, t1, hk', pickV_f, pickV_t]

def lastOk (xs : List Ins) : Bool := match xs[xs.length - 1]? with
  | some y => decide (kindOf y = 5 ∨ kindOf y = 3)
  | none => false
/-- The first place that a test doesn't like, or none. -/
def firstBad (f : Nat → Ins → Bool) : Nat → List Ins → Option Nat
  | _, [] => none
  | i, x :: r => if f i x then firstBad f (i + 1) r else some i
def checkOf (xs : List Ins) : Int × Int :=
  if 256 < xs.length then (0, 7) else if xs.length = 0 then (0, 22)
  else match firstBad (oneOk xs) 0 xs with
    | some i => (i, 22)
    | none => match firstBad (landsOk xs) 0 xs with
      | some i => (i, 22)
      | none => if lastOk xs then (0, 0) else ((xs.length - 1 : Nat), 22)
theorem firstBad_at (f : Nat → Ins → Bool) (xs : List Ins) : ∀ (n i : Nat), firstBad f i (xs.drop i) = (match xs[i]? with
    | none => none
    | some x => if f i x then firstBad f (i + 1) (xs.drop (i + 1)) else some i) := by
  intro n i
  cases h : xs[i]? with
  | none =>
    have : xs.length ≤ i := by simpa using h
    rw [List.drop_eq_nil_of_le this]; rfl
  | some x =>
    obtain ⟨hi, rfl⟩ := List.getElem?_eq_some_iff.1 h
    rw [List.drop_eq_getElem_cons hi]; rfl
set_option maxHeartbeats 2000000 in
theorem check_T {w0 : World} {b o c : Nat} {xs : List Ins} (h : CodeAt w0 b o xs) (hw : AllWf xs) (hn : xs.length ≤ 1000000) (h0 : 0 < xs.length) :
    T Tryz.prog w0 29 [.slice (some ⟨b, o, none⟩) xs.length c] = some (.tuple #[.int .i64 (checkOf xs).1, .int .i64 (checkOf xs).2]) := by
  have hb := h.lt (by omega)
  refine T_of (by kernel_rfl) Tryz.func29 rfl ok_shape_Check (by simp [hb]) (by simp) fun B hB => ?_
  by_cases h256 : 256 < xs.length
  · have h1 : (256 : Int) < xs.length := by omega
    simp [c_shape_Check, C_cond_eq, h1, checkOf, h256]
  have h1 : ¬ (256 : Int) < xs.length := by omega
  have h2 : ¬ xs = [] := by intro e; subst e; simp at h0
  simp [c_shape_Check, h1, C_cond_eq, h2]
  refine C_loop (fun env l => l = [] ∧ ∃ i : Nat, i ≤ xs.length ∧ env = [.slice (some ⟨b, o, none⟩) xs.length c, undef, undef, undef, undef, .int .i64 i, .int .i64 xs.length, undef, undef, undef, undef, undef, undef, undef, undef, undef] ∧ firstBad (oneOk xs) 0 xs = firstBad (oneOk xs) i (xs.drop i)) (fun env _ => xs.length - natAt env 5) ?_ ?_
  · exact ⟨rfl, 0, by omega, by simp, by simp⟩
  rintro env l ⟨rfl, i, hi, rfl, hf⟩
  by_cases hgo : i < xs.length
  · have hgo' : (i : Int) < xs.length := by omega
    have hgi : xs[i]? = some xs[i] := List.getElem?_eq_getElem hgo
    have t := one_T h hw hn (c := c) hgi
    have e1 : IntKind.i64.wrap ((i : Int) + 1) = ((i + 1 : Nat) : Int) := i64w (by omega) (by omega)
    rw [firstBad_at _ _ 0, hgi] at hf
    simp only at hf
    cases hb1 : oneOk xs i xs[i] with
    | false =>
      rw [hb1] at t hf
      simp [C_cond_eq, hgo', t, checkOf, h256, h2, hf]
    | true =>
      rw [hb1] at t hf
      simp [C_cond_eq, hgo', t]
      refine ⟨⟨i + 1, by omega, e1, ?_⟩, ?_⟩
      · simpa using hf
      · simp [natAt, e1]; omega
  have hil : i = xs.length := by omega
  subst hil
  have hf1 : firstBad (oneOk xs) 0 xs = none := by rw [hf]; simp [firstBad]
  clear hf hgo hi
  simp [C_cond_eq]
  refine C_loop (fun env l => l = [] ∧ ∃ i : Nat, i ≤ xs.length ∧ env = [.slice (some ⟨b, o, none⟩) xs.length c, undef, undef, undef, undef, undef, undef, undef, undef, .int .i64 i, .int .i64 xs.length, undef, undef, undef, undef, undef] ∧ firstBad (landsOk xs) 0 xs = firstBad (landsOk xs) i (xs.drop i)) (fun env _ => xs.length - natAt env 9) ?_ ?_
  · exact ⟨rfl, 0, by omega, by simp, by simp⟩
  rintro env l ⟨rfl, i, hi, rfl, hf⟩
  by_cases hgo : i < xs.length
  · have hgo' : (i : Int) < xs.length := by omega
    have hgi : xs[i]? = some xs[i] := List.getElem?_eq_getElem hgo
    have t := lands_T h hw hn (c := c) hgi
    have e1 : IntKind.i64.wrap ((i : Int) + 1) = ((i + 1 : Nat) : Int) := i64w (by omega) (by omega)
    rw [firstBad_at _ _ 0, hgi] at hf
    simp only at hf
    cases hb1 : landsOk xs i xs[i] with
    | false =>
      rw [hb1] at t hf
      simp [C_cond_eq, hgo', t, checkOf, h256, h2, hf1, hf]
    | true =>
      rw [hb1] at t hf
      simp [C_cond_eq, hgo', t]
      refine ⟨⟨i + 1, by omega, e1, ?_⟩, ?_⟩
      · simpa using hf
      · simp [natAt, e1]; omega
  have hil : i = xs.length := by omega
  subst hil
  have hf2 : firstBad (landsOk xs) 0 xs = none := by rw [hf]; simp [firstBad]
  clear hf hgo hi
  obtain ⟨n, hn1⟩ : ∃ n, xs.length = n + 1 := ⟨xs.length - 1, by omega⟩
  have e1 : IntKind.i64.wrap ((xs.length : Int) - 1) = ((xs.length - 1 : Nat) : Int) := by rw [i64w (by omega) (by omega)]; omega
  have hgi : xs[xs.length - 1]? = some xs[xs.length - 1] := List.getElem?_eq_getElem (by omega)
  have hx := fun l => own_extR (l := l) hB (h (xs.length - 1) _ hgi)
  have ek := kind_T w0 (hw _ (List.mem_of_getElem? hgi))
  have hlt : ((xs.length - 1 : Nat) : Int) < xs.length := by omega
  have hlast : lastOk xs = decide (kindOf xs[xs.length - 1] = 5 ∨ kindOf xs[xs.length - 1] = 3) := by unfold lastOk; rw [hgi]
  simp at ek
  generalize xs[xs.length - 1] = y at *
  simp [C_cond_eq, e1, hlt, hx, ek]
  have hco : checkOf xs = if lastOk xs then (0, 0) else (((xs.length - 1 : Nat) : Int), 22) := by
    unfold checkOf
    rw [if_neg h256, if_neg (by omega), hf1, hf2]
  rw [hco, hlast]
  by_cases h5 : kindOf y = 5
  · simp [h5, pickV_f]
  · by_cases h3 : kindOf y = 3
    · simp [h3]
    · simp [h5, h3]
end Go.Proofs.YtkgpmjjleemdlaaGreat

set_option linter.unusedSimpArgs false
set_option linter.unusedVariables false
set_option maxRecDepth 8000
namespace Go.Proofs.YtkgpmjjleemdlaaGreat
open Go.Eng

/-! Cells of instructions. -/
def insCells (xs : List Ins) : List Value := (xs.map fun x => x.arr.toList).flatten
theorem ins_len (x : Ins) : x.arr.toList.length = 5 := by simp [Ins.arr]
theorem insCells_cons (x : Ins) (xs : List Ins) : insCells (x :: xs) = x.arr.toList ++ insCells xs := by simp [insCells]
theorem insCells_append (xs ys : List Ins) : insCells (xs ++ ys) = insCells xs ++ insCells ys := by simp [insCells]
theorem insCells_len (xs : List Ins) : (insCells xs).length = xs.length * 5 := by
  induction xs with
  | nil => rfl
  | cons x r ih => rw [insCells_cons, List.length_append, ih, ins_len, List.length_cons]; omega
theorem insCells_at : ∀ (xs : List Ins) (i j : Nat), j < 5 → (insCells xs)[i * 5 + j]? = xs[i]?.bind fun x => x.arr[j]?
  | [], i, j, h => by simp [insCells]
  | x :: r, 0, j, h => by
    rw [insCells_cons, List.getElem?_append_left (by rw [ins_len]; omega)]
    simp
  | x :: r, i + 1, j, h => by
    rw [insCells_cons, List.getElem?_append_right (by rw [ins_len]; omega), ins_len, show (i + 1) * 5 + j - 5 = i * 5 + j from by omega, insCells_at r i j h]
    simp
theorem insCells_one (xs : List Ins) : ∀ y ∈ insCells xs, y.oneCell' = true := by
  intro y hy
  simp only [insCells, List.mem_flatten, List.mem_map] at hy
  obtain ⟨l, ⟨x, _, rfl⟩, h⟩ := hy
  have := ins_one x
  rw [Array.all_eq_true_iff_forall_mem] at this
  exact this y (Array.mem_toList_iff.1 h)
theorem CodeAt.cells {w : World} {b o : Nat} {xs : List Ins} (h : CodeAt w b o xs) (j : Nat) (y : Value) (hy : (insCells xs)[j]? = some y) : wcell w b (o + j) = some y := by
  have hj : j = j / 5 * 5 + j % 5 := by omega
  rw [hj, insCells_at _ _ _ (by omega)] at hy
  cases hx : xs[j / 5]? with
  | none => rw [hx] at hy; cases hy
  | some x =>
    rw [hx] at hy
    have := row_cell (h (j / 5) x hx) (j % 5) (by omega)
    rw [show o + j = o + j / 5 * 5 + j % 5 from by omega, this]
    exact hy
theorem code_of_cells {w : World} {b o : Nat} {xs : List Ins} (h : ∀ (j : Nat) (y : Value), (insCells xs)[j]? = some y → wcell w b (o + j) = some y) : CodeAt w b o xs := by
  intro i x hx
  have hl := wrow_list (w := w) (b := b) (off := o + i * 5) (r := x.arr.toList) (by rw [ins_len]; omega) (by
    intro j hj
    rw [ins_len] at hj
    have e := insCells_at xs i j hj
    rw [hx] at e
    have hs : x.arr[j]? = some (x.arr[j]'(by simp; omega)) := Array.getElem?_eq_getElem _
    rw [show o + i * 5 + j = o + (i * 5 + j) from by omega, h _ _ (e.trans hs)]
    simp)
  rw [ins_len] at hl
  simpa using hl
theorem CodeAt.sub {w : World} {b o : Nat} {xs : List Ins} (h : CodeAt w b o xs) (i : Nat) : CodeAt w b (o + i * 5) (xs.drop i) := by
  intro j x hx
  rw [List.getElem?_drop] at hx
  have := h _ _ hx
  rw [show o + i * 5 + j * 5 = o + (i + j) * 5 from by omega]
  exact this
theorem CodeAt.take {w : World} {b o : Nat} {xs : List Ins} (h : CodeAt w b o xs) (n : Nat) : CodeAt w b o (xs.take n) := by
  intro j x hx
  rw [List.getElem?_take] at hx
  split at hx
  · exact h _ _ hx
  · cases hx
abbrev InsRow (w : World) (v : Value) (xs : List Ins) : Prop := Row 28 5 w v xs.length (insCells xs)
theorem InsRow.code {w : World} {v : Value} {xs : List Ins} (h : InsRow w v xs) (h0 : 0 < xs.length) : ∃ g c, v = .slice (some ⟨g, 0, none⟩) xs.length c ∧ xs.length ≤ c ∧ v.ownBlock = some g ∧ CodeAt w g 0 xs := by
  obtain ⟨g, c, hv, hc, ho, hx⟩ := rowForm h h0
  exact ⟨g, c, hv, hc, ho, code_of_cells fun j y hy => by rw [Nat.zero_add]; exact hx j y hy⟩
theorem ins_append {w : World} {v : Value} {xs ys : List Ins} {sb so c : Nat} (h : InsRow w v xs) (hs : xs.length + ys.length ≤ 1000000) (hy : CodeAt w sb so ys) :
    ∃ v' w', (builtin .append #[29, 29] 29 #[] #[v, .slice (some ⟨sb, so, none⟩) ys.length c]).run Tryz.prog w = .ok (.value v') w' ∧ InsRow w' v' (xs ++ ys) ∧ Kept (fun j => v.ownBlock = some j) w w' ∧
      (v'.ownBlock = v.ownBlock ∨ v'.ownBlock = some w.heap.size) := by
  have := row_append (P := Tryz.prog) (t := 29) (T := 28) (k := 5) (sb := sb) (so := so) (c := c) (m := ys.length) (ys := insCells ys) Tryz.underlying29 (by kernel_rfl) (by omega) h (by omega) (insCells_len ys) (fun j y hj => hy.cells j y hj) (insCells_one ys)
  rw [← insCells_append] at this
  simpa [InsRow, List.length_append] using this
/-- Of an instruction, and the one behind it where it is a long one: without a way to go. -/
def still (x : Ins) : Ins := if kindOf x = 2 ∨ kindOf x = 3 then { x with off := 0 } else x
def exitI : Ins := ⟨149, 0, 0, 0, 0⟩
end Go.Proofs.YtkgpmjjleemdlaaGreat

