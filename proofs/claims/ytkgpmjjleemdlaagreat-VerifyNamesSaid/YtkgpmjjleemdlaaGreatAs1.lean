/- Layer 4: parts of an instruction, as equations. -/
import Derived.Test.YtkgpmjjleemdlaaGreatCmdsVm
import Derived.Test.YtkgpmjjleemdlaaGreatBase
import Derived.Test.YtkgpmjjleemdlaaGreatEngO
import Derived.Test.YtkgpmjjleemdlaaGreatCmdsAs
set_option linter.unusedSimpArgs false
set_option linter.unusedVariables false
set_option maxRecDepth 8000
namespace Go.Proofs.YtkgpmjjleemdlaaGreat
open Go.Eng

structure Parts where
  kind : Int
  op : Nat
  size : Int
  long : Bool
  reg : Bool
def Parts.arr (p : Parts) : Array Value := #[.int .i64 p.kind, .int .i64 p.op, .int .i64 p.size, .bool p.long, .bool p.reg]
def Parts.val (p : Parts) : Value := .agg p.arr
attribute [simp] Parts.val
def Parts.zero : Parts := ⟨0, 0, 0, false, false⟩
@[simp] theorem parts_size (p : Parts) : p.arr.size = 5 := by simp [Parts.arr]
@[simp] theorem parts_one (p : Parts) : p.arr.all (·.oneCell') = true := by simp [Parts.arr, Value.oneCell']
@[simp] theorem parts_ext (n : Nat) (p : Parts) : (∀ x, x ∈ p.arr → Ext n x) = True := eq_true fun x hx => by
  simp [Parts.arr] at hx
  rcases hx with rfl | rfl | rfl | rfl | rfl <;> simp
@[simp] theorem parts_0 (p : Parts) : p.arr[0]? = some (.int .i64 p.kind) := rfl
@[simp] theorem parts_1 (p : Parts) : p.arr[1]? = some (.int .i64 p.op) := rfl
@[simp] theorem parts_2 (p : Parts) : p.arr[2]? = some (.int .i64 p.size) := rfl
@[simp] theorem parts_3 (p : Parts) : p.arr[3]? = some (.bool p.long) := rfl
@[simp] theorem parts_4 (p : Parts) : p.arr[4]? = some (.bool p.reg) := rfl

@[simp] theorem ostC_parts (c : Array Value) (p : Parts) (h : c.size = 5) : ostC c 5 0 (.agg p.arr) = some p.arr := ostC_all c 5 p.arr h (parts_size p) (parts_one p)

def partsAlu (op : Nat) : Parts :=
  if 12 < op / 16 ∨ (op / 16 = 8 ∧ op / 8 % 2 = 1) then Parts.zero else ⟨1, op / 16, 0, decide (op % 8 = 7), decide (op / 8 % 2 = 1)⟩
def partsJump (op : Nat) : Parts :=
  if op / 16 = 0 ∨ op / 16 = 8 ∨ op / 16 = 9 then
    if op % 8 = 5 ∧ op / 8 % 2 = 0 then ⟨if op / 16 = 0 then 3 else if op / 16 = 8 then 4 else 5, 0, 0, false, false⟩ else Parts.zero
  else if 13 < op / 16 then Parts.zero else ⟨2, op / 16, 0, decide (op % 8 = 5), decide (op / 8 % 2 = 1)⟩
def sizeAt (k : Nat) : Int := if k = 0 then 4 else if k = 1 then 2 else if k = 2 then 1 else 8
def partsMem (op : Nat) : Parts :=
  if op / 32 = 3 then ⟨if op % 8 = 1 then 6 else 7, 0, sizeAt (op / 8 % 4), false, decide (op % 8 = 3)⟩
  else if op / 32 = 6 ∧ op % 8 = 3 ∧ 4 ≤ sizeAt (op / 8 % 4) then ⟨8, 0, sizeAt (op / 8 % 4), false, true⟩ else Parts.zero
def partsOf (op : Nat) : Parts :=
  if op % 8 = 4 ∨ op % 8 = 7 then partsAlu op else if op % 8 = 5 ∨ op % 8 = 6 then partsJump op
  else if op % 8 = 1 ∨ op % 8 = 2 ∨ op % 8 = 3 then partsMem op
  else if op = 24 then ⟨9, 0, 8, false, false⟩ else if op = 0 then ⟨10, 0, 0, false, false⟩ else Parts.zero

theorem u8and (m : Nat) (f : Nat → Nat) (h : ∀ op : Fin 256, bitAnd .u8 ((op.val : Nat) : Int) (m : Int) = ((f op.val : Nat) : Int)) {op : Nat} (ho : op < 256) : bitAnd .u8 (op : Int) (m : Int) = ((f op : Nat) : Int) := h ⟨op, ho⟩
theorem op_and7 {op : Nat} (ho : op < 256) : bitAnd .u8 (op : Int) 7 = ((op % 8 : Nat) : Int) := u8and 7 (fun x => x % 8) (by decide +kernel) ho
theorem op_and8 {op : Nat} (ho : op < 256) : bitAnd .u8 (op : Int) 8 = ((op / 8 % 2 * 8 : Nat) : Int) := u8and 8 (fun x => x / 8 % 2 * 8) (by decide +kernel) ho
theorem op_and3 {op : Nat} (ho : op < 256) : bitAnd .u8 ((op : Int) / 8) 3 = ((op / 8 % 4 : Nat) : Int) := by
  have h := u8and 3 (fun x => x % 4) (by decide +kernel) (op := op / 8) (by omega)
  simpa using h
theorem nat_fdiv (a b : Nat) : Int.fdiv (a : Int) (b : Int) = ((a / b : Nat) : Int) := by
  rw [Int.fdiv_eq_ediv_of_nonneg _ (by omega)]
  rfl
theorem op_shr4 (op : Nat) : Int.fdiv (op : Int) (2 ^ (min 4 (IntKind.bits .u8))) = ((op / 16 : Nat) : Int) := nat_fdiv op 16
theorem op_shr3 (op : Nat) : Int.fdiv (op : Int) (2 ^ (min 3 (IntKind.bits .u8))) = ((op / 8 : Nat) : Int) := nat_fdiv op 8
theorem op_shr5 (op : Nat) : Int.fdiv (op : Int) (2 ^ (min 5 (IntKind.bits .u8))) = ((op / 32 : Nat) : Int) := nat_fdiv op 32
theorem op_bit {op : Nat} (ho : op < 256) : decide (bitAnd .u8 (op : Int) 8 = 0) = !decide (op / 8 % 2 = 1) := by
  rw [op_and8 ho]
  have : op / 8 % 2 = 0 ∨ op / 8 % 2 = 1 := by omega
  rcases this with h | h <;> rw [h] <;> rfl

theorem ci_eq (q n : Nat) : ((q : Int) = (no_index (@OfNat.ofNat Int n _))) = (q = @OfNat.ofNat Nat n _) := propext ⟨fun h => by have h : (q : Int) = (n : Int) := h; exact Int.ofNat.inj h, fun h => by have h : q = n := h; rw [h]; rfl⟩
theorem ci_lt (q n : Nat) : ((no_index (@OfNat.ofNat Int n _)) < (q : Int)) = (@OfNat.ofNat Nat n _ < q) := propext ⟨fun h => by have h : (n : Int) < (q : Int) := h; exact Int.ofNat_lt.1 h, fun h => by have h : n < q := h; exact Int.ofNat_lt.2 h⟩

theorem insn_alu_T (w0 : World) {op : Nat} (ho : op < 256) : T Tryz.prog w0 37 [.int .u8 op] = some (partsAlu op).val :=
  T_of (by kernel_rfl) Tryz.func37 rfl ok_insn_alu (by simp) (by simp) fun B hB => by
    have e7 := op_and7 ho
    have e8 := op_bit ho
    have e4 := op_shr4 op
    unfold partsAlu
    generalize op / 8 % 2 = r at *
    have hq : op / 16 < 16 := by omega
    generalize op / 16 = q at *
    generalize op % 8 = lo at *
    have e0 := i64w (n := (q : Int)) (by omega) (by omega)
    simp [c_insn_alu, C_cond_eq, e7, e8, e4, e0, ci_eq, ci_lt]
    split <;> rfl
theorem insn_jump_T (w0 : World) {op : Nat} (ho : op < 256) : T Tryz.prog w0 38 [.int .u8 op] = some (partsJump op).val :=
  T_of (by kernel_rfl) Tryz.func38 rfl ok_insn_jump (by simp) (by simp) fun B hB => by
    have e7 := op_and7 ho
    have e8 := op_bit ho
    have e4 := op_shr4 op
    have hr : (op / 8 % 2 = 0) = (¬ op / 8 % 2 = 1) := propext (by omega)
    unfold partsJump
    simp only [hr]
    generalize op / 8 % 2 = r at *
    have hq : op / 16 < 16 := by omega
    generalize op / 16 = q at *
    generalize op % 8 = lo at *
    have e0 := i64w (n := (q : Int)) (by omega) (by omega)
    simp [c_insn_jump, C_cond_eq, e7, e8, e4, e0, ci_eq, ci_lt]
    by_cases h0 : q = 0
    · subst h0; simp; by_cases ha : lo = 5 <;> by_cases hb : r = 1 <;> simp [ha, hb] <;> rfl
    by_cases h8 : q = 8
    · subst h8; simp; by_cases ha : lo = 5 <;> by_cases hb : r = 1 <;> simp [ha, hb] <;> rfl
    by_cases h9 : q = 9
    · subst h9; simp; by_cases ha : lo = 5 <;> by_cases hb : r = 1 <;> simp [ha, hb] <;> rfl
    simp [h0, h8, h9]
    split <;> rfl
theorem insn_memory_T (w0 : World) {op : Nat} (ho : op < 256) : T Tryz.prog w0 39 [.int .u8 op] = some (partsMem op).val :=
  T_of (by kernel_rfl) Tryz.func39 rfl ok_insn_memory (by simp) (by simp) fun B hB => by
    have e7 := op_and7 ho
    have e3 := op_and3 ho
    have e4 := op_shr3 op
    have e5 := op_shr5 op
    simp only [Int.natCast_ediv] at e4
    unfold partsMem
    have hr : op / 8 % 4 < 4 := by omega
    generalize op / 8 % 4 = r at *
    have hq : op / 32 < 8 := by omega
    generalize op / 32 = q at *
    generalize op % 8 = lo at *
    have : r = 0 ∨ r = 1 ∨ r = 2 ∨ r = 3 := by omega
    rcases this with rfl | rfl | rfl | rfl <;> simp [c_insn_memory, C_cond_eq, e7, e3, e4, e5, ci_eq, ci_lt]
    all_goals
      by_cases h3 : q = 3
      · subst h3; by_cases h1 : lo = 1
        · subst h1; simp; rfl
        · simp [h1]; rfl
      · by_cases h6 : q = 6
        · subst h6; by_cases h1 : lo = 3
          · subst h1; simp; rfl
          · simp [h1]; rfl
        · simp [h3, h6]; rfl

theorem Of_T (w0 : World) {op : Nat} (ho : op < 256) : T Tryz.prog w0 24 [.int .u8 op] = some (partsOf op).val :=
  T_of (by kernel_rfl) Tryz.func24 rfl ok_insn_Of (by simp) (by simp) fun B hB => by
    have e7 := op_and7 ho
    have t1 := insn_alu_T w0 ho
    have t2 := insn_jump_T w0 ho
    have t3 := insn_memory_T w0 ho
    simp only [Parts.val] at t1 t2 t3
    unfold partsOf
    have hl : op % 8 < 8 := by omega
    generalize op % 8 = lo at *
    have : lo = 0 ∨ lo = 1 ∨ lo = 2 ∨ lo = 3 ∨ lo = 4 ∨ lo = 5 ∨ lo = 6 ∨ lo = 7 := by omega
    rcases this with rfl | rfl | rfl | rfl | rfl | rfl | rfl | rfl <;> simp [c_insn_Of, C_cond_eq, e7, ci_eq, ci_lt, t1, t2, t3]
    by_cases h1 : op = 24
    · subst h1; simp; rfl
    · by_cases h2 : op = 0
      · subst h2; simp; rfl
      · simp [h1, h2]; rfl

end Go.Proofs.YtkgpmjjleemdlaaGreat
namespace Go.Proofs.YtkgpmjjleemdlaaGreat
open Go.Eng

structure Ins where
  op : Nat
  dst : Nat
  src : Nat
  off : Int
  imm : Int
structure Ins.wf (x : Ins) : Prop where
  op : x.op < 256
  dst : x.dst < 256
  src : x.src < 256
  off : -32768 ≤ x.off ∧ x.off ≤ 32767
  imm : -2147483648 ≤ x.imm ∧ x.imm ≤ 2147483647
def Ins.arr (x : Ins) : Array Value := #[.int .u8 x.op, .int .u8 x.dst, .int .u8 x.src, .int .i16 x.off, .int .i32 x.imm]
def Ins.val (x : Ins) : Value := .agg x.arr
attribute [simp] Ins.val
def Ins.zero : Ins := ⟨0, 0, 0, 0, 0⟩
@[simp] theorem ins_size (x : Ins) : x.arr.size = 5 := by simp [Ins.arr]
@[simp] theorem ins_one (x : Ins) : x.arr.all (·.oneCell') = true := by simp [Ins.arr, Value.oneCell']
@[simp] theorem ins_ext (n : Nat) (x : Ins) : (∀ y, y ∈ x.arr → Ext n y) = True := eq_true fun y hy => by
  simp [Ins.arr] at hy
  rcases hy with rfl | rfl | rfl | rfl | rfl <;> simp
@[simp] theorem ins_0 (x : Ins) : x.arr[0]? = some (.int .u8 x.op) := rfl
@[simp] theorem ins_1 (x : Ins) : x.arr[1]? = some (.int .u8 x.dst) := rfl
@[simp] theorem ins_2 (x : Ins) : x.arr[2]? = some (.int .u8 x.src) := rfl
@[simp] theorem ins_3 (x : Ins) : x.arr[3]? = some (.int .i16 x.off) := rfl
@[simp] theorem ins_4 (x : Ins) : x.arr[4]? = some (.int .i32 x.imm) := rfl
@[simp] theorem ins_g0 (x : Ins) (h : 0 < x.arr.size) : x.arr[0]'h = .int .u8 x.op := rfl
@[simp] theorem ins_g1 (x : Ins) (h : 1 < x.arr.size) : x.arr[1]'h = .int .u8 x.dst := rfl
@[simp] theorem ins_g2 (x : Ins) (h : 2 < x.arr.size) : x.arr[2]'h = .int .u8 x.src := rfl
@[simp] theorem ins_g3 (x : Ins) (h : 3 < x.arr.size) : x.arr[3]'h = .int .i16 x.off := rfl
@[simp] theorem ins_g4 (x : Ins) (h : 4 < x.arr.size) : x.arr[4]'h = .int .i32 x.imm := rfl
@[simp] theorem parts_g0 (p : Parts) (h : 0 < p.arr.size) : p.arr[0]'h = .int .i64 p.kind := rfl
@[simp] theorem parts_g1 (p : Parts) (h : 1 < p.arr.size) : p.arr[1]'h = .int .i64 p.op := rfl
@[simp] theorem parts_g2 (p : Parts) (h : 2 < p.arr.size) : p.arr[2]'h = .int .i64 p.size := rfl
@[simp] theorem parts_g3 (p : Parts) (h : 3 < p.arr.size) : p.arr[3]'h = .bool p.long := rfl
@[simp] theorem parts_g4 (p : Parts) (h : 4 < p.arr.size) : p.arr[4]'h = .bool p.reg := rfl
@[simp] theorem ostC_ins (c : Array Value) (p : Ins) (h : c.size = 5) : ostC c 5 0 (.agg p.arr) = some p.arr := ostC_all c 5 p.arr h (ins_size p) (ins_one p)
@[simp] theorem zero_ins : (#[.int .u8 0, .int .u8 0, .int .u8 0, .int .i16 0, .int .i32 0] : Array Value) = Ins.zero.arr := rfl

/-- An instruction's named fields. -/
structure Fl where
  dst : Bool
  src : Bool
  off : Bool
  imm : Bool
def Fl.arr (f : Fl) : Array Value := #[.bool f.dst, .bool f.src, .bool f.off, .bool f.imm]
def Fl.val (f : Fl) : Value := .agg f.arr
attribute [simp] Fl.val
@[simp] theorem fl_size (x : Fl) : x.arr.size = 4 := by simp [Fl.arr]
@[simp] theorem fl_one (x : Fl) : x.arr.all (·.oneCell') = true := by simp [Fl.arr, Value.oneCell']
@[simp] theorem fl_ext (n : Nat) (x : Fl) : (∀ y, y ∈ x.arr → Ext n y) = True := eq_true fun y hy => by
  simp [Fl.arr] at hy
  rcases hy with rfl | rfl | rfl | rfl <;> simp
@[simp] theorem fl_0 (x : Fl) : x.arr[0]? = some (.bool x.dst) := rfl
@[simp] theorem fl_1 (x : Fl) : x.arr[1]? = some (.bool x.src) := rfl
@[simp] theorem fl_2 (x : Fl) : x.arr[2]? = some (.bool x.off) := rfl
@[simp] theorem fl_3 (x : Fl) : x.arr[3]? = some (.bool x.imm) := rfl
@[simp] theorem fl_g0 (x : Fl) (h : 0 < x.arr.size) : x.arr[0]'h = .bool x.dst := rfl
@[simp] theorem fl_g1 (x : Fl) (h : 1 < x.arr.size) : x.arr[1]'h = .bool x.src := rfl
@[simp] theorem fl_g2 (x : Fl) (h : 2 < x.arr.size) : x.arr[2]'h = .bool x.off := rfl
@[simp] theorem fl_g3 (x : Fl) (h : 3 < x.arr.size) : x.arr[3]'h = .bool x.imm := rfl
@[simp] theorem ostC_fl (c : Array Value) (p : Fl) (h : c.size = 4) : ostC c 4 0 (.agg p.arr) = some p.arr := ostC_all c 4 p.arr h (fl_size p) (fl_one p)

@[simp] theorem rep4 : Array.replicate 4 (Value.bool false) = Fl.arr ⟨false, false, false, false⟩ := rfl
@[simp] theorem fl_s0 (f : Fl) (b : Bool) : f.arr.setIfInBounds 0 (.bool b) = Fl.arr { f with dst := b } := rfl
@[simp] theorem fl_s1 (f : Fl) (b : Bool) : f.arr.setIfInBounds 1 (.bool b) = Fl.arr { f with src := b } := rfl
@[simp] theorem fl_s2 (f : Fl) (b : Bool) : f.arr.setIfInBounds 2 (.bool b) = Fl.arr { f with off := b } := rfl
@[simp] theorem fl_s3 (f : Fl) (b : Bool) : f.arr.setIfInBounds 3 (.bool b) = Fl.arr { f with imm := b } := rfl
def kindOf (x : Ins) : Int := (partsOf x.op).kind
theorem pickV_bool (a b c : Bool) : pickV (.bool a) (some (.bool b)) (some (.bool c)) = some (.bool (bif a then b else c)) := by cases a <;> rfl
end Go.Proofs.YtkgpmjjleemdlaaGreat
namespace Go.Proofs.YtkgpmjjleemdlaaGreat
open Go.Eng

/-- A row of instructions. -/
def CodeAt (w : World) (b o : Nat) (xs : List Ins) : Prop := ∀ (i : Nat) (x : Ins), xs[i]? = some x → wrow w b (o + i * 5) 5 = some x.arr
def AllWf (xs : List Ins) : Prop := ∀ x ∈ xs, x.wf
theorem CodeAt.calm {w w' : World} {b o : Nat} {xs : List Ins} (h : CodeAt w b o xs) (hk : Kept none' w w') : CodeAt w' b o xs := fun i x hx => wrow_calm hk (h i x hx)
theorem CodeAt.lt {w : World} {b o : Nat} {xs : List Ins} (h : CodeAt w b o xs) (h0 : 0 < xs.length) : b < w.heap.size := by
  have h1 := h 0 xs[0] (List.getElem?_eq_getElem h0)
  unfold wrow at h1
  cases hc : w.heap[b]? with
  | none => rw [hc] at h1; cases h1
  | some o => exact blk_lt hc

theorem row_cell {w : World} {q off n : Nat} {v : Array Value} (h : wrow w q off n = some v) (j : Nat) (hj : j < n) : wcell w q (off + j) = v[j]? := by
  unfold wrow at h
  unfold wcell
  cases hc : w.heap[q]? with
  | none => rw [hc] at h; cases h
  | some o =>
    rw [hc] at h
    cases o with
    | cells c T fz =>
      simp only [rowOf] at h
      split at h
      · simp at h; rw [← h]; simp [Array.getElem?_extract]; intro h2; omega
      · cases h
    | _ => cases h
end Go.Proofs.YtkgpmjjleemdlaaGreat
namespace Go.Proofs.YtkgpmjjleemdlaaGreat
open Go.Eng

end Go.Proofs.YtkgpmjjleemdlaaGreat
namespace Go.Proofs.YtkgpmjjleemdlaaGreat
open Go.Eng

/-! Cells of instructions. -/
def insCells (xs : List Ins) : List Value := (xs.map fun x => x.arr.toList).flatten
theorem ins_len (x : Ins) : x.arr.toList.length = 5 := by simp [Ins.arr]
theorem insCells_cons (x : Ins) (xs : List Ins) : insCells (x :: xs) = x.arr.toList ++ insCells xs := by simp [insCells]
theorem insCells_append (xs ys : List Ins) : insCells (xs ++ ys) = insCells xs ++ insCells ys := by simp [insCells]
theorem insCells_len (xs : List Ins) : (insCells xs).length = xs.length * 5 := by
  induction xs with
  | nil => rfl
  | cons x r ih => rw [insCells_cons, List.length_append, ih, ins_len, List.length_cons]; omega
theorem insCells_at : ∀ (xs : List Ins) (i j : Nat), j < 5 → (insCells xs)[i * 5 + j]? = xs[i]?.bind fun x => x.arr[j]?
  | [], i, j, h => by simp [insCells]
  | x :: r, 0, j, h => by
    rw [insCells_cons, List.getElem?_append_left (by rw [ins_len]; omega)]
    simp
  | x :: r, i + 1, j, h => by
    rw [insCells_cons, List.getElem?_append_right (by rw [ins_len]; omega), ins_len, show (i + 1) * 5 + j - 5 = i * 5 + j from by omega, insCells_at r i j h]
    simp
theorem insCells_one (xs : List Ins) : ∀ y ∈ insCells xs, y.oneCell' = true := by
  intro y hy
  simp only [insCells, List.mem_flatten, List.mem_map] at hy
  obtain ⟨l, ⟨x, _, rfl⟩, h⟩ := hy
  have := ins_one x
  rw [Array.all_eq_true_iff_forall_mem] at this
  exact this y (Array.mem_toList_iff.1 h)
theorem CodeAt.cells {w : World} {b o : Nat} {xs : List Ins} (h : CodeAt w b o xs) (j : Nat) (y : Value) (hy : (insCells xs)[j]? = some y) : wcell w b (o + j) = some y := by
  have hj : j = j / 5 * 5 + j % 5 := by omega
  rw [hj, insCells_at _ _ _ (by omega)] at hy
  cases hx : xs[j / 5]? with
  | none => rw [hx] at hy; cases hy
  | some x =>
    rw [hx] at hy
    have := row_cell (h (j / 5) x hx) (j % 5) (by omega)
    rw [show o + j = o + j / 5 * 5 + j % 5 from by omega, this]
    exact hy
theorem code_of_cells {w : World} {b o : Nat} {xs : List Ins} (h : ∀ (j : Nat) (y : Value), (insCells xs)[j]? = some y → wcell w b (o + j) = some y) : CodeAt w b o xs := by
  intro i x hx
  have hl := wrow_list (w := w) (b := b) (off := o + i * 5) (r := x.arr.toList) (by rw [ins_len]; omega) (by
    intro j hj
    rw [ins_len] at hj
    have e := insCells_at xs i j hj
    rw [hx] at e
    have hs : x.arr[j]? = some (x.arr[j]'(by simp; omega)) := Array.getElem?_eq_getElem _
    rw [show o + i * 5 + j = o + (i * 5 + j) from by omega, h _ _ (e.trans hs)]
    simp)
  rw [ins_len] at hl
  simpa using hl
theorem CodeAt.sub {w : World} {b o : Nat} {xs : List Ins} (h : CodeAt w b o xs) (i : Nat) : CodeAt w b (o + i * 5) (xs.drop i) := by
  intro j x hx
  rw [List.getElem?_drop] at hx
  have := h _ _ hx
  rw [show o + i * 5 + j * 5 = o + (i + j) * 5 from by omega]
  exact this
theorem CodeAt.take {w : World} {b o : Nat} {xs : List Ins} (h : CodeAt w b o xs) (n : Nat) : CodeAt w b o (xs.take n) := by
  intro j x hx
  rw [List.getElem?_take] at hx
  split at hx
  · exact h _ _ hx
  · cases hx
abbrev InsRow (w : World) (v : Value) (xs : List Ins) : Prop := Row 28 5 w v xs.length (insCells xs)
theorem InsRow.code {w : World} {v : Value} {xs : List Ins} (h : InsRow w v xs) (h0 : 0 < xs.length) : ∃ g c, v = .slice (some ⟨g, 0, none⟩) xs.length c ∧ xs.length ≤ c ∧ v.ownBlock = some g ∧ CodeAt w g 0 xs := by
  obtain ⟨g, c, hv, hc, ho, hx⟩ := rowForm h h0
  exact ⟨g, c, hv, hc, ho, code_of_cells fun j y hy => by rw [Nat.zero_add]; exact hx j y hy⟩
theorem ins_append {w : World} {v : Value} {xs ys : List Ins} {sb so c : Nat} (h : InsRow w v xs) (hs : xs.length + ys.length ≤ 1000000) (hy : CodeAt w sb so ys) :
    ∃ v' w', (builtin .append #[29, 29] 29 #[] #[v, .slice (some ⟨sb, so, none⟩) ys.length c]).run Tryz.prog w = .ok (.value v') w' ∧ InsRow w' v' (xs ++ ys) ∧ Kept (fun j => v.ownBlock = some j) w w' ∧
      (v'.ownBlock = v.ownBlock ∨ v'.ownBlock = some w.heap.size) := by
  have := row_append (P := Tryz.prog) (t := 29) (T := 28) (k := 5) (sb := sb) (so := so) (c := c) (m := ys.length) (ys := insCells ys) Tryz.underlying29 (by kernel_rfl) (by omega) h (by omega) (insCells_len ys) (fun j y hj => hy.cells j y hj) (insCells_one ys)
  rw [← insCells_append] at this
  simpa [InsRow, List.length_append] using this
/-- Of an instruction, and the one behind it where it is a long one: without a way to go. -/
def still (x : Ins) : Ins := if kindOf x = 2 ∨ kindOf x = 3 then { x with off := 0 } else x
end Go.Proofs.YtkgpmjjleemdlaaGreat
