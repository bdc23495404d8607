/- Layer 19, part A: a program's memory as it lies in a block, and the functions that only reckon. -/
import Derived.Test.YthfchnaocbkofaaEngL
import Derived.Test.YthfchnaocbkofaaCmdsA
set_option linter.unusedSimpArgs false
set_option linter.unusedVariables false
namespace Go.Proofs.Ythfchnaocbkofaa
open Go.Eng

theorem i64w {n : Int} (h1 : -9223372036854775808 ≤ n) (h2 : n ≤ 9223372036854775807) : IntKind.i64.wrap n = n := IntWalk.i64_in n ⟨h1, h2⟩
theorem u64w {n : Int} (h1 : 0 ≤ n) (h2 : n ≤ 18446744073709551615) : IntKind.u64.wrap n = n := IntWalk.u64_in n ⟨h1, h2⟩
theorem u8w {n : Int} (h1 : 0 ≤ n) (h2 : n ≤ 255) : IntKind.u8.wrap n = n := IntWalk.u8_in n ⟨h1, h2⟩
theorem i64_lo (n : Int) : -9223372036854775808 ≤ IntKind.i64.wrap n := by rw [IntKind.wrap_i64]; omega
theorem i64_hi (n : Int) : IntKind.i64.wrap n ≤ 9223372036854775807 := by rw [IntKind.wrap_i64]; omega

structure RVal where
  tag : Int
  n : Int
  slot : Int
  cell : Option Addr

def RVal.zero : RVal := ⟨0, 0, 0, none⟩
def RVal.arr (v : RVal) : Array Value := #[.int .i64 v.tag, .int .u64 v.n, .int .i64 v.slot, .pointer v.cell]
def RVal.val (v : RVal) : Value := .agg v.arr
attribute [simp] RVal.val
@[simp] theorem arr_0 (v : RVal) : v.arr[0]? = some (.int .i64 v.tag) := rfl
@[simp] theorem arr_1 (v : RVal) : v.arr[1]? = some (.int .u64 v.n) := rfl
@[simp] theorem arr_2 (v : RVal) : v.arr[2]? = some (.int .i64 v.slot) := rfl
@[simp] theorem arr_3 (v : RVal) : v.arr[3]? = some (.pointer v.cell) := rfl
@[simp] theorem arr_g0 (v : RVal) (h : 0 < v.arr.size) : v.arr[0]'h = .int .i64 v.tag := rfl
@[simp] theorem arr_g1 (v : RVal) (h : 1 < v.arr.size) : v.arr[1]'h = .int .u64 v.n := rfl
@[simp] theorem arr_g2 (v : RVal) (h : 2 < v.arr.size) : v.arr[2]'h = .int .i64 v.slot := rfl
@[simp] theorem arr_g3 (v : RVal) (h : 3 < v.arr.size) : v.arr[3]'h = .pointer v.cell := rfl
@[simp] theorem arr_s0 (v : RVal) (t : Int) : v.arr.setIfInBounds 0 (.int .i64 t) = { v with tag := t }.arr := rfl
@[simp] theorem arr_s1 (v : RVal) (t : Int) : v.arr.setIfInBounds 1 (.int .u64 t) = { v with n := t }.arr := rfl
@[simp] theorem arr_s2 (v : RVal) (t : Int) : v.arr.setIfInBounds 2 (.int .i64 t) = { v with slot := t }.arr := rfl
@[simp] theorem arr_s3 (v : RVal) (t : Option Addr) : v.arr.setIfInBounds 3 (.pointer t) = { v with cell := t }.arr := rfl
@[simp] theorem wrow_arr (w : World) (v : RVal) (T : TypeId) (fz : Nat × Nat) : wrow (w.alloc (.cells v.arr T fz)) w.heap.size 0 4 = some v.arr := wrow_all _ _ _ _ _ rfl
@[simp] theorem arr_size (v : RVal) : v.arr.size = 4 := by simp [RVal.arr]
theorem RVal.val_eq (v : RVal) : v.val = .agg #[.int .i64 v.tag, .int .u64 v.n, .int .i64 v.slot, .pointer v.cell] := rfl

def RVal.at (v : RVal) (j : Nat) : Value :=
  if j = 0 then .int .i64 v.tag else if j = 1 then .int .u64 v.n else if j = 2 then .int .i64 v.slot else .pointer v.cell

structure RMem where
  ctx : Nat → Int
  stack : Nat → Int
  written : Nat → Bool
  kept : Nat → RVal
  maps : Value

def RMem.at (m : RMem) (i : Nat) : Value :=
  if i < 32 then .int .u8 (m.ctx i) else if i < 96 then .int .u8 (m.stack (i - 32)) else if i < 160 then .bool (m.written (i - 96))
  else if i < 192 then (m.kept ((i - 160) / 4)).at ((i - 160) % 4) else m.maps

def RMem.cells (m : RMem) : Array Value := Array.ofFn (n := 193) fun i => m.at i.val

def fset {α : Type} (f : Nat → α) (i : Nat) (x : α) : Nat → α := fun j => if j = i then x else f j
theorem fset_same {α : Type} (f : Nat → α) (i : Nat) (x : α) : fset f i x i = x := by simp [fset]
theorem fset_other {α : Type} (f : Nat → α) {i j : Nat} (x : α) (h : j ≠ i) : fset f i x j = f j := by simp [fset, h]

theorem mem_size (m : RMem) : m.cells.size = 193 := by simp [RMem.cells]
theorem mem_at (m : RMem) (i : Nat) (h : i < 193) : m.cells[i]? = some (m.at i) := by simp [RMem.cells, h]
theorem mem_ctx (m : RMem) (i : Nat) (h : i < 32) : m.cells[i]? = some (.int .u8 (m.ctx i)) := by rw [mem_at m _ (by omega)]; simp [RMem.at, h]
theorem mem_stack (m : RMem) (i : Nat) (h : i < 64) : m.cells[32 + i]? = some (.int .u8 (m.stack i)) := by
  rw [mem_at m _ (by omega)]; unfold RMem.at; rw [if_neg (by omega), if_pos (by omega)]; simp
theorem mem_written (m : RMem) (i : Nat) (h : i < 64) : m.cells[96 + i]? = some (.bool (m.written i)) := by
  rw [mem_at m _ (by omega)]; unfold RMem.at; rw [if_neg (by omega), if_neg (by omega), if_pos (by omega)]; simp
theorem mem_kept (m : RMem) (k j : Nat) (h : k < 8) (hj : j < 4) : m.cells[160 + k * 4 + j]? = some ((m.kept k).at j) := by
  rw [mem_at m _ (by omega)]; unfold RMem.at; rw [if_neg (by omega), if_neg (by omega), if_neg (by omega), if_pos (by omega)]
  have h1 : (160 + k * 4 + j - 160) / 4 = k := by omega
  have h2 : (160 + k * 4 + j - 160) % 4 = j := by omega
  rw [h1, h2]
theorem mem_tag (m : RMem) (k : Nat) (h : k < 8) : m.cells[160 + k * 4]? = some (.int .i64 (m.kept k).tag) := mem_kept m k 0 h (by omega)
theorem mem_maps (m : RMem) : m.cells[192]? = some m.maps := by rw [mem_at m _ (by omega)]; rfl
theorem mem_row (m : RMem) (k : Nat) (h : k < 8) : m.cells.extract (160 + k * 4) (160 + k * 4 + 4) = (m.kept k).arr := by
  apply Array.ext_getElem?
  intro j
  rw [Array.getElem?_extract]
  have hs := mem_size m
  by_cases hj : j < 4
  · rw [if_pos (by omega), mem_kept m k j h hj]
    have : j = 0 ∨ j = 1 ∨ j = 2 ∨ j = 3 := by omega
    rcases this with rfl | rfl | rfl | rfl <;> rfl
  · rw [if_neg (by omega)]
    simp [RVal.arr]; omega

theorem mem_set {m m' : RMem} {i : Nat} {v : Value} (hi : i < 193) (h1 : m'.at i = v) (h2 : ∀ j, j < 193 → j ≠ i → m'.at j = m.at j) : m.cells.setIfInBounds i v = m'.cells := by
  apply Array.ext_getElem?
  intro j
  rw [Array.getElem?_setIfInBounds]
  have hs := mem_size m
  by_cases hj : j < 193
  · rw [mem_at m' j hj]
    split
    · rename_i h; subst h; rw [if_pos (by omega), h1]
    · rename_i h; rw [mem_at m j hj, h2 j hj (fun e => h e.symm)]
  · have e1 : m.cells[j]? = none := by simp; omega
    have e2 : m'.cells[j]? = none := by simp [mem_size]; omega
    rw [e1, e2]
    split
    · omega
    · rfl

theorem set_written (m : RMem) (i : Nat) (b : Bool) (h : i < 64) : m.cells.setIfInBounds (96 + i) (.bool b) = { m with written := fset m.written i b }.cells := by
  refine mem_set (by omega) ?_ ?_
  · unfold RMem.at; rw [if_neg (by omega), if_neg (by omega), if_pos (by omega)]; simp [fset]
  · intro j hj hne
    unfold RMem.at
    repeat' split
    all_goals (try rfl)
    simp only []
    rw [fset_other _ _ (by omega)]
theorem set_stack (m : RMem) (i : Nat) (x : Int) (h : i < 64) : m.cells.setIfInBounds (32 + i) (.int .u8 x) = { m with stack := fset m.stack i x }.cells := by
  refine mem_set (by omega) ?_ ?_
  · unfold RMem.at; rw [if_neg (by omega), if_pos (by omega)]; simp [fset]
  · intro j hj hne
    unfold RMem.at
    repeat' split
    all_goals (try rfl)
    simp only []
    rw [fset_other _ _ (by omega)]

theorem set_kept (m : RMem) (k : Nat) (v : RVal) (h : k < 8) : setRow m.cells (160 + k * 4) v.arr.toList = { m with kept := fset m.kept k v }.cells := by
  have one : ∀ (m : RMem) (j : Nat) (v' : RVal) (x : Value), j < 4 → v'.at j = x → (∀ i, i < 4 → i ≠ j → v'.at i = (m.kept k).at i) → m.cells.setIfInBounds (160 + k * 4 + j) x = { m with kept := fset m.kept k v' }.cells := by
    intro m j v' x hj hx ho
    refine mem_set (by omega) ?_ ?_
    · unfold RMem.at
      rw [if_neg (by omega), if_neg (by omega), if_neg (by omega), if_pos (by omega)]
      have h1 : (160 + k * 4 + j - 160) / 4 = k := by omega
      have h2 : (160 + k * 4 + j - 160) % 4 = j := by omega
      simp only [h1, h2, fset_same, hx]
    · intro i hi hne
      unfold RMem.at
      split
      · rfl
      · split
        · rfl
        · split
          · rfl
          · split
            · simp only []
              by_cases hk : (i - 160) / 4 = k
              · simp only [hk, fset_same]; exact ho _ (by omega) (by omega)
              · rw [fset_other _ _ hk]
            · rfl
  unfold RVal.arr
  simp only [setRow]
  have e0 := one m 0 ⟨v.tag, (m.kept k).n, (m.kept k).slot, (m.kept k).cell⟩ (.int .i64 v.tag) (by omega) rfl (by
    intro i hi hne; have : i = 1 ∨ i = 2 ∨ i = 3 := by omega
    rcases this with rfl | rfl | rfl <;> rfl)
  rw [Nat.add_zero] at e0
  rw [e0]
  have e1 := one { m with kept := fset m.kept k ⟨v.tag, (m.kept k).n, (m.kept k).slot, (m.kept k).cell⟩ } 1 ⟨v.tag, v.n, (m.kept k).slot, (m.kept k).cell⟩ (.int .u64 v.n) (by omega) rfl (by
    intro i hi hne; simp only [fset_same]; have : i = 0 ∨ i = 2 ∨ i = 3 := by omega
    rcases this with rfl | rfl | rfl <;> rfl)
  rw [e1]
  have e2 := one { m with kept := fset (fset m.kept k ⟨v.tag, (m.kept k).n, (m.kept k).slot, (m.kept k).cell⟩) k ⟨v.tag, v.n, (m.kept k).slot, (m.kept k).cell⟩ } 2 ⟨v.tag, v.n, v.slot, (m.kept k).cell⟩ (.int .i64 v.slot) (by omega) rfl (by
    intro i hi hne; simp only [fset_same]; have : i = 0 ∨ i = 1 ∨ i = 3 := by omega
    rcases this with rfl | rfl | rfl <;> rfl)
  rw [show 160 + k * 4 + 1 + 1 = 160 + k * 4 + 2 from rfl, e2]
  have e3 := one { m with kept := fset (fset (fset m.kept k ⟨v.tag, (m.kept k).n, (m.kept k).slot, (m.kept k).cell⟩) k ⟨v.tag, v.n, (m.kept k).slot, (m.kept k).cell⟩) k ⟨v.tag, v.n, v.slot, (m.kept k).cell⟩ } 3 v (.pointer v.cell) (by omega) rfl (by
    intro i hi hne; simp only [fset_same]; have : i = 0 ∨ i = 1 ∨ i = 2 := by omega
    rcases this with rfl | rfl | rfl <;> rfl)
  rw [show 160 + k * 4 + 2 + 1 = 160 + k * 4 + 3 from rfl, e3]
  have ek : fset (fset (fset (fset m.kept k ⟨v.tag, (m.kept k).n, (m.kept k).slot, (m.kept k).cell⟩) k ⟨v.tag, v.n, (m.kept k).slot, (m.kept k).cell⟩) k ⟨v.tag, v.n, v.slot, (m.kept k).cell⟩) k v = fset m.kept k v := by
    funext j
    simp only [fset]
    split <;> rfl
  simp only [ek]

/-- Block b is a memory that reads as m. -/
def IsMem (w : World) (b : Nat) (m : RMem) : Prop := w.heap[b]? = some (.cells m.cells 74 (0, 0))

theorem sized_ret (n : Int) (w : World) : Ret Try.prog 26 [.int .i64 n] w fun v w' => v = .bool (decide (n = 1) || decide (n = 2) || decide (n = 4) || decide (n = 8)) ∧ w' = w := by
  refine ret_of_W Try.func26 rfl ok_region_sized ?_
  simp [c_region_sized]

theorem exact_ret (a : RVal) (first n : Int) (w : World) : Ret Try.prog 28 [a.val, .int .i64 first, .int .i64 n] w
    fun v w' => v = .bool (decide (a.tag = 3) && decide (n = 8) && decide (first.tmod 8 = 0)) ∧ Kept none' w w' := by
  refine ret_of_W Try.func28 rfl ok_region_exact ?_
  simp [c_region_exact]
  exact (Kept.refl _ _).alloc _

theorem plus_ret (a b : Int) (w : World) : Ret Try.prog 48 [.int .i64 a, .int .i64 b] w fun v w' => v = .tuple #[.int .i64 (IntKind.i64.wrap (a + b)),
    .bool ((decide (a < 0) != decide (b < 0)) || (decide (IntKind.i64.wrap (a + b) < 0) == decide (a < 0)))] ∧ w' = w := by
  refine ret_of_W Try.func48 rfl ok_region_plus ?_
  simp [c_region_plus]
  rfl
end Go.Proofs.Ythfchnaocbkofaa
