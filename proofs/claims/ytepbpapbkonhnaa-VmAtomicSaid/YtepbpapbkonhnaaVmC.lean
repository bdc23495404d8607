/- Layer 20: instructions, and a machine as it lies in a block. -/
import Derived.Test.YtepbpapbkonhnaaVmA
import Derived.Test.YtepbpapbkonhnaaRegL
import Derived.Test.YtepbpapbkonhnaaEngQ
set_option linter.unusedSimpArgs false
set_option linter.unusedVariables false
set_option maxRecDepth 8000
namespace Go.Proofs.Ytepbpapbkonhnaa
open Go.Eng

structure Ins where
  op : Nat
  dst : Nat
  src : Nat
  off : Int
  imm : Int
def Ins.arr (x : Ins) : Array Value := #[.int .u8 x.op, .int .u8 x.dst, .int .u8 x.src, .int .i16 x.off, .int .i32 x.imm]
def Ins.val (x : Ins) : Value := .agg x.arr
attribute [simp] Ins.val
@[simp] theorem ins_size (x : Ins) : x.arr.size = 5 := by simp [Ins.arr]
@[simp] theorem ins_one (x : Ins) : x.arr.all (·.oneCell') = true := by simp [Ins.arr, Value.oneCell']
@[simp] theorem ins_ext (n : Nat) (x : Ins) : (∀ y, y ∈ x.arr → Ext n y) = True := eq_true fun y hy => by
  simp [Ins.arr] at hy
  rcases hy with rfl | rfl | rfl | rfl | rfl <;> simp
@[simp] theorem ins_ext' (n : Nat) (x : Ins) : (∀ y, y ∈ x.arr.toList → Ext n y) = True := by simp
@[simp] theorem ins_0 (x : Ins) : x.arr[0]? = some (.int .u8 x.op) := rfl
@[simp] theorem ins_1 (x : Ins) : x.arr[1]? = some (.int .u8 x.dst) := rfl
@[simp] theorem ins_2 (x : Ins) : x.arr[2]? = some (.int .u8 x.src) := rfl
@[simp] theorem ins_3 (x : Ins) : x.arr[3]? = some (.int .i16 x.off) := rfl
@[simp] theorem ins_4 (x : Ins) : x.arr[4]? = some (.int .i32 x.imm) := rfl
@[simp] theorem ins_g0 (x : Ins) (h : 0 < x.arr.size) : x.arr[0]'h = .int .u8 x.op := rfl
@[simp] theorem ins_g1 (x : Ins) (h : 1 < x.arr.size) : x.arr[1]'h = .int .u8 x.dst := rfl
@[simp] theorem ins_g2 (x : Ins) (h : 2 < x.arr.size) : x.arr[2]'h = .int .u8 x.src := rfl
@[simp] theorem ins_g3 (x : Ins) (h : 3 < x.arr.size) : x.arr[3]'h = .int .i16 x.off := rfl
@[simp] theorem ins_g4 (x : Ins) (h : 4 < x.arr.size) : x.arr[4]'h = .int .i32 x.imm := rfl
@[simp] theorem parts_g0 (p : Parts) (h : 0 < p.arr.size) : p.arr[0]'h = .int .i64 p.kind := rfl
@[simp] theorem parts_g1 (p : Parts) (h : 1 < p.arr.size) : p.arr[1]'h = .int .i64 p.op := rfl
@[simp] theorem parts_g2 (p : Parts) (h : 2 < p.arr.size) : p.arr[2]'h = .int .i64 p.size := rfl
@[simp] theorem parts_g3 (p : Parts) (h : 3 < p.arr.size) : p.arr[3]'h = .bool p.long := rfl
@[simp] theorem parts_g4 (p : Parts) (h : 4 < p.arr.size) : p.arr[4]'h = .bool p.reg := rfl
@[simp] theorem ostC_ins (c : Array Value) (p : Ins) (h : c.size = 5) : ostC c 5 0 (.agg p.arr) = some p.arr := ostC_all c 5 p.arr h (ins_size p) (ins_one p)

@[simp] theorem rval_one (v : RVal) : v.arr.all (·.oneCell') = true := by simp [RVal.arr, Value.oneCell']
@[simp] theorem ostC_rval (c : Array Value) (v : RVal) (h : c.size = 4) : ostC c 4 0 (.agg v.arr) = some v.arr := ostC_all c 4 v.arr h (by simp) (rval_one v)
theorem rval_ext (n : Nat) (v : RVal) (h : Ext n (.pointer v.cell)) : (∀ y, y ∈ v.arr → Ext n y) := fun y hy => by
  simp [RVal.arr] at hy
  rcases hy with rfl | rfl | rfl | rfl <;> first | exact h | simp
theorem rval_ext0 (n : Nat) (v : RVal) (h : v.cell = none) : (∀ y, y ∈ v.arr → Ext n y) := rval_ext n v (by rw [h]; simp)
theorem own_extR {w0 B : World} {l : Own} (hB : HeapLe w0 B) {b off n : Nat} {v : Array Value} (h : wrow w0 b off n = some v) : wrow (ownW B l) b off n = some v := by
  have h1 := wrow_mono hB h
  have hb : b < B.heap.size := by
    unfold wrow at h1
    cases hc : B.heap[b]? with
    | none => rw [hc] at h1; cases h1
    | some o => exact blk_lt hc
  unfold wrow at h1 ⊢
  rw [own_old hb]
  exact h1

/-- A number as a value. -/
def num (n : Int) : RVal := ⟨1, n, 0, none⟩

/-- What doesn't change while a machine runs. -/
structure VK where
  l : Value
  ctx : Nat → Int
  maps : Value
  clock : Int
  random : Value
  fuel : Int
  bm : Nat
structure VSt where
  r : Nat → RVal
  pos : Int
  done : Bool
  luck : Int
def VSt.cellAt (k : VK) (s : VSt) (i : Nat) : Value :=
  if i = 0 then k.l else if i < 33 then .int .u8 (k.ctx (i - 1)) else if i = 33 then k.maps else if i = 34 then .int .u64 k.clock else if i = 35 then k.random else if i = 36 then .int .i64 k.fuel
  else if i = 37 then .pointer (some ⟨k.bm, 0, none⟩) else if i < 82 then (s.r ((i - 38) / 4)).at ((i - 38) % 4) else if i = 82 then .int .i64 s.pos else if i = 83 then .bool s.done else .int .i64 s.luck
def VSt.cells (k : VK) (s : VSt) : Array Value := Array.ofFn (n := 85) fun i => s.cellAt k i.val
theorem mach_size (k : VK) (s : VSt) : (s.cells k).size = 85 := by simp [VSt.cells]
theorem mach_at (k : VK) (s : VSt) (i : Nat) (h : i < 85) : (s.cells k)[i]? = some (s.cellAt k i) := by simp [VSt.cells, h]
theorem mach_reg (k : VK) (s : VSt) (i j : Nat) (h : i < 11) (hj : j < 4) : (s.cells k)[38 + i * 4 + j]? = some ((s.r i).at j) := by
  rw [mach_at _ _ _ (by omega)]
  have h1 : (38 + i * 4 + j - 38) / 4 = i := by omega
  have h2 : (38 + i * 4 + j - 38) % 4 = j := by omega
  unfold VSt.cellAt
  rw [if_neg (by omega), if_neg (by omega), if_neg (by omega), if_neg (by omega), if_neg (by omega), if_neg (by omega), if_neg (by omega), if_pos (by omega), h1, h2]
theorem mach_row (k : VK) (s : VSt) (i : Nat) (h : i < 11) : (s.cells k).extract (38 + i * 4) (38 + i * 4 + 4) = (s.r i).arr := by
  apply Array.ext_getElem?
  intro j
  rw [Array.getElem?_extract]
  have hs := mach_size k s
  by_cases hj : j < 4
  · rw [if_pos (by omega), mach_reg k s i j h hj, arr_at _ _ hj]
  · rw [if_neg (by omega)]
    simp; omega
theorem mach_ext {k : VK} {s' : VSt} {c : Array Value} (hs : c.size = 85) (h : ∀ i, i < 85 → c[i]? = some (s'.cellAt k i)) : c = s'.cells k := by
  apply Array.ext_getElem?
  intro j
  by_cases hj : j < 85
  · rw [mach_at _ _ _ hj, h j hj]
  · have e1 : c[j]? = none := by simp; omega
    have e2 : (s'.cells k)[j]? = none := by simp [mach_size]; omega
    rw [e1, e2]
theorem mach_setreg (k : VK) (s : VSt) (i : Nat) (v : RVal) (h : i < 11) : setRow (s.cells k) (38 + i * 4) v.arr.toList = ({ s with r := fset s.r i v } : VSt).cells k := by
  refine mach_ext (by rw [Go.Eng.setRow_size]; exact mach_size k s) fun j hj => ?_
  have hs := mach_size k s
  have hl : v.arr.toList.length = 4 := rfl
  rw [setRow_get _ _ _ _ (by omega), hl]
  by_cases h1 : 38 + i * 4 ≤ j ∧ j < 38 + i * 4 + 4
  · rw [if_pos h1]
    simp only [Array.getElem?_toList]
    rw [arr_at _ _ (by omega)]
    have e1 : (j - 38) / 4 = i := by omega
    have e2 : (j - 38) % 4 = j - (38 + i * 4) := by omega
    unfold VSt.cellAt
    rw [if_neg (by omega), if_neg (by omega), if_neg (by omega), if_neg (by omega), if_neg (by omega), if_neg (by omega), if_neg (by omega), if_pos (by omega), e1, e2]
    show _ = some ((fset s.r i v i).at _)
    rw [fset_same]
  · rw [if_neg h1, mach_at _ _ _ hj]
    unfold VSt.cellAt
    by_cases h2 : 38 ≤ j ∧ j < 82
    · rw [if_neg (by omega), if_neg (by omega), if_neg (by omega), if_neg (by omega), if_neg (by omega), if_neg (by omega), if_neg (by omega), if_pos (by omega),
        if_neg (by omega), if_neg (by omega), if_neg (by omega), if_neg (by omega), if_neg (by omega), if_neg (by omega), if_neg (by omega), if_pos (by omega)]
      show _ = some ((fset s.r i v _).at _)
      rw [fset_other _ _ (by omega)]
    · by_cases h4 : j < 38
      · have : j < 33 ∨ j = 33 ∨ j = 34 ∨ j = 35 ∨ j = 36 ∨ j = 37 := by omega
        rcases this with h | rfl | rfl | rfl | rfl | rfl
        · by_cases h0 : j = 0
          · rw [if_pos h0, if_pos h0]
          · rw [if_neg h0, if_pos h, if_neg h0, if_pos h]
        all_goals rfl
      · have : j = 82 ∨ j = 83 ∨ j = 84 := by omega
        rcases this with rfl | rfl | rfl <;> rfl
theorem mach_setpos (k : VK) (s : VSt) (x : Int) : (s.cells k).setIfInBounds 82 (.int .i64 x) = ({ s with pos := x } : VSt).cells k := by
  refine mach_ext (by simp [mach_size]) fun j hj => ?_
  rw [Array.getElem?_setIfInBounds, mach_size, mach_at _ _ _ hj]
  split
  · rename_i h; subst h; rfl
  · rename_i h
    have : j < 82 ∨ j = 82 ∨ j = 83 ∨ j = 84 := by omega
    rcases this with h | rfl | rfl | rfl
    · unfold VSt.cellAt
      simp only [h, if_true]
    all_goals first | rfl | omega
theorem mach_setdone (k : VK) (s : VSt) (x : Bool) : (s.cells k).setIfInBounds 83 (.bool x) = ({ s with done := x } : VSt).cells k := by
  refine mach_ext (by simp [mach_size]) fun j hj => ?_
  rw [Array.getElem?_setIfInBounds, mach_size, mach_at _ _ _ hj]
  split
  · rename_i h; subst h; rfl
  · rename_i h
    have : j < 82 ∨ j = 82 ∨ j = 83 ∨ j = 84 := by omega
    rcases this with h | rfl | rfl | rfl
    · unfold VSt.cellAt
      simp only [h, if_true]
    all_goals first | rfl | omega
theorem mach_setluck (k : VK) (s : VSt) (x : Int) : (s.cells k).setIfInBounds 84 (.int .i64 x) = ({ s with luck := x } : VSt).cells k := by
  refine mach_ext (by simp [mach_size]) fun j hj => ?_
  rw [Array.getElem?_setIfInBounds, mach_size, mach_at _ _ _ hj]
  split
  · rename_i h; subst h; rfl
  · rename_i h
    have : j < 82 ∨ j = 82 ∨ j = 83 ∨ j = 84 := by omega
    rcases this with h | rfl | rfl | rfl
    · unfold VSt.cellAt
      simp only [h, if_true]
    all_goals first | rfl | omega

/-- Block b is a machine. -/
def IsMach (w : World) (b : Nat) (k : VK) (s : VSt) : Prop := w.heap[b]? = some (.cells (s.cells k) 107 (0, 0))
section
variable {w : World} {b : Nat} {k : VK} {s : VSt} (hm : IsMach w b k s)
include hm
theorem mach_cell (i : Nat) (h : i < 85) : wcell w b i = some (s.cellAt k i) := by rw [wcell_of hm, mach_at _ _ _ h]
theorem mach_l : wcell w b 0 = some k.l := mach_cell hm 0 (by omega)
theorem mach_maps : wcell w b 33 = some k.maps := mach_cell hm 33 (by omega)
theorem mach_clock : wcell w b 34 = some (.int .u64 k.clock) := mach_cell hm 34 (by omega)
theorem mach_random : wcell w b 35 = some k.random := mach_cell hm 35 (by omega)
theorem mach_bm : wcell w b 37 = some (.pointer (some ⟨k.bm, 0, none⟩)) := mach_cell hm 37 (by omega)
theorem mach_pos : wcell w b 82 = some (.int .i64 s.pos) := mach_cell hm 82 (by omega)
theorem mach_done : wcell w b 83 = some (.bool s.done) := mach_cell hm 83 (by omega)
theorem mach_luck : wcell w b 84 = some (.int .i64 s.luck) := mach_cell hm 84 (by omega)
theorem mach_tag0 : wcell w b 38 = some (.int .i64 (s.r 0).tag) := mach_cell hm 38 (by omega)
theorem mach_n0 : wcell w b 39 = some (.int .u64 (s.r 0).n) := mach_cell hm 39 (by omega)
theorem mach_tag1 : wcell w b 42 = some (.int .i64 (s.r 1).tag) := mach_cell hm 42 (by omega)
theorem mach_slot1 : wcell w b 44 = some (.int .i64 (s.r 1).slot) := mach_cell hm 44 (by omega)
theorem mach_rrow (i : Nat) (h : i < 11) : wrow w b (38 + i * 4) 4 = some (s.r i).arr := by rw [wrow_of hm (by rw [mach_size]; omega), mach_row k s i h]
theorem mach_streg (i : Nat) (h : i < 11) (v : RVal) : stv w 4 (.pointer (some ⟨b, 38 + i * 4, none⟩)) (.agg v.arr) = some (put w b (.cells (({ s with r := fset s.r i v } : VSt).cells k) 107 (0, 0))) := by
  rw [stv_of (n := 4) (v := .agg v.arr) hm rfl (by rw [mach_size]; show _ + 4 ≤ _; omega) (.inl (by simp)) (rval_one v)]
  have := mach_setreg k s i v h
  simp only [Value.cells] at this ⊢
  rw [this]
theorem mach_stpos (x : Int) : stv w 1 (.pointer (some ⟨b, 82, none⟩)) (.int .i64 x) = some (put w b (.cells (({ s with pos := x } : VSt).cells k) 107 (0, 0))) := by
  rw [stv_of (n := 1) (v := .int .i64 x) hm rfl (by rw [mach_size]; show 82 + 1 ≤ 85; omega) (.inl (by simp)) (by simp [Value.cells, Value.oneCell'])]
  have := mach_setpos k s x
  rw [← this]; rfl
theorem mach_stdone (x : Bool) : stv w 1 (.pointer (some ⟨b, 83, none⟩)) (.bool x) = some (put w b (.cells (({ s with done := x } : VSt).cells k) 107 (0, 0))) := by
  rw [stv_of (n := 1) (v := .bool x) hm rfl (by rw [mach_size]; show 83 + 1 ≤ 85; omega) (.inl (by simp)) (by simp [Value.cells, Value.oneCell'])]
  have := mach_setdone k s x
  rw [← this]; rfl
theorem mach_stluck (x : Int) : stv w 1 (.pointer (some ⟨b, 84, none⟩)) (.int .i64 x) = some (put w b (.cells (({ s with luck := x } : VSt).cells k) 107 (0, 0))) := by
  rw [stv_of (n := 1) (v := .int .i64 x) hm rfl (by rw [mach_size]; show 84 + 1 ≤ 85; omega) (.inl (by simp)) (by simp [Value.cells, Value.oneCell'])]
  have := mach_setluck k s x
  rw [← this]; rfl
theorem mach_put (s' : VSt) : IsMach (put w b (.cells (s'.cells k) 107 (0, 0))) b k s' := put_same (blk_lt hm)
theorem mach_keep {S : Nat → Prop} {w' : World} (hk : Kept S w w') (hS : ¬ S b) : IsMach w' b k s := hk.has hm hS
end
end Go.Proofs.Ytepbpapbkonhnaa
