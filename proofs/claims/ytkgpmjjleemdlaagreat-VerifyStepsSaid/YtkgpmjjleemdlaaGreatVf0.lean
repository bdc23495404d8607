/- Layer 17: registers and states as they lie in cells. -/
import Derived.Test.YtkgpmjjleemdlaaGreatCf1
set_option linter.unusedSimpArgs false
set_option linter.unusedVariables false
set_option maxRecDepth 8000
namespace Go.Proofs.YtkgpmjjleemdlaaGreat
open Go.Eng

/-- What a register may have. -/
structure AReg where
  kind : Int
  bv : Int
  bm : Int
  lo : Int
  hi : Int
  sl : Int
  sh : Int
  slot : Int
  id : Int
  low : Int
  high : Int
def AReg.zero : AReg := ⟨0, 0, 0, 0, 0, 0, 0, 0, 0, 0, 0⟩
def AReg.arr (r : AReg) : Array Value := #[.int .i64 r.kind, .int .u64 r.bv, .int .u64 r.bm, .int .u64 r.lo, .int .u64 r.hi, .int .i64 r.sl, .int .i64 r.sh, .int .i64 r.slot, .int .i64 r.id, .int .i64 r.low, .int .i64 r.high]
def AReg.val (r : AReg) : Value := .agg r.arr
def AReg.at (r : AReg) (j : Nat) : Value := r.arr[j]?.getD (.bool false)
@[simp] theorem areg_size (r : AReg) : r.arr.size = 11 := by simp [AReg.arr]
theorem areg_at (r : AReg) (j : Nat) (h : j < 11) : r.arr[j]? = some (r.at j) := by
  unfold AReg.at
  rw [Array.getElem?_eq_getElem (by simpa using h)]
  rfl
@[simp] theorem areg_one (r : AReg) : r.arr.all (·.oneCell') = true := by simp [AReg.arr, Value.oneCell']
@[simp] theorem areg_ext (n : Nat) (x : AReg) : (∀ y, y ∈ x.arr → Ext n y) = True := eq_true fun y hy => by
  simp [AReg.arr] at hy
  rcases hy with rfl | rfl | rfl | rfl | rfl | rfl | rfl | rfl | rfl | rfl | rfl <;> simp
/-- Registers, what of the stack is written, what is kept in it. -/
structure AState where
  r : Nat → AReg
  what : Nat → Bool
  kept : Nat → AReg
def AState.zero : AState := ⟨fun _ => AReg.zero, fun _ => false, fun _ => AReg.zero⟩
def AState.cell (s : AState) (i : Nat) : Value := if i < 121 then (s.r (i / 11)).at (i % 11) else if i < 185 then .bool (s.what (i - 121)) else (s.kept ((i - 185) / 11)).at ((i - 185) % 11)
def AState.arr (s : AState) : Array Value := Array.ofFn (n := 273) fun i => s.cell i.val
def AState.val (s : AState) : Value := .agg s.arr
/-- A state ahead of a place. -/
def wayArr (p : Int) (s : AState) : Array Value := Array.ofFn (n := 274) fun i => if i.val = 0 then .int .i64 p else s.cell (i.val - 1)
@[simp] theorem astate_size (s : AState) : s.arr.size = 273 := by simp [AState.arr]
@[simp] theorem way_size (p : Int) (s : AState) : (wayArr p s).size = 274 := by simp [wayArr]
theorem astate_at (s : AState) (i : Nat) (h : i < 273) : s.arr[i]? = some (s.cell i) := by simp [AState.arr, h]
theorem way_at (p : Int) (s : AState) (i : Nat) (h : i < 273) : (wayArr p s)[i + 1]? = some (s.cell i) := by
  unfold wayArr
  rw [Array.getElem?_ofFn, dif_pos (by omega)]
  rfl
@[simp] theorem way_pos (p : Int) (s : AState) : (wayArr p s)[0]? = some (.int .i64 p) := by
  unfold wayArr
  simp
theorem cell_reg (s : AState) (i j : Nat) (hi : i < 11) (hj : j < 11) : s.cell (i * 11 + j) = (s.r i).at j := by
  unfold AState.cell
  have h1 : (i * 11 + j) / 11 = i := by omega
  have h2 : (i * 11 + j) % 11 = j := by omega
  rw [if_pos (by omega), h1, h2]
theorem areg_one_at (r : AReg) (j : Nat) : (r.at j).oneCell' = true := by
  unfold AReg.at
  rcases Nat.lt_or_ge j 11 with h | h
  · have : ∀ j : Fin 11, ((r.arr[j.val]?).getD (.bool false)).oneCell' = true := by
      intro j
      match j with
      | 0 | 1 | 2 | 3 | 4 | 5 | 6 | 7 | 8 | 9 | 10 => rfl
    exact this ⟨j, h⟩
  · rw [Array.getElem?_eq_none (by simpa using h)]; rfl
theorem cell_one (s : AState) (i : Nat) : (s.cell i).oneCell' = true := by
  unfold AState.cell
  split
  · exact areg_one_at _ _
  · split
    · rfl
    · exact areg_one_at _ _
@[simp] theorem astate_one (s : AState) : s.arr.all (·.oneCell') = true := by
  rw [Array.all_eq_true]
  intro i hi
  have := astate_at s i (by simpa using hi)
  rw [Array.getElem?_eq_getElem hi] at this
  rw [Option.some.inj this]
  exact cell_one s i
theorem way_cell (p : Int) (s : AState) (i : Nat) (h : i < 274) : (wayArr p s)[i]? = some (if i = 0 then .int .i64 p else s.cell (i - 1)) := by simp [wayArr, h]
@[simp] theorem way_one (p : Int) (s : AState) : (wayArr p s).all (·.oneCell') = true := by
  rw [Array.all_eq_true]
  intro i hi
  have := way_cell p s i (by simpa using hi)
  rw [Array.getElem?_eq_getElem hi] at this
  rw [Option.some.inj this]
  split
  · rfl
  · exact cell_one s _
theorem areg_at_ext (n : Nat) (r : AReg) (j : Nat) : Ext n (r.at j) := by
  unfold AReg.at
  rcases Nat.lt_or_ge j 11 with h | h
  · rw [Array.getElem?_eq_getElem (by simpa using h)]
    exact (areg_ext n r ▸ trivial : ∀ y, y ∈ r.arr → Ext n y) _ (by simp)
  · rw [Array.getElem?_eq_none (by simpa using h)]; simp
theorem cell_ext (n : Nat) (s : AState) (i : Nat) : Ext n (s.cell i) := by
  unfold AState.cell
  split
  · exact areg_at_ext _ _ _
  · split
    · simp
    · exact areg_at_ext _ _ _
@[simp] theorem astate_ext (n : Nat) (s : AState) : (∀ y, y ∈ s.arr → Ext n y) = True := eq_true fun y hy => by
  obtain ⟨i, hi⟩ := Array.mem_iff_getElem?.1 hy
  have h : i < 273 := by have := (Array.getElem?_eq_some_iff.1 hi).1; simpa using this
  rw [astate_at s i h] at hi
  cases hi
  exact cell_ext n s i
@[simp] theorem way_ext (n : Nat) (p : Int) (s : AState) : (∀ y, y ∈ wayArr p s → Ext n y) = True := eq_true fun y hy => by
  obtain ⟨i, hi⟩ := Array.mem_iff_getElem?.1 hy
  have h : i < 274 := by have := (Array.getElem?_eq_some_iff.1 hi).1; simpa using this
  rw [way_cell p s i h] at hi
  cases hi
  split
  · simp
  · exact cell_ext n s _

/-- A state is its cells. -/
theorem astate_ext' {s : AState} {c : Array Value} (hs : c.size = 273) (h : ∀ i, i < 273 → c[i]? = some (s.cell i)) : c = s.arr := by
  apply Array.ext_getElem?
  intro j
  by_cases hj : j < 273
  · rw [astate_at _ _ hj, h j hj]
  · rw [Array.getElem?_eq_none (by omega), Array.getElem?_eq_none (by simp; omega)]
theorem way_ext' {p : Int} {s : AState} {c : Array Value} (hs : c.size = 274) (h0 : c[0]? = some (.int .i64 p)) (h : ∀ i, i < 273 → c[i + 1]? = some (s.cell i)) : c = wayArr p s := by
  apply Array.ext_getElem?
  intro j
  by_cases hj : j < 274
  · cases j with
    | zero => rw [h0, way_pos]
    | succ j => rw [way_at _ _ _ (by omega), h j (by omega)]
  · rw [Array.getElem?_eq_none (by omega), Array.getElem?_eq_none (by simp; omega)]
theorem areg_ext' {r : AReg} {c : Array Value} (hs : c.size = 11) (h : ∀ i, i < 11 → c[i]? = some (r.at i)) : c = r.arr := by
  apply Array.ext_getElem?
  intro j
  by_cases hj : j < 11
  · rw [areg_at _ _ hj, h j hj]
  · rw [Array.getElem?_eq_none (by omega), Array.getElem?_eq_none (by simp; omega)]
/-- Parts of them. -/
theorem way_state (p : Int) (s : AState) : (wayArr p s).extract 1 274 = s.arr := by
  refine astate_ext' (by simp) fun i hi => ?_
  rw [Array.getElem?_extract, if_pos (by simp; omega), Nat.add_comm, way_at _ _ _ hi]
theorem state_reg (s : AState) (d : Nat) (h : d < 11) : s.arr.extract (d * 11) (d * 11 + 11) = (s.r d).arr := by
  refine areg_ext' (by simp; omega) fun i hi => ?_
  rw [Array.getElem?_extract, if_pos (by simp; omega), astate_at _ _ (by omega), cell_reg _ _ _ h hi]
theorem way_reg (p : Int) (s : AState) (d : Nat) (h : d < 11) : (wayArr p s).extract (1 + d * 11) (1 + d * 11 + 11) = (s.r d).arr := by
  refine areg_ext' (by simp; omega) fun i hi => ?_
  rw [Array.getElem?_extract, if_pos (by simp; omega), show 1 + d * 11 + i = (d * 11 + i) + 1 by omega, way_at _ _ _ (by omega), cell_reg _ _ _ h hi]
def fsetR (f : Nat → AReg) (i : Nat) (v : AReg) : Nat → AReg := fun j => if j = i then v else f j
def AState.setR (s : AState) (d : Nat) (v : AReg) : AState := { s with r := fsetR s.r d v }
theorem setR_cell (s : AState) (d : Nat) (v : AReg) (i : Nat) (hd : d < 11) : (s.setR d v).cell i = if d * 11 ≤ i ∧ i < d * 11 + 11 then v.at (i - d * 11) else s.cell i := by
  unfold AState.cell AState.setR fsetR
  by_cases h1 : i < 121
  · rw [if_pos h1, if_pos h1]
    by_cases h2 : d * 11 ≤ i ∧ i < d * 11 + 11
    · rw [if_pos h2]
      have e1 : i / 11 = d := by omega
      have e2 : i % 11 = i - d * 11 := by omega
      simp only [e1, e2, if_true]
    · rw [if_neg h2]
      have e1 : i / 11 ≠ d := by omega
      simp only [e1, if_false]
  · rw [if_neg h1, if_neg h1]
    by_cases h3 : d * 11 ≤ i ∧ i < d * 11 + 11
    · omega
    · rw [if_neg h3]
theorem way_setreg (p : Int) (s : AState) (d : Nat) (v : AReg) (h : d < 11) : setRow (wayArr p s) (1 + d * 11) v.arr.toList = wayArr p (s.setR d v) := by
  refine way_ext' (by rw [Go.Eng.setRow_size]; simp) ?_ fun i hi => ?_
  · rw [setRow_eq, if_neg (by omega), way_pos]
  · rw [setRow_eq, setR_cell _ _ _ _ h]
    have hl : v.arr.toList.length = 11 := rfl
    rw [hl, way_size]
    by_cases h2 : d * 11 ≤ i ∧ i < d * 11 + 11
    · rw [if_pos h2, if_pos (by omega), Array.getElem?_toList, show i + 1 - (1 + d * 11) = i - d * 11 by omega, areg_at _ _ (by omega)]
    · rw [if_neg h2, if_neg (by omega), way_at _ _ _ hi]
theorem state_setreg (s : AState) (d : Nat) (v : AReg) (h : d < 11) : setRow s.arr (d * 11) v.arr.toList = (s.setR d v).arr := by
  refine astate_ext' (by rw [Go.Eng.setRow_size]; simp) fun i hi => ?_
  rw [setRow_eq, setR_cell _ _ _ _ h]
  have hl : v.arr.toList.length = 11 := rfl
  rw [hl, astate_size]
  by_cases h2 : d * 11 ≤ i ∧ i < d * 11 + 11
  · rw [if_pos h2, if_pos (by omega), Array.getElem?_toList, areg_at _ _ (by omega)]
  · rw [if_neg h2, if_neg (by omega), astate_at _ _ hi]
theorem way_setpos (p q : Int) (s : AState) : (wayArr p s).setIfInBounds 0 (.int .i64 q) = wayArr q s := by
  refine way_ext' (by simp) (by simp) fun i hi => ?_
  rw [Array.getElem?_setIfInBounds_ne (by omega), way_at _ _ _ hi]
theorem way_setstate (p : Int) (s t : AState) : setRow (wayArr p s) 1 t.arr.toList = wayArr p t := by
  refine way_ext' (by rw [Go.Eng.setRow_size]; simp) ?_ fun i hi => ?_
  · rw [setRow_eq, if_neg (by omega), way_pos]
  · rw [setRow_eq, if_pos (by simp; omega), Array.getElem?_toList, show i + 1 - 1 = i by omega, astate_at _ _ hi]
theorem way_all (p q : Int) (s t : AState) : setRow (wayArr p s) 0 (wayArr q t).toList = wayArr q t := by
  rw [setRow_all (by simp)]
end Go.Proofs.YtkgpmjjleemdlaaGreat
