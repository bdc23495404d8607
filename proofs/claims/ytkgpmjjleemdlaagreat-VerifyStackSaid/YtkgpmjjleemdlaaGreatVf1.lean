/- Layers 14, 15: numbers, comparisons; as equations (VmB over AsPts). -/
import Derived.Test.YtkgpmjjleemdlaaGreatCf1
import Derived.Test.YtkgpmjjleemdlaaGreatCmdsA
import Derived.Test.YtkgpmjjleemdlaaGreatCmdsVf
import Derived.Test.YtkgpmjjleemdlaaGreatEngQ
import Derived.Test.YtkgpmjjleemdlaaGreatBase
import Derived.Test.YtkgpmjjleemdlaaGreatEngO
import Derived.Maps.Keyed
set_option linter.unusedSimpArgs false
set_option linter.unusedVariables false
set_option maxRecDepth 8000
namespace Go.Proofs.YtkgpmjjleemdlaaGreat
open Go.Eng

/-! Numbers. -/
def plainOf (op : Nat) (x y : Int) : Int :=
  if op = 0 then IntKind.u64.wrap (x + y) else if op = 1 then IntKind.u64.wrap (x - y) else if op = 2 then IntKind.u64.wrap (x * y) else if op = 4 then bitOr .u64 x y
  else if op = 5 then bitAnd .u64 x y else if op = 8 then IntKind.u64.wrap (0 - x) else if op = 10 then bitXor .u64 x y else if op = 11 then y
  else if op = 3 then (if y = 0 then 0 else IntKind.u64.wrap (x.tdiv y)) else if op = 9 then (if y = 0 then x else x.tmod y) else 0
def shiftOf (op : Nat) (wide : Bool) (x y : Int) : Int :=
  let by' := if wide = true then y.tmod 64 else y.tmod 32
  if op = 6 then IntKind.u64.wrap (x * 2 ^ (min by'.toNat 64)) else if op = 7 then x.fdiv (2 ^ (min by'.toNat 64))
  else if wide = true then IntKind.u64.wrap ((IntKind.i64.wrap x).fdiv (2 ^ (min by'.toNat 64))) else IntKind.u64.wrap ((IntKind.i32.wrap x).fdiv (2 ^ (min by'.toNat 32)))
def low32 (wide : Bool) (x : Int) : Int := if wide = true then x else IntKind.u64.wrap (IntKind.u32.wrap x)
def evalOf (op : Nat) (wide : Bool) (x y : Int) : Int :=
  low32 wide (if op = 6 ∨ op = 7 ∨ op = 12 then shiftOf op wide (low32 wide x) (low32 wide y) else plainOf op (low32 wide x) (low32 wide y))

set_option maxHeartbeats 2000000 in
theorem splain_T (w0 : World) (op : Nat) (x y : Int) : T Tryz.prog w0 144 [.int .i64 op, .int .u64 x, .int .u64 y] = some (.int .u64 (plainOf op x y)) :=
  T_of (by kernel_rfl) Tryz.func144 rfl ok_scalar_plain (by simp) (by simp) fun B hB => by
    unfold plainOf
    by_cases h0 : op = 0
    · subst h0; simp [c_scalar_plain, C_cond_eq]
    by_cases h1 : op = 1
    · subst h1; simp [c_scalar_plain, C_cond_eq]
    by_cases h2 : op = 2
    · subst h2; simp [c_scalar_plain, C_cond_eq]
    by_cases h4 : op = 4
    · subst h4; simp [c_scalar_plain, C_cond_eq]
    by_cases h5 : op = 5
    · subst h5; simp [c_scalar_plain, C_cond_eq]
    by_cases h8 : op = 8
    · subst h8; simp [c_scalar_plain, C_cond_eq]
    by_cases h10 : op = 10
    · subst h10; simp [c_scalar_plain, C_cond_eq]
    by_cases h11 : op = 11
    · subst h11; simp [c_scalar_plain, C_cond_eq]
    by_cases h3 : op = 3
    · subst h3; by_cases hy : y = 0
      · subst hy; simp [c_scalar_plain, C_cond_eq]
      · simp [c_scalar_plain, C_cond_eq, hy]
    by_cases h9 : op = 9
    · subst h9; by_cases hy : y = 0
      · subst hy; simp [c_scalar_plain, C_cond_eq]
      · simp [c_scalar_plain, C_cond_eq, hy]
    simp [c_scalar_plain, C_cond_eq, ci_eq, h0, h1, h2, h4, h5, h8, h10, h11, h3, h9]
set_option maxHeartbeats 2000000 in
theorem shift_T (w0 : World) (op : Nat) (wide : Bool) (x y : Int) (hy : 0 ≤ y) : T Tryz.prog w0 143 [.int .i64 op, .bool wide, .int .u64 x, .int .u64 y] = some (.int .u64 (shiftOf op wide x y)) :=
  T_of (by kernel_rfl) Tryz.func143 rfl ok_scalar_shift (by simp) (by simp) fun B hB => by
    have g1 : 0 ≤ y.tmod 64 := Int.tmod_nonneg _ hy
    have g2 : 0 ≤ y.tmod 32 := Int.tmod_nonneg _ hy
    unfold shiftOf
    cases wide <;> simp [c_scalar_shift, C_cond_eq, ci_eq, g1, g2] <;> (by_cases h6 : op = 6 <;> by_cases h7 : op = 7 <;> simp [h6, h7] <;> rfl)
set_option maxHeartbeats 2000000 in
theorem eval_T (w0 : World) (op : Nat) (wide : Bool) (x y : Int) (hy : 0 ≤ y) : T Tryz.prog w0 121 [.int .i64 op, .bool wide, .int .u64 x, .int .u64 y] = some (.int .u64 (evalOf op wide x y)) :=
  T_of (by kernel_rfl) Tryz.func121 rfl ok_scalar_Eval (by simp) (by simp) fun B hB => by
    have g : 0 ≤ low32 wide y := by
      unfold low32
      split
      · exact hy
      · rw [IntKind.wrap_u64]; omega
    have t1 := shift_T w0 op wide (low32 wide x) (low32 wide y) g
    have t2 := splain_T w0 op (low32 wide x) (low32 wide y)
    unfold evalOf
    by_cases h6 : op = 6
    · subst h6; cases wide <;> simp [low32] at t1 t2 <;> simp [c_scalar_Eval, C_cond_eq, ci_eq, low32, t1, t2]
    by_cases h7 : op = 7
    · subst h7; cases wide <;> simp [low32] at t1 t2 <;> simp [c_scalar_Eval, C_cond_eq, ci_eq, low32, t1, t2]
    by_cases h12 : op = 12
    · subst h12; cases wide <;> simp [low32] at t1 t2 <;> simp [c_scalar_Eval, C_cond_eq, ci_eq, low32, t1, t2]
    cases wide <;> simp [low32] at t1 t2 <;> simp [c_scalar_Eval, C_cond_eq, ci_eq, low32, t1, t2, h6, h7, h12]

def unsignedOf (op : Nat) (x y : Int) : Bool :=
  if op = 1 then decide (x = y) else if op = 2 then decide (y < x) else if op = 3 then decide (y ≤ x) else if op = 4 then !decide (bitAnd .u64 x y = 0) else if op = 5 then !decide (x = y)
  else if op = 10 then decide (x < y) else if op = 11 then decide (x ≤ y) else false
def sgn (wide : Bool) (x : Int) : Int := if wide = true then IntKind.i64.wrap x else IntKind.i64.wrap (IntKind.i32.wrap x)
def holdsOf (op : Nat) (wide : Bool) (x y : Int) : Bool :=
  if op = 6 then decide (sgn wide y < sgn wide x) else if op = 7 then decide (sgn wide y ≤ sgn wide x) else if op = 12 then decide (sgn wide x < sgn wide y) else if op = 13 then decide (sgn wide x ≤ sgn wide y)
  else unsignedOf op (low32 wide x) (low32 wide y)
set_option maxHeartbeats 2000000 in
theorem unsigned_T (w0 : World) (op : Nat) (x y : Int) : T Tryz.prog w0 185 [.int .i64 op, .int .u64 x, .int .u64 y] = some (.bool (unsignedOf op x y)) :=
  T_of (by kernel_rfl) Tryz.func185 rfl ok_branch_unsigned (by simp) (by simp) fun B hB => by
    unfold unsignedOf
    by_cases h1 : op = 1
    · subst h1; simp [c_branch_unsigned, C_cond_eq]
    by_cases h2 : op = 2
    · subst h2; simp [c_branch_unsigned, C_cond_eq]
    by_cases h3 : op = 3
    · subst h3; simp [c_branch_unsigned, C_cond_eq]
    by_cases h4 : op = 4
    · subst h4; simp [c_branch_unsigned, C_cond_eq]
    by_cases h5 : op = 5
    · subst h5; simp [c_branch_unsigned, C_cond_eq]
    by_cases h10 : op = 10
    · subst h10; simp [c_branch_unsigned, C_cond_eq]
    by_cases h11 : op = 11
    · subst h11; simp [c_branch_unsigned, C_cond_eq]
    simp [c_branch_unsigned, C_cond_eq, ci_eq, h1, h2, h3, h4, h5, h10, h11]
set_option maxHeartbeats 2000000 in
theorem holds_T (w0 : World) (op : Nat) (wide : Bool) (x y : Int) : T Tryz.prog w0 173 [.int .i64 op, .bool wide, .int .u64 x, .int .u64 y] = some (.bool (holdsOf op wide x y)) :=
  T_of (by kernel_rfl) Tryz.func173 rfl ok_branch_Holds (by simp) (by simp) fun B hB => by
    have t1 := unsigned_T w0 op (low32 wide x) (low32 wide y)
    unfold holdsOf
    by_cases h6 : op = 6
    · subst h6; cases wide <;> simp [low32] at t1 <;> simp [c_branch_Holds, C_cond_eq, ci_eq, low32, sgn, t1]
    by_cases h7 : op = 7
    · subst h7; cases wide <;> simp [low32] at t1 <;> simp [c_branch_Holds, C_cond_eq, ci_eq, low32, sgn, t1]
    by_cases h12 : op = 12
    · subst h12; cases wide <;> simp [low32] at t1 <;> simp [c_branch_Holds, C_cond_eq, ci_eq, low32, sgn, t1]
    by_cases h13 : op = 13
    · subst h13; cases wide <;> simp [low32] at t1 <;> simp [c_branch_Holds, C_cond_eq, ci_eq, low32, sgn, t1]
    cases wide <;> simp [low32] at t1 <;> simp [c_branch_Holds, C_cond_eq, ci_eq, low32, sgn, t1, h6, h7, h12, h13]
end Go.Proofs.YtkgpmjjleemdlaaGreat

set_option linter.unusedSimpArgs false
set_option linter.unusedVariables false
set_option maxRecDepth 8000
namespace Go.Proofs.YtkgpmjjleemdlaaGreat
open Go.Eng

@[simp] theorem ostC_areg (c : Array Value) (r : AReg) (h : c.size = 11) : ostC c 11 0 (.agg r.arr) = some r.arr := ostC_all c 11 r.arr h (areg_size r) (areg_one r)
@[simp] theorem ostC_astate (c : Array Value) (s : AState) (h : c.size = 273) : ostC c 273 0 (.agg s.arr) = some s.arr := ostC_all c 273 s.arr h (astate_size s) (astate_one s)
@[simp] theorem ostC_way (c : Array Value) (p : Int) (s : AState) (h : c.size = 274) : ostC c 274 0 (.agg (wayArr p s)) = some (wayArr p s) := ostC_all c 274 _ h (way_size p s) (way_one p s)
theorem row_reg (s : AState) {d : Nat} (h : d < 11) : rowOf s.arr (d * 11) 11 = some (s.r d).arr := by
  unfold rowOf
  rw [if_pos (by rw [astate_size]; omega), state_reg s d h]
theorem row_kept (s : AState) {d : Nat} (h : d < 8) : rowOf s.arr (185 + d * 11) 11 = some (s.kept d).arr := by
  unfold rowOf
  rw [if_pos (by rw [astate_size]; omega), state_kept s d h]
theorem row_wreg (p : Int) (s : AState) {d : Nat} (h : d < 11) : rowOf (wayArr p s) (1 + d * 11) 11 = some (s.r d).arr := by
  unfold rowOf
  rw [if_pos (by rw [way_size]; omega), way_reg p s d h]
@[simp] theorem row_wstate (p : Int) (s : AState) : rowOf (wayArr p s) 1 273 = some s.arr := by
  unfold rowOf
  rw [if_pos (by rw [way_size]; omega), way_state]
theorem ost_reg (s : AState) {d : Nat} (h : d < 11) (v : AReg) : ostC s.arr 11 (d * 11) (.agg v.arr) = some (s.setR d v).arr := by
  have hc : (Value.agg v.arr).cells = v.arr := rfl
  unfold ostC
  rw [hc, if_pos ⟨rfl, by rw [areg_size, astate_size]; omega, areg_one v⟩, state_setreg s d v h]
@[simp] theorem ost_wpos (p q : Int) (s : AState) : ostC (wayArr p s) 1 0 (.int .i64 q) = some (wayArr q s) := by
  rw [ostC_int _ _ _ _ (by simp), way_setpos]
@[simp] theorem ost_wstate (p : Int) (s t : AState) : ostC (wayArr p s) 273 1 (.agg t.arr) = some (wayArr p t) := by
  have hc : (Value.agg t.arr).cells = t.arr := rfl
  unfold ostC
  rw [hc, if_pos ⟨astate_size t, by rw [astate_size, way_size]; omega, astate_one t⟩, way_setstate]
def kindR (k : Int) : AReg := ⟨k, 0, 0, 0, 0, 0, 0, 0, 0, 0, 0⟩
@[simp] theorem zero_kind (k : Int) : AReg.zero.arr.setIfInBounds 0 (.int .i64 k) = (kindR k).arr := rfl
def numC' (x : Int) : Array Value := #[.int .u64 x, .int .u64 0]
def rngC (x : Int) : Array Value := #[.int .u64 x, .int .u64 0, .int .u64 x, .int .u64 x, .int .i64 (IntKind.i64.wrap x), .int .i64 (IntKind.i64.wrap x)]
def knownR (x : Int) : AReg := ⟨1, x, 0, x, x, IntKind.i64.wrap x, IntKind.i64.wrap x, 0, 0, 0, 0⟩
theorem tconst_T (w0 : World) (x : Int) : T Tryz.prog w0 141 [.int .u64 x] = some (.agg (numC' x)) :=
  T_of (by kernel_rfl) Tryz.func141 rfl ok_tnum_Const (by simp) (by simp [numC']) fun B hB => by
    simp [c_tnum_Const, numC']
theorem const_T (w0 : World) (x : Int) : T Tryz.prog w0 119 [.int .u64 x] = some (.agg (rngC x)) :=
  T_of (by kernel_rfl) Tryz.func119 rfl ok_scalar_Const (by simp) (by simp [rngC]) fun B hB => by
    have e := tconst_T w0 x
    simp [c_scalar_Const, e, numC', rngC]
theorem known_T (w0 : World) (x : Int) : T Tryz.prog w0 91 [.int .u64 x] = some (knownR x).val :=
  T_of (by kernel_rfl) Tryz.func91 rfl ok_verify_known (by simp) (by simp [AReg.val]) fun B hB => by
    have e := const_T w0 x
    simp [c_verify_known, e, rngC, knownR, AReg.val, AReg.arr, AReg.zero]
def secondA (s : AState) (x : Ins) (reg : Bool) : AReg := if reg = true then s.r x.src else knownR (IntKind.u64.wrap x.imm)
theorem second_T (w0 : World) (s : AState) {x : Ins} (hx : x.wf) (hs : x.src < 11) (reg : Bool) : T Tryz.prog w0 58 [s.val, x.val, .bool reg] = some (secondA s x reg).val :=
  T_of (by kernel_rfl) Tryz.func58 rfl ok_verify_second (by simp [AState.val, AReg.val]) (by simp [AReg.val]) fun B hB => by
    have e64 : IntKind.i64.wrap x.imm = x.imm := i64w (by have := hx.imm; omega) (by have := hx.imm; omega)
    have e := known_T w0 (IntKind.u64.wrap x.imm)
    have hs' : (x.src : Int) < 11 := by omega
    have er := state_reg s x.src hs
    have er := row_reg s hs
    unfold secondA
    cases reg <;> simp [c_verify_second, AState.val, AReg.val, e64, e, C_cond_eq, hs', hs, er]
    all_goals (rw [ostC_areg _ _ (areg_size _)]; simp)
def AState.start : AState := (AState.zero.setR 1 (kindR 2)).setR 10 (kindR 3)
theorem start_T (w0 : World) : T Tryz.prog w0 19 [] = some AState.start.val :=
  T_of (by kernel_rfl) Tryz.func19 rfl ok_absreg_Start (by simp) (by simp [AState.val]) fun B hB => by
    have e1 := ost_reg AState.zero (d := 1) (by omega) (kindR 2)
    have e2 := ost_reg (AState.zero.setR 1 (kindR 2)) (d := 10) (by omega) (kindR 3)
    simp at e1 e2
    simp [c_absreg_Start, AState.val, e1, e2, AState.start]
theorem stab_two {a b : Ex} {env : Env} {w w' : World} {u v : Value} (h1 : a.ev env w = some u) (h2 : a.ev env w' = some u) (h3 : b.ev env w = some v) (h4 : b.ev env w' = some v) : Stab [a, b] env w w' := by
  intro e he x hx
  simp only [List.mem_cons, List.not_mem_nil, or_false] at he
  rcases he with rfl | rfl
  · rw [h1] at hx; rw [h2, hx]
  · rw [h3] at hx; rw [h4, hx]
end Go.Proofs.YtkgpmjjleemdlaaGreat

set_option linter.unusedSimpArgs false
set_option linter.unusedVariables false
set_option maxRecDepth 8000
namespace Go.Proofs.YtkgpmjjleemdlaaGreat
open Go.Eng
attribute [local irreducible] Go.Eng.W

def WayBox (w : World) (b : Nat) (p : Int) (s : AState) : Prop := w.heap[b]? = some (.cells (wayArr p s) 76 (0, 0))
theorem WayBox.reg {w : World} {b : Nat} {p : Int} {s : AState} (h : WayBox w b p s) {d : Nat} (hd : d < 11) : wrow w b (1 + d * 11) 11 = some (s.r d).arr := by
  rw [wrow_of h (by rw [way_size]; omega), way_reg p s d hd]
theorem WayBox.state {w : World} {b : Nat} {p : Int} {s : AState} (h : WayBox w b p s) : wrow w b 1 273 = some s.arr := by
  rw [wrow_of h (by rw [way_size]; omega), way_state]
theorem WayBox.all {w : World} {b : Nat} {p : Int} {s : AState} (h : WayBox w b p s) : wrow w b 0 274 = some (wayArr p s) := wrow_box h (way_size p s)
theorem WayBox.pos {w : World} {b : Nat} {p : Int} {s : AState} (h : WayBox w b p s) : wcell w b 0 = some (.int .i64 p) := by
  rw [wcell_of h, way_pos]
theorem WayBox.calm {w w' : World} {b : Nat} {p : Int} {s : AState} (h : WayBox w b p s) (hk : Kept none' w w') : WayBox w' b p s := hk.has h fun h => h
theorem WayBox.setreg {w : World} {b : Nat} {p : Int} {s : AState} (h : WayBox w b p s) {d : Nat} (hd : d < 11) (v : AReg) : stv w 11 (.pointer (some ⟨b, 1 + d * 11, none⟩)) (.agg v.arr) = some (put w b (.cells (wayArr p (s.setR d v)) 76 (0, 0))) := by
  have hc : (Value.agg v.arr).cells = v.arr := rfl
  rw [stv_of (n := 11) (v := .agg v.arr) h (by rw [hc]; exact areg_size v) (by rw [way_size]; omega) (.inl (by simp)) (by rw [hc]; exact areg_one v), hc, way_setreg p s d v hd]
theorem WayBox.setpos {w : World} {b : Nat} {p : Int} {s : AState} (h : WayBox w b p s) (q : Int) : stv w 1 (.pointer (some ⟨b, 0, none⟩)) (.int .i64 q) = some (put w b (.cells (wayArr q s) 76 (0, 0))) := by
  rw [stv_of (n := 1) (v := .int .i64 q) h rfl (by rw [way_size]; omega) (.inl (by simp)) (by simp [Value.cells, Value.oneCell'])]
  show some (put w b (.cells (setRow (wayArr p s) 0 [.int .i64 q]) _ _)) = _
  rw [setRow_cons, setRow_nil, way_setpos]
theorem WayBox.setstate {w : World} {b : Nat} {p : Int} {s : AState} (h : WayBox w b p s) (t : AState) : stv w 273 (.pointer (some ⟨b, 1, none⟩)) (.agg t.arr) = some (put w b (.cells (wayArr p t) 76 (0, 0))) := by
  have hc : (Value.agg t.arr).cells = t.arr := rfl
  rw [stv_of (n := 273) (v := .agg t.arr) h (by rw [hc]; exact astate_size t) (by rw [way_size]; omega) (.inl (by simp)) (by rw [hc]; exact astate_one t), hc, way_setstate]
theorem WayBox.put {w : World} {b : Nat} (h : b < w.heap.size) (p : Int) (s : AState) : WayBox (Eng.put w b (.cells (wayArr p s) 76 (0, 0))) b p s := put_same h
/-- A new box of one register. -/
def RegBox (w : World) (b : Nat) (r : AReg) : Prop := w.heap[b]? = some (.cells r.arr 68 (0, 0))
theorem RegBox.row {w : World} {b : Nat} {r : AReg} (h : RegBox w b r) : wrow w b 0 11 = some r.arr := wrow_box h (areg_size r)
theorem RegBox.calm {w w' : World} {b : Nat} {r : AReg} (h : RegBox w b r) (hk : Kept none' w w') : RegBox w' b r := hk.has h fun h => h
theorem RegBox.store {w : World} {b : Nat} {r : AReg} (h : RegBox w b r) (v : AReg) : stv w 11 (.pointer (some ⟨b, 0, none⟩)) (.agg v.arr) = some (Eng.put w b (.cells v.arr 68 (0, 0))) :=
  box_store (v := .agg v.arr) h (areg_size r) (by exact areg_size v) (by exact areg_one v)

/-- What a step tells: one state ahead of a place, in a new row. -/
def OneWay (w w' : World) (v : Value) (p : Int) (s : AState) : Prop := Kept none' w w' ∧ ∃ b, v = .slice (some ⟨b, 0, none⟩) 1 1 ∧ WayBox w' b p s ∧ w.heap.size ≤ b
theorem OneWay.before {w0 w w' : World} {v : Value} {p : Int} {s : AState} (h : OneWay w w' v p s) (hk : Kept none' w0 w) : OneWay w0 w' v p s := by
  obtain ⟨h1, b, h2, h3, h4⟩ := h
  exact ⟨hk.trans h1, b, h2, h3, Nat.le_trans hk.size h4⟩
theorem OneWay.behind {w w' w2 : World} {v : Value} {p : Int} {s : AState} (h : OneWay w w' v p s) (hk : Kept none' w' w2) : OneWay w w2 v p s := by
  obtain ⟨h1, b, h2, h3, h4⟩ := h
  exact ⟨h1.trans hk, b, h2, h3.calm hk, h4⟩
theorem wset_ret (w : World) (p : Int) (s : AState) {d : Nat} (hd : d < 11) (r : AReg) (by' : Int) :
    Ret Tryz.prog 93 [.agg (wayArr p s), .int .u8 d, .agg r.arr, .int .i64 by'] w fun v w' => OneWay w w' v (IntKind.i64.wrap (p + by')) (s.setR d r) := by
  refine ret_of_W Tryz.func93 rfl ok_verify_way_set ?_
  have hd' : (d : Int) < 11 := by omega
  simp only [c_verify_way_set, W_seq, W_set]
  refine W_new' (v := .agg (wayArr p s)) (cs := wayArr p s) (by simp) rfl ?_
  have h5 : WayBox _ w.heap.size p s := hp_new w (.cells (wayArr p s) 76)
  have hk1 := (Kept.refl none' w).alloc (.cells (wayArr p s) 76)
  generalize hb5 : w.heap.size = b5 at *
  generalize (w.alloc (.cells (wayArr p s) 76)) = w1 at *
  simp only [W_seq]
  refine W_new' (v := .agg r.arr) (cs := r.arr) (by simp) rfl ?_
  have h6 : RegBox _ w1.heap.size r := hp_new w1 (.cells r.arr 68)
  have hk2 := (Kept.refl none' w1).alloc (.cells r.arr 68)
  have h52 := h5.calm hk2
  have h56 : w1.heap.size ≠ b5 := by have := blk_lt h5; omega
  generalize hb6 : w1.heap.size = b6 at *
  generalize (w1.alloc (.cells r.arr 68)) = w2 at *
  have hk02 := hk1.trans hk2
  simp only [W_seq, W_set]
  refine ok_intro (.slice none 0 0) (by simp) ?_
  try simp only [W_seq]
  refine W_store (xv := .pointer (some ⟨b5, 1 + d * 11, none⟩)) (vv := .agg r.arr) (by simp [hd, hd']) (by simp [h6.row]) (h52.setreg hd r) (stab_nil _ _ _) ?_
  have hle : w.heap.size ≤ b5 := by omega
  have h53 := WayBox.put (blk_lt h52) p (s.setR d r)
  have hk03 := hk02.putNew hle (.cells (wayArr p (s.setR d r)) 76 (0, 0))
  generalize Eng.put w2 b5 (.cells (wayArr p (s.setR d r)) 76 (0, 0)) = w3 at *
  try simp only [W_seq]
  refine W_store (xv := .pointer (some ⟨b5, 0, none⟩)) (vv := .int .i64 (IntKind.i64.wrap (p + by'))) (by simp) (by simp [h53.pos]) (h53.setpos _) (stab_nil _ _ _) ?_
  have h54 := WayBox.put (blk_lt h53) (IntKind.i64.wrap (p + by')) (s.setR d r)
  have hk04 := hk03.putNew hle (.cells (wayArr (IntKind.i64.wrap (p + by')) (s.setR d r)) 76 (0, 0))
  generalize Eng.put w3 b5 (.cells (wayArr (IntKind.i64.wrap (p + by')) (s.setR d r)) 76 (0, 0)) = w4 at *
  try simp only [W_seq]
  refine W_row' (v := .agg (wayArr (IntKind.i64.wrap (p + by')) (s.setR d r))) (cs := wayArr (IntKind.i64.wrap (p + by')) (s.setR d r)) (by simp [h54.all, way_all]) rfl ?_
  simp
  exact ⟨hk04.alloc _, _, rfl, hp_new w4 _, by have := hk04.size; omega⟩
theorem wto_T (w0 : World) (p q : Int) (s : AState) : T Tryz.prog w0 53 [.agg (wayArr p s), .int .i64 q] = some (.agg (wayArr q s)) :=
  T_of (by kernel_rfl) Tryz.func53 rfl ok_verify_way_to (by simp) (by simp) fun B hB => by
    simp [c_verify_way_to, way_setpos]
end Go.Proofs.YtkgpmjjleemdlaaGreat

set_option linter.unusedSimpArgs false
set_option linter.unusedVariables false
set_option maxRecDepth 8000
namespace Go.Proofs.YtkgpmjjleemdlaaGreat
open Go.Eng

def aluA (q : Parts) (a b : AReg) : AReg := if q.op = 11 ∧ b.kind = 1 then knownR 0 else a
@[simp] theorem areg_kind0 (r : AReg) : r.arr[0]? = some (.int .i64 r.kind) := by simp [AReg.arr]
@[simp] theorem areg_g0 (r : AReg) (h : 0 < r.arr.size) : r.arr[0]'h = .int .i64 r.kind := rfl
end Go.Proofs.YtkgpmjjleemdlaaGreat

set_option linter.unusedSimpArgs false
set_option linter.unusedVariables false
set_option maxRecDepth 8000
namespace Go.Eng

def isKeyN (n : Nat) (v : Value) : Bool := match v with
  | .int _ m => decide (m = n)
  | _ => false
def lookN (n : Nat) : List MapEntry → Option Value
  | [] => none
  | e :: l => if isKeyN n e.key = true then some e.val else lookN n l
def KeysN (l : List MapEntry) : Prop := ∀ e ∈ l, ∃ n : Nat, e.key = .int .i64 n
theorem find_n (n : Nat) : ∀ (l : List MapEntry) (i : Nat), KeysN l →
    (lookN n l = none ∧ Instr.findNow (.int .i64) (.int .i64 n) l i = some none) ∨
    (∃ j x, l[j]? = some x ∧ x.key = .int .i64 n ∧ lookN n l = some x.val ∧ Instr.findNow (.int .i64) (.int .i64 n) l i = some (some (i + j, x.val)) ∧ ∀ k, k < j → ∀ y, l[k]? = some y → y.key ≠ .int .i64 n)
  | [], i, _ => .inl ⟨rfl, rfl⟩
  | e :: l, i, hk => by
    obtain ⟨m, hm⟩ := hk e (by simp)
    have hf : Instr.findNow (.int .i64) (.int .i64 n) (e :: l) i = if (n : Int) = m then some (some (i, e.val)) else Instr.findNow (.int .i64) (.int .i64 n) l (i + 1) := by
      simp only [Instr.findNow, hm, Instr.sameNow, if_true]
      by_cases h : (n : Int) = m
      · rw [if_pos h, beq_iff_eq.2 h]
      · rw [if_neg h, beq_eq_false_iff_ne.2 h]
    by_cases h : n = m
    · subst h
      right
      refine ⟨0, e, rfl, hm, ?_, by rw [hf, if_pos rfl]; rfl, fun k hk => by omega⟩
      simp [lookN, isKeyN, hm]
    · have hm' : ¬ (m : Int) = n := by omega
      have hne : ¬ e.key = .int .i64 n := by rw [hm]; intro e1; injection e1 with _ e2; omega
      have hl : lookN n (e :: l) = lookN n l := by simp [lookN, isKeyN, hm, hm', Int.ofNat_inj]
      rw [hl, hf, if_neg (by omega)]
      rcases find_n n l (i + 1) fun y hy => hk y (by simp [hy]) with ⟨h1, h2⟩ | ⟨j, x, h1, h2, h3, h4, h5⟩
      · exact .inl ⟨h1, h2⟩
      · refine .inr ⟨j + 1, x, h1, h2, h3, by rw [h4]; congr 3; omega, fun k hk y hy => ?_⟩
        cases k with
        | zero => simp at hy; subst hy; exact hne
        | succ k => exact h5 k (by omega) y hy

/-- A map of numbers in a block. -/
def MapN (w : World) (b : Nat) (f : Nat → Option Value) : Prop := ∃ ents clock, w.heap[b]? = some (.map ents clock) ∧ KeysN ents.toList ∧ ∀ n, lookN n ents.toList = f n
theorem MapN.calm {w w' : World} {b : Nat} {f : Nat → Option Value} (h : MapN w b f) (hk : Kept none' w w') : MapN w' b f := by
  obtain ⟨e, c, h1, h2, h3⟩ := h
  exact ⟨e, c, hk.has h1 (fun h => h), h2, h3⟩
theorem MapN.keep {S : Nat → Prop} {w w' : World} {b : Nat} {f : Nat → Option Value} (h : MapN w b f) (hk : Kept S w w') (hb : ¬ S b) : MapN w' b f := by
  obtain ⟨e, c, h1, h2, h3⟩ := h
  exact ⟨e, c, hk.has h1 hb, h2, h3⟩
theorem MapN.lt {w : World} {b : Nat} {f : Nat → Option Value} (h : MapN w b f) : b < w.heap.size := by
  obtain ⟨e, c, h1, h2, h3⟩ := h
  exact blk_lt h1
theorem mapN_new (w : World) : MapN (w.alloc (.map #[] 0)) w.heap.size fun _ => none := ⟨#[], 0, hp_new _ _, fun e h => by simp at h, fun n => rfl⟩
theorem run_mkm {P : Program} {t : TypeId} (w : World) : ((Tag.mkm t).sem []).run P w = .ok (.map (some w.heap.size)) (w.alloc (.map #[] 0)) := by
  simp [Tag.sem, Instr.makeMap]
theorem run_look {P : Program} {t kt e : TypeId} {z : Value} {w : World} {b n : Nat} {f : Nat → Option Value} (g1 : P.underlying t = some (.map kt e)) (g2 : P.underlying kt = some (.int .i64)) (g3 : (P.info? e).bind (·.zero) = some z) (h : MapN w b f) :
    ((Tag.look t false).sem [.map (some b), .int .i64 n]).run P w = .ok ((f n).getD z) w := by
  obtain ⟨ents, clock, q1, q2, q3⟩ := h
  have hkey : ∀ b, (Instr.checkKey b 10000 kt (.int .i64 n)).run P w = .ok () w := fun b => MapKept.run_checkKey g2 (by simp [MapKept.IsKey]) b 9999
  have hzero : (zeroValue e).run P w = .ok z w := by
    cases hi : P.info? e with
    | none => rw [hi] at g3; cases g3
    | some i => rw [hi] at g3; simp [zeroValue, run_info hi, show i.zero = some z from g3]
  rw [← q3 n]
  rcases find_n n ents.toList 0 q2 with ⟨h1, h2⟩ | ⟨j, x, h1, h2, h3, h4, h5⟩
  · have hf : (Instr.findKey kt (.int .i64 n) ents.toList).run P w = .ok none w := MapKept.run_findKey g2 h2
    rw [h1]
    simp [Tag.sem, Instr.lookup, run_underlying g1, MapKept.run_getObj_map q1, hkey, hf, hzero]
  · have hf : (Instr.findKey kt (.int .i64 n) ents.toList).run P w = .ok (some (0 + j, x.val)) w := MapKept.run_findKey g2 h4
    rw [h3]
    simp [Tag.sem, Instr.lookup, run_underlying g1, MapKept.run_getObj_map q1, hkey, hf]
theorem lookN_app (n : Nat) : ∀ (l : List MapEntry) (e : MapEntry), lookN n l = none → lookN n (l ++ [e]) = if isKeyN n e.key = true then some e.val else none
  | [], e, _ => rfl
  | x :: l, e, h => by
    simp only [lookN] at h
    split at h
    · cases h
    · rename_i h1
      show (if isKeyN n x.key = true then some x.val else lookN n (l ++ [e])) = _
      rw [if_neg h1, lookN_app n l e h]
theorem lookN_app' (n : Nat) : ∀ (l : List MapEntry) (e : MapEntry), isKeyN n e.key = false → lookN n (l ++ [e]) = lookN n l
  | [], e, h => by simp [lookN, h]
  | x :: l, e, h => by
    show (if isKeyN n x.key = true then some x.val else lookN n (l ++ [e])) = (if isKeyN n x.key = true then some x.val else lookN n l)
    rw [lookN_app' n l e h]
theorem lookN_mod (n m : Nat) (v : Value) : ∀ (l : List MapEntry) (j : Nat) (x : MapEntry), l[j]? = some x → x.key = .int .i64 n → (∀ k, k < j → ∀ y, l[k]? = some y → y.key ≠ .int .i64 n) → KeysN l →
    lookN m (l.modify j fun e => { e with key := .int .i64 n, val := v }) = if m = n then some v else lookN m l
  | [], j, x, h, _, _, _ => by simp at h
  | y :: l, 0, x, h, hx, _, hk => by
    simp at h
    subst h
    show (if isKeyN m (.int .i64 n) = true then some v else lookN m l) = if m = n then some v else (if isKeyN m y.key = true then some y.val else lookN m l)
    rw [hx]
    have e1 : isKeyN m (.int .i64 (n : Int)) = decide (m = n) := by
      show decide ((n : Int) = m) = _
      by_cases h : m = n
      · subst h; simp
      · have : ¬ (n : Int) = m := by omega
        rw [decide_eq_false this, decide_eq_false h]
    rw [e1]
    by_cases h : m = n <;> simp [h]
  | y :: l, j + 1, x, h, hx, hb, hk => by
    have ih := lookN_mod n m v l j x (by simpa using h) hx (fun k hkj z hz => hb (k + 1) (by omega) z (by simpa using hz)) fun e he => hk e (by simp [he])
    show (if isKeyN m y.key = true then some y.val else lookN m (l.modify j _)) = if m = n then some v else (if isKeyN m y.key = true then some y.val else lookN m l)
    rw [ih]
    obtain ⟨q, hq⟩ := hk y (by simp)
    have hyn := hb 0 (by omega) y rfl
    rw [hq] at hyn ⊢
    have e1 : isKeyN m (.int .i64 (q : Int)) = decide (q = m) := by
      show decide ((q : Int) = m) = _
      by_cases h : q = m
      · subst h; simp
      · have : ¬ (q : Int) = m := by omega
        rw [decide_eq_false this, decide_eq_false h]
    rw [e1]
    by_cases h1 : m = n
    · subst h1
      have : ¬ q = m := fun e => hyn (by rw [e])
      simp [this]
    · by_cases h2 : q = m <;> simp [h1, h2]
def fput (f : Nat → Option Value) (n : Nat) (v : Value) : Nat → Option Value := fun m => if m = n then some v else f m
theorem run_mapupd {P : Program} {t kt e : TypeId} {w : World} {b n : Nat} {v : Value} {f : Nat → Option Value} (g1 : P.underlying t = some (.map kt e)) (g2 : P.underlying kt = some (.int .i64)) (h : MapN w b f) :
    ∃ w', ((Tag.upd t).sem [.map (some b), .int .i64 n, v]).run P w = .ok undef w' ∧ MapN w' b (fput f n v) ∧ Kept (fun j => j = b) w w' := by
  obtain ⟨ents, clock, q1, q2, q3⟩ := h
  have hkey : (Instr.checkKey false 10000 kt (.int .i64 n)).run P w = .ok () w := MapKept.run_checkKey g2 (by simp [MapKept.IsKey]) false 9999
  have hb := blk_lt q1
  rcases find_n n ents.toList 0 q2 with ⟨h1, h2⟩ | ⟨j, x, h1, h2, h3, h4, h5⟩
  · have hf : (Instr.findKey kt (.int .i64 n) ents.toList).run P w = .ok none w := MapKept.run_findKey g2 h2
    refine ⟨put w b (.map (ents.push { key := .int .i64 n, val := v, born := clock }) (clock + 1)), ?_, ⟨_, _, put_same hb, ?_, fun m => ?_⟩, (Kept.refl (fun j => j = b) w).put (b := b) (fun _ => rfl) _⟩
    · simp [Tag.sem, Instr.mapUpdate, run_underlying g1, MapKept.run_getObj_map q1, hkey, hf, MapKept.run_setObj_map _ q1]
      rfl
    · intro e he
      rw [Array.toList_push] at he
      rcases List.mem_append.1 he with he | he
      · exact q2 e he
      · simp at he; subst he; exact ⟨n, rfl⟩
    · rw [Array.toList_push]
      unfold fput
      by_cases hm : m = n
      · subst hm
        rw [lookN_app _ _ _ h1]
        simp [isKeyN]
      · rw [lookN_app' _ _ _ (by simp [isKeyN]; omega), q3, if_neg hm]
  · have hf : (Instr.findKey kt (.int .i64 n) ents.toList).run P w = .ok (some (0 + j, x.val)) w := MapKept.run_findKey g2 h4
    have hj : ents[j]? = some x := by rw [← Array.getElem?_toList]; exact h1
    have hstay : (Instr.keyThatStays (.int .i64 n) (.int .i64 n)).run P w = .ok (.int .i64 n) w := by
      simp [Instr.keyThatStays, Instr.sameBits]
    refine ⟨put w b (.map (ents.modify j fun e => { e with key := .int .i64 n, val := v }) clock), ?_, ⟨_, _, put_same hb, ?_, fun m => ?_⟩, (Kept.refl (fun j => j = b) w).put (b := b) (fun _ => rfl) _⟩
    · simp [Tag.sem, Instr.mapUpdate, run_underlying g1, MapKept.run_getObj_map q1, hkey, hf, MapKept.run_setObj_map _ q1, hj, h2, hstay]
      rfl
    · intro e he
      rw [Array.toList_modify] at he
      obtain ⟨i, hi⟩ := List.mem_iff_getElem?.1 he
      rw [List.getElem?_modify] at hi
      cases hei : ents.toList[i]? with
      | none => rw [hei] at hi; simp at hi
      | some y =>
        rw [hei] at hi
        simp at hi
        subst hi
        split
        · exact ⟨n, rfl⟩
        · exact q2 y (List.mem_of_getElem? hei)
    · rw [Array.toList_modify, lookN_mod n m v _ j x h1 h2 h5 q2, q3]
      rfl
end Go.Eng

set_option linter.unusedSimpArgs false
set_option linter.unusedVariables false
set_option maxRecDepth 8000
namespace Go.Proofs.YtkgpmjjleemdlaaGreat
open Go.Eng
attribute [local irreducible] Go.Eng.W

/-! Rows of elements of so many cells. -/
theorem flat_at {k : Nat} : ∀ (L : List (List Value)) (i : Nat) (l : List Value), (∀ y ∈ L, y.length = k) → L[i]? = some l → (L.flatten.drop (i * k)).take k = l
  | [], i, l, _, h => by simp at h
  | y :: L, 0, l, hk, h => by
    simp at h
    subst h
    have := hk y (by simp)
    simp [this]
  | y :: L, i + 1, l, hk, h => by
    have h1 := hk y (by simp)
    have e : (i + 1) * k = y.length + i * k := by rw [h1, Nat.succ_mul]; omega
    rw [List.flatten_cons, e, List.drop_append]
    simp only [Nat.add_sub_cancel_left]
    rw [List.drop_eq_nil_of_le (by omega), List.nil_append]
    exact flat_at L i l (fun y hy => hk y (by simp [hy])) (by simpa using h)
theorem flat_len {k : Nat} : ∀ (L : List (List Value)), (∀ y ∈ L, y.length = k) → L.flatten.length = L.length * k
  | [], _ => by simp
  | y :: L, hk => by
    rw [List.flatten_cons, List.length_append, hk y (by simp), flat_len L (fun y hy => hk y (by simp [hy])), List.length_cons, Nat.succ_mul]
    omega
theorem row_wrow {T : TypeId} {k n : Nat} {w : World} {v : Value} {L : List (List Value)} (h : Row T k w v n L.flatten) (hk : ∀ y ∈ L, y.length = k) (hn : L.length = n) {i : Nat} {l : List Value} (hi : L[i]? = some l) :
    ∃ g c, v = .slice (some ⟨g, 0, none⟩) n c ∧ wrow w g (i * k) k = some l.toArray := by
  have hlt : i < L.length := (List.getElem?_eq_some_iff.1 hi).1
  rcases h.2 with ⟨_, h0⟩ | ⟨g, cap, cur, rfl, hb, h2, h3, h4, h5, h6⟩
  · omega
  · refine ⟨g, cap, rfl, ?_⟩
    have h7 : (i + 1) * k ≤ n * k := Nat.mul_le_mul_right _ (by omega)
    have h8 : n * k ≤ cap * k := Nat.mul_le_mul_right _ h3
    rw [Nat.succ_mul] at h7
    rw [wrow_of h2 (by omega)]
    congr 1
    apply Array.ext_getElem?
    intro j
    have := flat_at L i l hk hi
    rw [← this, ← h6, Array.getElem?_extract]
    show _ = (List.take k (List.drop (i * k) (List.take (n * k) cur.toList))).toArray[j]?
    simp only [List.getElem?_toArray, List.getElem?_take, List.getElem?_drop]
    by_cases hj : j < k
    · rw [if_pos (by omega), if_pos hj, if_pos (by omega)]; simp
    · rw [if_neg (by omega), if_neg hj]

def stCells (ss : List AState) : List (List Value) := ss.map fun s => s.arr.toList
def StatesAt (w : World) (v : Value) (ss : List AState) : Prop := Row 73 273 w v ss.length (stCells ss).flatten
theorem stCells_len (ss : List AState) : ∀ y ∈ stCells ss, y.length = 273 := by
  intro y hy
  obtain ⟨s, _, rfl⟩ := List.mem_map.1 hy
  simp
theorem StatesAt.at {w : World} {v : Value} {ss : List AState} (h : StatesAt w v ss) {i : Nat} {s : AState} (hi : ss[i]? = some s) : ∃ g c, v = .slice (some ⟨g, 0, none⟩) ss.length c ∧ wrow w g (i * 273) 273 = some s.arr := by
  have := row_wrow h (stCells_len ss) (by simp [stCells]) (i := i) (l := s.arr.toList) (by simp [stCells, hi])
  simpa using this
theorem states_nil (w : World) : StatesAt w (.slice none 0 0) [] := row_nil _ _ _

theorem specs_none (w : World) (g : FuncId) : Ret Tryz.prog 16 [.slice none 0 0, .func (.func g) #[] #[]] w fun r w' => r = .bool false ∧ Kept none' w w' := by
  have hi : ∀ w, Ret Tryz.prog 33 [.slice none 0 0, .func (.func g) #[] #[]] w fun r w' => r = .int .i64 (-1) ∧ Kept none' w w' := by
    intro w
    refine ret_of_W Tryz.func33 rfl ok_vf_IndexFunc ?_
    simp only [c_vf_IndexFunc, W_seq, W_set]
    refine ok_intro (.int .i64 0) (by simp) ?_
    try simp only [W_seq, W_set]
    refine ok_intro (.int .i64 0) (by simp) ?_
    try simp only [W_seq, W_set]
    refine ok_intro (.int .i64 0) (by simp) ?_
    try simp only [W_seq]
    rw [W_block]
    refine W_loop (fun env w' => w' = w ∧ env = [.slice none 0 0, .func (.func g) #[] #[], undef, .int .i64 0, .int .i64 0, undef, undef]) (fun env _ => 0) ?_ ?_
    · exact ⟨rfl, by simp⟩
    rintro env w1 ⟨rfl, rfl⟩
    simp only [W_seq]
    refine W_no (by simp) ?_
    simp
    exact Kept.refl _ _
  refine ret_of_W Tryz.func16 rfl ok_vf_ContainsFunc ?_
  simp only [c_vf_ContainsFunc, W_seq, W_set]
  refine ok_intro (.bool false) (by simp) ?_
  try simp only [W_seq]
  refine W_calm (by simp) (hi w) ?_
  intro w1 hk1
  simp
  exact hk1

/-- The checker, as it lies in its block. -/
structure ChkAt (w : World) (cb : Nat) (l specs frozen : Value) (priv : Bool) (left : Value) (mb : Nat) (ids : Int) : Prop where
  box : w.heap[cb]? = some (.cells #[l, specs, frozen, .bool priv, left, .map (some mb), .int .i64 ids] 62 (0, 0))
theorem ChkAt.calm {w w' : World} {cb : Nat} {l specs frozen : Value} {priv : Bool} {left : Value} {mb : Nat} {ids : Int} (h : ChkAt w cb l specs frozen priv left mb ids) (hk : Kept none' w w') : ChkAt w' cb l specs frozen priv left mb ids := ⟨hk.has h.box fun h => h⟩
theorem ChkAt.keep {S : Nat → Prop} {w w' : World} {cb : Nat} {l specs frozen : Value} {priv : Bool} {left : Value} {mb : Nat} {ids : Int} (h : ChkAt w cb l specs frozen priv left mb ids) (hk : Kept S w w') (hS : ¬ S cb) : ChkAt w' cb l specs frozen priv left mb ids := ⟨hk.has h.box hS⟩
/-- What was seen of a place: states, in rows of their own. -/
def SeenAt (w : World) (f : Nat → Option Value) (n : Nat) (ss : List AState) : Prop := StatesAt w ((f n).getD (.slice none 0 0)) ss
end Go.Proofs.YtkgpmjjleemdlaaGreat

