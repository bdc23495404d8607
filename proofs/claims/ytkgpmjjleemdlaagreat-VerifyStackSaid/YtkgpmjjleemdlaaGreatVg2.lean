/- Layer 15: what a jump tells of ranges, part one. -/
import Derived.Test.YtkgpmjjleemdlaaGreatVg1
set_option linter.unusedSimpArgs false
set_option linter.unusedVariables false
set_option maxRecDepth 8000
namespace Go.Proofs.YtkgpmjjleemdlaaGreat
open Go.Eng Go.Sort

/-- Two ranges. -/
structure Pr where
  a : Rng
  b : Rng
@[simp] def Pr.arr (p : Pr) : Array Value := #[.int .u64 p.a.b.v, .int .u64 p.a.b.m, .int .u64 p.a.lo, .int .u64 p.a.hi, .int .i64 p.a.sl, .int .i64 p.a.sh, .int .u64 p.b.b.v, .int .u64 p.b.b.m, .int .u64 p.b.lo, .int .u64 p.b.hi, .int .i64 p.b.sl, .int .i64 p.b.sh]
@[simp] def Pr.val (p : Pr) : Value := .agg p.arr
def Pr.zero : Pr := ⟨Rng.zero, Rng.zero⟩
def Pr.wf (p : Pr) : Prop := p.a.wf ∧ p.b.wf
@[simp] def outP (r : Pr × Bool) : Value := .tuple #[r.1.val, .bool r.2]
@[simp] theorem ost_pa (c0 c1 c2 c3 c4 c5 c6 c7 c8 c9 ca cb : Value) (a : Rng) : ostC #[c0, c1, c2, c3, c4, c5, c6, c7, c8, c9, ca, cb] 6 0 (.agg #[.int .u64 a.b.v, .int .u64 a.b.m, .int .u64 a.lo, .int .u64 a.hi, .int .i64 a.sl, .int .i64 a.sh]) = some #[.int .u64 a.b.v, .int .u64 a.b.m, .int .u64 a.lo, .int .u64 a.hi, .int .i64 a.sl, .int .i64 a.sh, c6, c7, c8, c9, ca, cb] := by simp [ostC, Value.oneCell']
@[simp] theorem ost_pb (c0 c1 c2 c3 c4 c5 c6 c7 c8 c9 ca cb : Value) (a : Rng) : ostC #[c0, c1, c2, c3, c4, c5, c6, c7, c8, c9, ca, cb] 6 6 (.agg #[.int .u64 a.b.v, .int .u64 a.b.m, .int .u64 a.lo, .int .u64 a.hi, .int .i64 a.sl, .int .i64 a.sh]) = some #[c0, c1, c2, c3, c4, c5, .int .u64 a.b.v, .int .u64 a.b.m, .int .u64 a.lo, .int .u64 a.hi, .int .i64 a.sl, .int .i64 a.sh] := by simp [ostC, Value.oneCell']
@[simp] theorem ost_pab (c0 c1 c2 c3 c4 c5 c6 c7 c8 c9 ca cb : Value) (v m : Int) : ostC #[c0, c1, c2, c3, c4, c5, c6, c7, c8, c9, ca, cb] 2 0 (.agg #[.int .u64 v, .int .u64 m]) = some #[.int .u64 v, .int .u64 m, c2, c3, c4, c5, c6, c7, c8, c9, ca, cb] := by simp [ostC, Value.oneCell']
@[simp] theorem ost_pbb (c0 c1 c2 c3 c4 c5 c6 c7 c8 c9 ca cb : Value) (v m : Int) : ostC #[c0, c1, c2, c3, c4, c5, c6, c7, c8, c9, ca, cb] 2 6 (.agg #[.int .u64 v, .int .u64 m]) = some #[c0, c1, c2, c3, c4, c5, .int .u64 v, .int .u64 m, c8, c9, ca, cb] := by simp [ostC, Value.oneCell']

def oppOf (op : Nat) : Nat := if op = 1 then 5 else if op = 5 then 1 else if op = 2 then 11 else if op = 11 then 2 else if op = 10 then 3 else if op = 3 then 10 else if op = 6 then 13 else if op = 13 then 6 else if op = 12 then 7 else if op = 7 then 12 else 0
set_option maxHeartbeats 4000000 in
theorem opp_T (w0 : World) (op : Nat) : T Tryz.prog w0 176 [.int .i64 op] = some (.int .i64 (oppOf op)) :=
  T_of (by kernel_rfl) Tryz.func176 rfl ok_branch_opposite (by simp) (by simp) fun B hB => by
    unfold oppOf
    by_cases h1 : op = 1
    · subst h1; simp [c_branch_opposite, C_cond_eq]
    by_cases h5 : op = 5
    · subst h5; simp [c_branch_opposite, C_cond_eq]
    by_cases h2 : op = 2
    · subst h2; simp [c_branch_opposite, C_cond_eq]
    by_cases hb : op = 11
    · subst hb; simp [c_branch_opposite, C_cond_eq]
    by_cases ha : op = 10
    · subst ha; simp [c_branch_opposite, C_cond_eq]
    by_cases h3 : op = 3
    · subst h3; simp [c_branch_opposite, C_cond_eq]
    by_cases h6 : op = 6
    · subst h6; simp [c_branch_opposite, C_cond_eq]
    by_cases hd : op = 13
    · subst hd; simp [c_branch_opposite, C_cond_eq]
    by_cases hc : op = 12
    · subst hc; simp [c_branch_opposite, C_cond_eq]
    by_cases h7 : op = 7
    · subst h7; simp [c_branch_opposite, C_cond_eq]
    have k : ∀ n : Nat, op ≠ n → ¬ (op : Int) = n := fun n h e => h (by omega)
    simp [c_branch_opposite, C_cond_eq, h1, h5, h2, hb, ha, h3, h6, hd, hc, h7, k 1 h1, k 5 h5, k 2 h2, k 11 hb, k 10 ha, k 3 h3, k 6 h6, k 13 hd, k 12 hc, k 7 h7, ci_eq]
def psettle (p : Pr) : Pr × Bool := (⟨(settleOf p.a).1, (settleOf p.b).1⟩, (settleOf p.a).2 && (settleOf p.b).2)
theorem psettle_T (w0 : World) (p : Pr) : T Tryz.prog w0 171 [p.val] = some (outP (psettle p)) :=
  T_of (by kernel_rfl) Tryz.func171 rfl ok_branch_pair_settle (by simp) (by simp) fun B hB => by
    have e1 := settle_T w0 p.a
    have e2 := settle_T w0 p.b
    simp at e1 e2
    simp [c_branch_pair_settle, e1, e2, rowOf, psettle, pickV_bool]
def pswap (p : Pr) : Pr := ⟨p.b, p.a⟩
theorem pswap_T (w0 : World) (p : Pr) : T Tryz.prog w0 194 [p.val] = some (pswap p).val :=
  T_of (by kernel_rfl) Tryz.func194 rfl ok_branch_pair_swapped (by simp) (by simp) fun B hB => by
    simp [c_branch_pair_swapped, rowOf, pswap]
def meetR (p : Pr) : Rng := ⟨(tMeet p.a.b p.b.b).1, mxI p.a.lo p.b.lo, mnI p.a.hi p.b.hi, mxI p.a.sl p.b.sl, mnI p.a.sh p.b.sh⟩
def sameP (p : Pr) : Pr × Bool := if (tMeet p.a.b p.b.b).2 = true then psettle ⟨meetR p, meetR p⟩ else (Pr.zero, false)
theorem same_TP (w0 : World) (p : Pr) : T Tryz.prog w0 186 [p.val] = some (outP (sameP p)) :=
  T_of (by kernel_rfl) Tryz.func186 rfl ok_branch_same (by simp) (by simp) fun B hB => by
    have e1 := tmeet_T w0 p.a.b p.b.b
    have e2 := psettle_T w0 ⟨meetR p, meetR p⟩
    simp [meetR, mxI, mnI] at e1 e2
    unfold sameP
    cases h : (tMeet p.a.b p.b.b).2 with
    | true =>
      rw [h] at e1
      simp [c_branch_same, C_cond_eq, C_alt, e1, e2, rowOf, meetR, mxI, mnI]
    | false =>
      rw [h] at e1
      simp [c_branch_same, C_cond_eq, C_alt, e1, rowOf, Pr.zero, Rng.zero]
theorem one_TR (w0 : World) (a : Rng) : T Tryz.prog w0 192 [a.val] = some (.bool (decide (a.lo = a.hi))) :=
  T_of (by kernel_rfl) Tryz.func192 rfl ok_branch_one (by simp) (by simp) fun B hB => by
    simp [c_branch_one]
def withoutR (a : Rng) (x : Int) : Rng × Bool :=
  if a.lo = x ∧ x = 18446744073709551615 ∨ a.hi = x ∧ x = 0 then (Rng.zero, false)
  else if (if a.hi = x then w64 (x - 1) else a.hi) < (if a.lo = x then w64 (x + 1) else a.lo) then (Rng.zero, false)
  else ({ a with lo := if a.lo = x then w64 (x + 1) else a.lo, hi := if a.hi = x then w64 (x - 1) else a.hi }, true)
set_option maxHeartbeats 4000000 in
theorem without_T (w0 : World) (a : Rng) (x : Int) : T Tryz.prog w0 193 [a.val, .int .u64 x] = some (.tuple #[(withoutR a x).1.val, .bool (withoutR a x).2]) :=
  T_of (by kernel_rfl) Tryz.func193 rfl ok_branch_without (by simp) (by simp) fun B hB => by
    unfold withoutR
    by_cases h1 : a.lo = x
    · by_cases h2 : x = 18446744073709551615
      · simp [c_branch_without, C_cond_eq, h1, h2, Rng.zero]
      · by_cases h3 : a.hi = x
        · by_cases h4 : x = 0
          · subst h4
            simp [c_branch_without, C_cond_eq, h1, h2, h3, Rng.zero]
          · by_cases h5 : w64 (x - 1) < w64 (x + 1)
            · simp [c_branch_without, C_cond_eq, h1, h2, h3, h4, h5, Rng.zero]
            · simp [c_branch_without, C_cond_eq, h1, h2, h3, h4, h5, Rng.zero]
        · by_cases h5 : a.hi < w64 (x + 1)
          · simp [c_branch_without, C_cond_eq, h1, h2, h3, h5, Rng.zero]
          · simp [c_branch_without, C_cond_eq, h1, h2, h3, h5, Rng.zero]
    · by_cases h3 : a.hi = x
      · by_cases h4 : x = 0
        · subst h4
          simp [c_branch_without, C_cond_eq, h1, h3, Rng.zero]
        · by_cases h5 : w64 (x - 1) < a.lo
          · simp [c_branch_without, C_cond_eq, h1, h3, h4, h5, Rng.zero]
          · simp [c_branch_without, C_cond_eq, h1, h3, h4, h5, Rng.zero]
      · by_cases h5 : a.hi < a.lo
        · simp [c_branch_without, C_cond_eq, h1, h3, h5, Rng.zero]
        · simp [c_branch_without, C_cond_eq, h1, h3, h5, Rng.zero]
end Go.Proofs.YtkgpmjjleemdlaaGreat

set_option linter.unusedSimpArgs false
set_option linter.unusedVariables false
set_option maxRecDepth 8000
namespace Go.Proofs.YtkgpmjjleemdlaaGreat
open Go.Eng Go.Sort

def oneP (b : Rng) (a : Rng) : Rng × Bool := if b.lo = b.hi then withoutR a b.lo else (a, true)
def otherP (p : Pr) : Pr × Bool :=
  if (oneP p.b p.a).2 = true then (if (oneP (oneP p.b p.a).1 p.b).2 = true then psettle ⟨(oneP p.b p.a).1, (oneP (oneP p.b p.a).1 p.b).1⟩ else (Pr.zero, false)) else (Pr.zero, false)
set_option maxHeartbeats 8000000 in
theorem other_T (w0 : World) (p : Pr) : T Tryz.prog w0 187 [p.val] = some (outP (otherP p)) :=
  T_of (by kernel_rfl) Tryz.func187 rfl ok_branch_other (by simp) (by simp) fun B hB => by
    have o1 := one_TR w0 p.b
    have e1 := without_T w0 p.a p.b.lo
    have o2 := one_TR w0 (oneP p.b p.a).1
    have e2 := without_T w0 p.b (oneP p.b p.a).1.lo
    have e3 := psettle_T w0 ⟨(oneP p.b p.a).1, (oneP (oneP p.b p.a).1 p.b).1⟩
    unfold otherP
    by_cases h1 : p.b.lo = p.b.hi
    · have q1 : oneP p.b p.a = withoutR p.a p.b.lo := by unfold oneP; rw [if_pos h1]
      rw [q1] at o2 e2 e3 ⊢
      have o1 : T Tryz.prog w0 192 [p.b.val] = some (.bool true) := by rw [o1]; simp [h1]
      cases h2 : (withoutR p.a p.b.lo).2 with
      | false =>
        rw [h2] at e1
        simp at o1 e1
        simp [c_branch_other, C_cond_eq, o1, e1, rowOf, pickV_bool, Pr.zero, Rng.zero]
      | true =>
        rw [h2] at e1
        by_cases h3 : (withoutR p.a p.b.lo).1.lo = (withoutR p.a p.b.lo).1.hi
        · have q2 : oneP (withoutR p.a p.b.lo).1 p.b = withoutR p.b (withoutR p.a p.b.lo).1.lo := by unfold oneP; rw [if_pos h3]
          rw [q2] at e3 ⊢
          have o2 : T Tryz.prog w0 192 [(withoutR p.a p.b.lo).1.val] = some (.bool true) := by rw [o2]; simp [h3]
          cases h4 : (withoutR p.b (withoutR p.a p.b.lo).1.lo).2 with
          | false =>
            rw [h4] at e2
            simp at o1 e1 o2 e2
            simp [c_branch_other, C_cond_eq, o1, e1, o2, e2, rowOf, pickV_bool, Pr.zero, Rng.zero]
          | true =>
            rw [h4] at e2
            simp at o1 e1 o2 e2 e3
            simp [c_branch_other, C_cond_eq, o1, e1, o2, e2, e3, rowOf, pickV_bool]
        · have q2 : oneP (withoutR p.a p.b.lo).1 p.b = (p.b, true) := by unfold oneP; rw [if_neg h3]
          rw [q2] at e3 ⊢
          have o2 : T Tryz.prog w0 192 [(withoutR p.a p.b.lo).1.val] = some (.bool false) := by rw [o2]; simp [h3]
          simp at o1 e1 o2 e3
          simp [c_branch_other, C_cond_eq, o1, e1, o2, e3, rowOf, pickV_bool]
    · have q1 : oneP p.b p.a = (p.a, true) := by unfold oneP; rw [if_neg h1]
      rw [q1] at o2 e2 e3 ⊢
      have o1 : T Tryz.prog w0 192 [p.b.val] = some (.bool false) := by rw [o1]; simp [h1]
      by_cases h3 : p.a.lo = p.a.hi
      · have q2 : oneP p.a p.b = withoutR p.b p.a.lo := by unfold oneP; rw [if_pos h3]
        simp only at o2 e2 e3 ⊢
        rw [q2] at e3 ⊢
        have o2 : T Tryz.prog w0 192 [p.a.val] = some (.bool true) := by rw [o2]; simp [h3]
        cases h4 : (withoutR p.b p.a.lo).2 with
        | false =>
          rw [h4] at e2
          simp at o1 o2 e2
          simp [c_branch_other, C_cond_eq, o1, o2, e2, rowOf, pickV_bool, Pr.zero, Rng.zero]
        | true =>
          rw [h4] at e2
          simp at o1 o2 e2 e3
          simp [c_branch_other, C_cond_eq, o1, o2, e2, e3, rowOf, pickV_bool]
      · have q2 : oneP p.a p.b = (p.b, true) := by unfold oneP; rw [if_neg h3]
        simp only at o2 e2 e3 ⊢
        rw [q2] at e3 ⊢
        have o2 : T Tryz.prog w0 192 [p.a.val] = some (.bool false) := by rw [o2]; simp [h3]
        simp at o1 o2 e3
        simp [c_branch_other, C_cond_eq, o1, o2, e3, rowOf, pickV_bool]
def mor (s : Bool) : Int := if s = true then 1 else 0
def greaterP (p : Pr) (s : Bool) : Pr × Bool :=
  if s = true ∧ (p.b.lo = 18446744073709551615 ∨ p.a.hi = 0) then (Pr.zero, false)
  else psettle ⟨{ p.a with lo := mxI p.a.lo (w64 (p.b.lo + mor s)) }, { p.b with hi := mnI p.b.hi (w64 (p.a.hi - mor s)) }⟩
def sGreaterP (p : Pr) (s : Bool) : Pr × Bool :=
  if s = true ∧ (p.b.sl = 9223372036854775807 ∨ p.a.sh = -9223372036854775808) then (Pr.zero, false)
  else psettle ⟨{ p.a with sl := mxI p.a.sl (i64 (p.b.sl + mor s)) }, { p.b with sh := mnI p.b.sh (i64 (p.a.sh - mor s)) }⟩
set_option maxHeartbeats 4000000 in
theorem greater_T (w0 : World) (p : Pr) (s : Bool) : T Tryz.prog w0 188 [p.val, .bool s] = some (outP (greaterP p s)) :=
  T_of (by kernel_rfl) Tryz.func188 rfl ok_branch_greater (by simp) (by simp) fun B hB => by
    have e := psettle_T w0 ⟨{ p.a with lo := mxI p.a.lo (w64 (p.b.lo + mor s)) }, { p.b with hi := mnI p.b.hi (w64 (p.a.hi - mor s)) }⟩
    unfold greaterP
    cases s with
    | true =>
      simp [mor, mxI, mnI] at e
      by_cases h : p.b.lo = 18446744073709551615 ∨ p.a.hi = 0
      · rw [if_pos ⟨rfl, h⟩]
        have hb : (decide (p.b.lo = 18446744073709551615) || decide (p.a.hi = 0)) = true := by simpa using h
        simp [c_branch_greater, C_cond_eq, pickV_bool, hb, Pr.zero, Rng.zero]
      · rw [if_neg (fun e => h e.2)]
        have hb : (decide (p.b.lo = 18446744073709551615) || decide (p.a.hi = 0)) = false := by simpa using h
        simp [c_branch_greater, C_cond_eq, pickV_bool, hb, e, mor, mxI, mnI]
    | false =>
      simp [mor, mxI, mnI] at e
      simp [c_branch_greater, C_cond_eq, pickV_bool, e, mor, mxI, mnI]
set_option maxHeartbeats 4000000 in
theorem sgreater_T (w0 : World) (p : Pr) (s : Bool) : T Tryz.prog w0 190 [p.val, .bool s] = some (outP (sGreaterP p s)) :=
  T_of (by kernel_rfl) Tryz.func190 rfl ok_branch_sGreater (by simp) (by simp) fun B hB => by
    have e := psettle_T w0 ⟨{ p.a with sl := mxI p.a.sl (i64 (p.b.sl + mor s)) }, { p.b with sh := mnI p.b.sh (i64 (p.a.sh - mor s)) }⟩
    unfold sGreaterP
    cases s with
    | true =>
      simp [mor, mxI, mnI] at e
      by_cases h : p.b.sl = 9223372036854775807 ∨ p.a.sh = -9223372036854775808
      · rw [if_pos ⟨rfl, h⟩]
        have hb : (decide (p.b.sl = 9223372036854775807) || decide (p.a.sh = -9223372036854775808)) = true := by simpa using h
        simp [c_branch_sGreater, C_cond_eq, pickV_bool, hb, Pr.zero, Rng.zero]
      · rw [if_neg (fun e => h e.2)]
        have hb : (decide (p.b.sl = 9223372036854775807) || decide (p.a.sh = -9223372036854775808)) = false := by simpa using h
        simp [c_branch_sGreater, C_cond_eq, pickV_bool, hb, e, mor, mxI, mnI]
    | false =>
      simp [mor, mxI, mnI] at e
      simp [c_branch_sGreater, C_cond_eq, pickV_bool, e, mor, mxI, mnI]
end Go.Proofs.YtkgpmjjleemdlaaGreat

set_option linter.unusedSimpArgs false
set_option linter.unusedVariables false
set_option maxRecDepth 8000
namespace Go.Proofs.YtkgpmjjleemdlaaGreat
open Go.Eng Go.Sort
attribute [local irreducible] Go.Eng.W

def turnP (f : Pr → Bool → Pr × Bool) (p : Pr) (s : Bool) : Pr × Bool := (pswap (f (pswap p) s).1, (f (pswap p) s).2)
def PBox (w : World) (b : Nat) (p : Pr) : Prop := w.heap[b]? = some (.cells p.arr 205 (0, 0))
theorem PBox.row {w : World} {b : Nat} {p : Pr} (h : PBox w b p) : wrow w b 0 12 = some p.arr := wrow_box h rfl
theorem PBox.calm {w w' : World} {b : Nat} {p : Pr} (h : PBox w b p) (hk : Kept none' w w') : PBox w' b p := hk.has h fun h => h
theorem PBox.new (w : World) (p : Pr) : PBox (w.alloc (.cells p.arr 205)) w.heap.size p := hp_new w _
theorem PBox.set {w : World} {b : Nat} {p : Pr} (h : PBox w b p) (q : Pr) : stv w 12 (.pointer (some ⟨b, 0, none⟩)) q.val = some (Eng.put w b (.cells q.arr 205 (0, 0))) :=
  box_store (v := q.val) h rfl rfl (by simp [Value.cells, Value.oneCell'])
theorem PBox.put {w : World} {b : Nat} (h : b < w.heap.size) (p : Pr) : PBox (Eng.put w b (.cells p.arr 205 (0, 0))) b p := put_same h
set_option maxHeartbeats 4000000 in
theorem turned_ret (w : World) (p : Pr) (s : Bool) (g : FuncId) (f : Pr → Bool → Pr × Bool) (hg : funOk Tryz.prog g = true) (hf : ∀ w, T Tryz.prog w g [(pswap p).val, .bool s] = some (outP (f (pswap p) s))) :
    Ret Tryz.prog 189 [p.val, .func (.func g) #[] #[], .bool s] w fun r w' => r = outP (turnP f p s) ∧ Kept none' w w' := by
  refine ret_of_W Tryz.func189 rfl ok_branch_turned ?_
  simp only [c_branch_turned, W_seq]
  refine W_new' (v := p.val) (cs := p.arr) (by simp) rfl ?_
  have h5 := PBox.new w p
  have hk1 := (Kept.refl none' w).alloc (.cells p.arr 205)
  generalize hb5 : w.heap.size = b5 at *
  generalize (w.alloc (.cells p.arr 205)) = w1 at *
  try simp only [W_seq]
  refine W_new' (v := Pr.zero.val) (cs := Pr.zero.arr) (by simp [Pr.zero, Rng.zero]) rfl ?_
  have h3 := PBox.new w1 Pr.zero
  have hk2 := (Kept.refl none' w1).alloc (.cells Pr.zero.arr 205)
  have h52 := h5.calm hk2
  have hk02 := hk1.trans hk2
  have hb3 : w.heap.size ≤ w1.heap.size := hk1.size
  generalize (w1.alloc (.cells Pr.zero.arr 205)) = w2 at *
  generalize w1.heap.size = b3 at *
  clear h5 hk1 hk2
  simp only [W_seq, W_set]
  refine ok_intro (.bool false) (by simp) ?_
  try simp only [W_seq]
  refine W_chkIn [.func (.func g) #[] #[]] (by simp) ?_
  try simp only [W_seq]
  refine W_calm (vs := [p.val]) (by simp [h52.row]) (ret_of_T (pswap_T w2 p)) ?_
  intro w3 hk3
  have h33 := h3.calm hk3
  have hk03 := hk02.trans hk3
  try simp only [W_seq]
  refine W_dyn (g := g) (first := #[]) (cap := #[]) (vs := [(pswap p).val, .bool s]) (by simp) (by simp) hg (by simpa using ret_of_T (hf w3)) ?_
  rintro r w4 ⟨rfl, hk4⟩
  refine ⟨stab_nil _ _ _, ?_⟩
  have h34 := h33.calm hk4
  have hk04 := hk03.trans hk4
  unfold turnP
  generalize f (pswap p) s = q at *
  try simp only [W_seq]
  refine W_chkIn [.bool q.2, q.1.val] (by simp) ?_
  try simp only [W_seq]
  refine W_new' (v := Pr.zero.val) (cs := Pr.zero.arr) (by simp [Pr.zero, Rng.zero]) rfl ?_
  have h8 := PBox.new w4 Pr.zero
  have hk5 := (Kept.refl none' w4).alloc (.cells Pr.zero.arr 205)
  have h35 := h34.calm hk5
  have hk05 := hk04.trans hk5
  have hb8 : w.heap.size ≤ w4.heap.size := hk04.size
  have hlt : b3 < w4.heap.size := blk_lt h34
  generalize (w4.alloc (.cells Pr.zero.arr 205)) = w5 at *
  generalize w4.heap.size = b8 at *
  clear h33 h34 hk03 hk04 hk5 h3
  try simp only [W_seq]
  refine W_store (vv := q.1.val) (by simp) (by simp) (h8.set q.1) (stab_nil _ _ _) ?_
  have h86 := PBox.put (blk_lt h8) q.1
  have h36 : PBox _ b3 Pr.zero := (put_other (o := .cells q.1.arr 205) (w := w5) (show b3 ≠ b8 by omega)).trans h35
  have hk06 := hk05.putNew hb8 (.cells q.1.arr 205 (0, 0))
  generalize Eng.put w5 b8 (.cells q.1.arr 205 (0, 0)) = w6 at *
  simp only [W_seq, W_set]
  refine ok_intro (.bool q.2) (by simp) ?_
  try simp only [W_seq]
  refine W_calm (vs := [q.1.val]) (by simp [h86.row]) (ret_of_T (pswap_T w6 q.1)) ?_
  intro w7 hk7
  have h37 := h36.calm hk7
  have hk07 := hk06.trans hk7
  try simp only [W_seq]
  refine W_chkIn [.bool q.2] (by simp) ?_
  try simp only [W_seq]
  refine W_store (xv := .pointer (some ⟨b3, 0, none⟩)) (vv := (pswap q.1).val) (by simp) (by simp) (h37.set _) (stab_nil _ _ _) ?_
  have h38 := PBox.put (blk_lt h37) (pswap q.1)
  have hk08 := hk07.putNew hb3 (.cells (pswap q.1).arr 205 (0, 0))
  generalize Eng.put w7 b3 (.cells (pswap q.1).arr 205 (0, 0)) = w8 at *
  simp [h38.row]
  exact hk08
theorem ext_fun (n : Nat) (f : Fn) : Ext n (.func f #[] #[]) = True := eq_true (.func f _ _ _ _ rfl (fun i u v h => by simp at h) rfl (fun i u v h => by simp at h))
theorem turned_T (w0 : World) (p : Pr) (s : Bool) (g : FuncId) (f : Pr → Bool → Pr × Bool) (hg : funOk Tryz.prog g = true) (hf : ∀ w, T Tryz.prog w g [(pswap p).val, .bool s] = some (outP (f (pswap p) s))) :
    T Tryz.prog w0 189 [p.val, .func (.func g) #[] #[], .bool s] = some (outP (turnP f p s)) :=
  T_of_ret (by kernel_rfl) (by simp [ext_fun]) (by simp) fun w _ => turned_ret w p s g f hg hf
def whereP (op : Nat) (p : Pr) : Pr × Bool :=
  if op = 1 then sameP p else if op = 5 then otherP p else if op = 2 ∨ op = 3 then greaterP p (decide (op = 2)) else if op = 10 ∨ op = 11 then turnP greaterP p (decide (op = 10))
  else if op = 6 ∨ op = 7 then sGreaterP p (decide (op = 6)) else if op = 12 ∨ op = 13 then turnP sGreaterP p (decide (op = 12)) else psettle p
set_option maxHeartbeats 8000000 in
theorem where_T (w0 : World) (op : Nat) (p : Pr) : T Tryz.prog w0 177 [.int .i64 op, p.val] = some (outP (whereP op p)) :=
  T_of (by kernel_rfl) Tryz.func177 rfl ok_branch_where (by simp) (by simp) fun B hB => by
    have e1 := same_TP w0 p
    have e5 := other_T w0 p
    have e2 := greater_T w0 p
    have e10 := fun s => turned_T w0 p s 188 greaterP (by kernel_rfl) fun w => greater_T w _ s
    have e6 := sgreater_T w0 p
    have e12 := fun s => turned_T w0 p s 190 sGreaterP (by kernel_rfl) fun w => sgreater_T w _ s
    have e0 := psettle_T w0 p
    simp at e1 e5 e2 e10 e6 e12 e0
    unfold whereP
    by_cases h1 : op = 1
    · subst h1; simp [c_branch_where, C_cond_eq, e1]
    by_cases h5 : op = 5
    · subst h5; simp [c_branch_where, C_cond_eq, e5]
    by_cases h2 : op = 2
    · subst h2; simp [c_branch_where, C_cond_eq, e2]
    by_cases h3 : op = 3
    · subst h3; simp [c_branch_where, C_cond_eq, e2]
    by_cases ha : op = 10
    · subst ha; simp [c_branch_where, C_cond_eq, e10]
    by_cases hb : op = 11
    · subst hb; simp [c_branch_where, C_cond_eq, e10]
    by_cases h6 : op = 6
    · subst h6; simp [c_branch_where, C_cond_eq, e6]
    by_cases h7 : op = 7
    · subst h7; simp [c_branch_where, C_cond_eq, e6]
    by_cases hc : op = 12
    · subst hc; simp [c_branch_where, C_cond_eq, e12]
    by_cases hd : op = 13
    · subst hd; simp [c_branch_where, C_cond_eq, e12]
    have k : ∀ n : Nat, op ≠ n → ¬ (op : Int) = n := fun n h e => h (by omega)
    simp [c_branch_where, C_cond_eq, e0, h1, h5, h2, h3, ha, hb, h6, h7, hc, hd, k 1 h1, k 5 h5, k 2 h2, k 11 hb, k 10 ha, k 3 h3, k 6 h6, k 13 hd, k 12 hc, k 7 h7, ci_eq]
def mostP (op : Nat) : Int := if op = 6 ∨ op = 7 ∨ op = 12 ∨ op = 13 then 2147483647 else 4294967295
def shortP (op : Nat) (p : Pr) : Bool := decide (p.a.hi ≤ mostP op) && decide (p.b.hi ≤ mostP op)
set_option maxHeartbeats 4000000 in
theorem short_T (w0 : World) (op : Nat) (p : Pr) : T Tryz.prog w0 174 [.int .i64 op, p.val] = some (.bool (shortP op p)) :=
  T_of (by kernel_rfl) Tryz.func174 rfl ok_branch_short (by simp) (by simp) fun B hB => by
    unfold shortP mostP
    by_cases h : op = 6 ∨ op = 7 ∨ op = 12 ∨ op = 13
    · rcases h with rfl | rfl | rfl | rfl <;> simp [c_branch_short, C_cond_eq, pickV_bool]
    · rw [if_neg h]
      simp only [not_or] at h
      have k : ∀ n : Nat, op ≠ n → ¬ (op : Int) = n := fun n h e => h (by omega)
      simp [c_branch_short, C_cond_eq, pickV_bool, h.1, h.2.1, h.2.2.1, h.2.2.2, k 6 h.1, k 7 h.2.1, k 12 h.2.2.1, k 13 h.2.2.2, ci_eq]
def eqR (a b : Rng) : Bool := decide (a.b.v = b.b.v) && (decide (a.b.m = b.b.m) && (decide (a.lo = b.lo) && (decide (a.hi = b.hi) && (decide (a.sl = b.sl) && decide (a.sh = b.sh)))))
theorem eqR_iff (a b : Rng) : eqR a b = true ↔ a = b := by
  obtain ⟨⟨a1, a2⟩, a3, a4, a5, a6⟩ := a
  obtain ⟨⟨b1, b2⟩, b3, b4, b5, b6⟩ := b
  simp [eqR, and_assoc]
abbrev rngD : EqD := .cons 0 (some 2) (.cons 0 none .int (.cons 1 none .int .nil)) (.cons 2 none .int (.cons 3 none .int (.cons 4 none .int (.cons 5 none .int .nil))))
theorem eqv_rng (w : World) (a b : Rng) : eqv w rngD a.val b.val = some (eqR a b) := by
  obtain ⟨⟨a1, a2⟩, a3, a4, a5, a6⟩ := a
  obtain ⟨⟨b1, b2⟩, b3, b4, b5, b6⟩ := b
  simp only [eqR]
  generalize ht1 : decide (a1 = b1) = t1
  generalize ht2 : decide (a2 = b2) = t2
  generalize ht3 : decide (a3 = b3) = t3
  generalize ht4 : decide (a4 = b4) = t4
  generalize ht5 : decide (a5 = b5) = t5
  generalize ht6 : decide (a6 = b6) = t6
  have k : ∀ {x y : Int} {t : Bool}, decide (x = y) = t → (x == y) = t := fun {x y t} h => by rw [← h]; by_cases h : x = y <;> simp [h]
  simp only [eqv, rngD, Rng.val, Rng.arr, partV_none, partV_some]
  have p0 : (#[Value.int .u64 a1, .int .u64 a2, .int .u64 a3, .int .u64 a4, .int .i64 a5, .int .i64 a6] : Array Value).extract 0 (0 + 2) = #[.int .u64 a1, .int .u64 a2] := rfl
  have p1 : (#[Value.int .u64 b1, .int .u64 b2, .int .u64 b3, .int .u64 b4, .int .i64 b5, .int .i64 b6] : Array Value).extract 0 (0 + 2) = #[.int .u64 b1, .int .u64 b2] := rfl
  simp [eqv, p0, p1, k ht1, k ht2, k ht3, k ht4, k ht5, k ht6]
  cases t1 <;> cases t2 <;> cases t3 <;> cases t4 <;> cases t5 <;> cases t6 <;> rfl
def aloneP (p : Pr) : Bool := eqR p.a (constR p.a.lo) && eqR p.b (constR p.b.lo)
set_option maxHeartbeats 4000000 in
theorem alone_TP (w0 : World) (p : Pr) : T Tryz.prog w0 172 [p.val] = some (.tuple #[.int .u64 p.a.lo, .int .u64 p.b.lo, .bool (aloneP p)]) :=
  T_of (by kernel_rfl) Tryz.func172 rfl ok_branch_alone (by simp) (by simp) fun B hB => by
    have e1 := constR_T w0 p.a.lo
    have e2 := constR_T w0 p.b.lo
    have q1 := fun w => eqv_rng w p.a (constR p.a.lo)
    have q2 := fun w => eqv_rng w p.b (constR p.b.lo)
    unfold aloneP
    simp [constR, rngD] at e1 e2 q1 q2
    cases h : eqR p.a (constR p.a.lo) with
    | true =>
      simp [constR] at h
      simp [c_branch_alone, C_cond_eq, e1, e2, q1, q2, h, rowOf, pickV_bool, constR]
    | false =>
      simp [constR] at h
      simp [c_branch_alone, C_cond_eq, e1, e2, q1, q2, h, rowOf, pickV_bool, constR]
end Go.Proofs.YtkgpmjjleemdlaaGreat

set_option linter.unusedSimpArgs false
set_option linter.unusedVariables false
set_option maxRecDepth 8000
namespace Go.Proofs.YtkgpmjjleemdlaaGreat
open Go.Eng Go.Sort
attribute [local irreducible] Go.Eng.W

def nbA (p : Pr) : Num × Bool := tMeet p.a.b ⟨0, not64 p.b.b.v⟩
def nbB (p : Pr) : Num × Bool := tMeet p.b.b ⟨0, not64 p.a.b.v⟩
def noBitsP (p : Pr) : Pr × Bool := if (nbA p).2 = true ∧ (nbB p).2 = true then psettle ⟨{ p.a with b := (nbA p).1 }, { p.b with b := (nbB p).1 }⟩ else (Pr.zero, false)
set_option maxHeartbeats 4000000 in
theorem noBits_T (w0 : World) (p : Pr) : T Tryz.prog w0 175 [p.val] = some (outP (noBitsP p)) :=
  T_of (by kernel_rfl) Tryz.func175 rfl ok_branch_noBits (by simp) (by simp) fun B hB => by
    have e1 := tmeet_T w0 p.a.b ⟨0, not64 p.b.b.v⟩
    have e2 := tmeet_T w0 p.b.b ⟨0, not64 p.a.b.v⟩
    have e3 := psettle_T w0 ⟨{ p.a with b := (nbA p).1 }, { p.b with b := (nbB p).1 }⟩
    have f1 : tMeet p.a.b ⟨0, not64 p.b.b.v⟩ = nbA p := rfl
    have f2 : tMeet p.b.b ⟨0, not64 p.a.b.v⟩ = nbB p := rfl
    rw [f1] at e1
    rw [f2] at e2
    unfold noBitsP
    cases h1 : (nbA p).2 with
    | false =>
      rw [h1] at e1
      simp at e1 e2
      simp [c_branch_noBits, C_cond_eq, unV_xor64, -unV_xor, e1, e2, rowOf, pickV_bool, Pr.zero, Rng.zero]
    | true =>
      rw [h1] at e1
      cases h2 : (nbB p).2 with
      | false =>
        rw [h2] at e2
        simp at e1 e2
        simp [c_branch_noBits, C_cond_eq, unV_xor64, -unV_xor, e1, e2, rowOf, pickV_bool, Pr.zero, Rng.zero]
      | true =>
        rw [h2] at e2
        simp at e1 e2 e3
        simp [c_branch_noBits, C_cond_eq, unV_xor64, -unV_xor, e1, e2, e3, rowOf, pickV_bool]
/-- What a comparison tells of two ranges. -/
def refineP (op : Nat) (long : Bool) (p : Pr) (holds : Bool) : Pr × Bool :=
  if (psettle p).2 = false then (Pr.zero, false)
  else if aloneP (psettle p).1 = true then ((psettle p).1, holdsOf op long (psettle p).1.a.lo (psettle p).1.b.lo == holds)
  else if long = false ∧ shortP op (psettle p).1 = false then ((psettle p).1, true)
  else if op = 4 then (if holds = true then ((psettle p).1, true) else noBitsP (psettle p).1)
  else whereP (if holds = true then op else oppOf op) (psettle p).1
set_option maxHeartbeats 8000000 in
theorem refine_TP (w0 : World) (op : Nat) (long : Bool) (p : Pr) (holds : Bool) : T Tryz.prog w0 156 [.int .i64 op, .bool long, p.val, .bool holds] = some (outP (refineP op long p holds)) :=
  T_of (by kernel_rfl) Tryz.func156 rfl ok_branch_refine (by simp) (by simp) fun B hB => by
    have e0 := psettle_T w0 p
    unfold refineP
    generalize psettle p = qs at *
    obtain ⟨q, ok⟩ := qs
    have e1 := alone_TP w0 q
    have e2 := holds_T w0 op long q.a.lo q.b.lo
    have e3 := short_T w0 op q
    have e4 := noBits_T w0 q
    have e5 := opp_T w0 op
    have e6 := where_T w0 op q
    have e7 := where_T w0 (oppOf op) q
    simp at e0 e1 e3 e4 e6 e7
    cases ok with
    | false =>
      simp [c_branch_refine, C_cond_eq, e0, Pr.zero, Rng.zero]
    | true =>
      cases h1 : aloneP q with
      | true =>
        rw [h1] at e1
        simp [c_branch_refine, C_cond_eq, e0, e1, e2]
      | false =>
        rw [h1] at e1
        have hm : (long = false ∧ shortP op q = false) ∨ (long = true ∨ shortP op q = true) := by cases long <;> cases shortP op q <;> simp
        rcases hm with ⟨rfl, hs⟩ | hm
        · rw [hs] at e3
          simp [c_branch_refine, C_cond_eq, e0, e1, e3, hs, pickV_bool]
        · have hn : ¬ (long = false ∧ shortP op q = false) := by rintro ⟨h2, h3⟩; rcases hm with h | h <;> simp_all
          rw [if_neg (by simp), if_neg (by simp), if_neg hn]
          by_cases h4 : op = 4
          · subst h4
            rw [if_pos rfl]
            cases long with
            | true => cases holds <;> simp [c_branch_refine, C_cond_eq, e0, e1, e4, pickV_bool]
            | false =>
              have hs : shortP 4 q = true := by simpa using hm
              rw [hs] at e3
              simp at e3
              cases holds <;> simp [c_branch_refine, C_cond_eq, e0, e1, e3, e4, pickV_bool]
          · have h4' : ¬ (op : Int) = 4 := by omega
            rw [if_neg h4]
            cases long with
            | true => cases holds <;> simp [c_branch_refine, C_cond_eq, e0, e1, e5, e6, e7, h4, h4', pickV_bool]
            | false =>
              have hs : shortP op q = true := by simpa using hm
              rw [hs] at e3
              cases holds <;> simp [c_branch_refine, C_cond_eq, e0, e1, e3, e5, e6, e7, h4, h4', pickV_bool]
def refineR (op : Nat) (long : Bool) (a b : Rng) (holds : Bool) : Rng × Rng × Bool :=
  if (refineP op long ⟨a, b⟩ holds).2 = true then ((refineP op long ⟨a, b⟩ holds).1.a, (refineP op long ⟨a, b⟩ holds).1.b, true) else (Rng.zero, Rng.zero, false)
set_option maxHeartbeats 4000000 in
theorem refine_T (w0 : World) (op : Nat) (long : Bool) (a b : Rng) (holds : Bool) : T Tryz.prog w0 126 [.int .i64 op, .bool long, a.val, b.val, .bool holds] = some (.tuple #[(refineR op long a b holds).1.val, (refineR op long a b holds).2.1.val, .bool (refineR op long a b holds).2.2]) :=
  T_of (by kernel_rfl) Tryz.func126 rfl ok_branch_Refine (by simp) (by simp) fun B hB => by
    have e := refine_TP w0 op long ⟨a, b⟩ holds
    unfold refineR
    generalize refineP op long ⟨a, b⟩ holds = q at *
    obtain ⟨q, ok⟩ := q
    simp at e
    cases ok <;> simp [c_branch_Refine, C_cond_eq, e, rowOf, Rng.zero]
end Go.Proofs.YtkgpmjjleemdlaaGreat

