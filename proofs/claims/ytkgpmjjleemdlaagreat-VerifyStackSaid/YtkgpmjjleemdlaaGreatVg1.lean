/- Layer 13: numbers of which some bits are known, as equations. -/
import Derived.Test.YtkgpmjjleemdlaaGreatCmdsVg
import Derived.Test.YtkgpmjjleemdlaaGreatVf1
import Derived.Laws.Externs
set_option linter.unusedSimpArgs false
set_option linter.unusedVariables false
set_option maxRecDepth 8000
namespace Go.Proofs.YtkgpmjjleemdlaaGreat
open Go.Eng

structure Num where
  v : Int
  m : Int
@[simp] def Num.val (a : Num) : Value := .agg #[.int .u64 a.v, .int .u64 a.m]
abbrev w64 (x : Int) : Int := IntKind.u64.wrap x
def not64 (x : Int) : Int := w64 (BitVec.ofInt 64 18446744073709551615 ^^^ BitVec.ofInt 64 x).toNat
def shl64 (x : Int) (n : Int) : Int := w64 (x * 2 ^ (min n.toNat 64))
def shr64 (x : Int) (n : Int) : Int := x.fdiv (2 ^ (min n.toNat 64))

theorem unV_xor64 (n : Int) : unV .xor (.int .u64 n) = some (.int .u64 (not64 n)) := rfl
@[simp] theorem bits64 : IntKind.bits .u64 = 64 := rfl
theorem c8w : IntKind.i64.wrap 8 = 8 := by decide +kernel
theorem c16w : IntKind.i64.wrap 16 = 16 := by decide +kernel
theorem c32w : IntKind.i64.wrap 32 = 32 := by decide +kernel

def tAny : Num := ⟨0, 18446744073709551615⟩
def tOf (v m : Int) : Num := ⟨bitAndNot .u64 v m, m⟩
def tRight (a : Num) : Bool := decide (bitAnd .u64 a.v a.m = 0)
def tWithin (a b : Num) : Bool := decide (bitAndNot .u64 a.m b.m = 0) && decide (bitAndNot .u64 a.v b.m = b.v)
def tAdd (a b : Num) : Num := tOf (w64 (a.v + b.v)) (bitOr .u64 (bitOr .u64 (bitXor .u64 (w64 (a.v + b.v)) (w64 (w64 (w64 (a.v + b.v) + a.m) + b.m))) a.m) b.m)
def tSub (a b : Num) : Num := tOf (w64 (a.v - b.v)) (bitOr .u64 (bitOr .u64 (bitXor .u64 (w64 (w64 (a.v - b.v) + a.m)) (w64 (w64 (a.v - b.v) - b.m))) a.m) b.m)
def tAnd (a b : Num) : Num := tOf (bitAnd .u64 a.v b.v) (bitAndNot .u64 (bitAnd .u64 (bitOr .u64 a.v a.m) (bitOr .u64 b.v b.m)) (bitAnd .u64 a.v b.v))
def tOr (a b : Num) : Num := tOf (bitOr .u64 a.v b.v) (bitAndNot .u64 (bitOr .u64 a.m b.m) (bitOr .u64 a.v b.v))
def tXor (a b : Num) : Num := tOf (bitXor .u64 a.v b.v) (bitOr .u64 a.m b.m)
def by64 (n : Int) : Int := IntKind.i64.wrap ((w64 n).tmod 64)
def tLeft (a : Num) (n : Int) : Num := tOf (shl64 a.v (by64 n)) (shl64 a.m (by64 n))
def tDown (a : Num) (n : Int) : Num := tOf (shr64 a.v (by64 n)) (shr64 a.m (by64 n))
def keepOf (n : Int) : Int := w64 (shl64 1 (IntKind.i64.wrap (8 * n)) - 1)
def tLow (a : Num) (n : Int) : Num := if n = 1 ∨ n = 2 ∨ n = 4 then tOf (bitAnd .u64 a.v (keepOf n)) (bitAnd .u64 a.m (keepOf n)) else tOf a.v a.m
def tMeet (a b : Num) : Num × Bool :=
  if bitAnd .u64 (bitXor .u64 a.v b.v) (not64 (bitOr .u64 a.m b.m)) = 0 then (tOf (bitOr .u64 a.v b.v) (bitAnd .u64 a.m b.m), true) else (⟨0, 0⟩, false)

theorem tany_T (w0 : World) : T Tryz.prog w0 157 [] = some tAny.val :=
  T_of (by kernel_rfl) Tryz.func157 rfl ok_tnum_Any (by simp) (by simp) fun B hB => by
    simp [c_tnum_Any, tAny]
theorem tof_T (w0 : World) (v m : Int) : T Tryz.prog w0 169 [.int .u64 v, .int .u64 m] = some (tOf v m).val :=
  T_of (by kernel_rfl) Tryz.func169 rfl ok_tnum_of (by simp) (by simp) fun B hB => by
    simp [c_tnum_of, tOf]
theorem tright_T (w0 : World) (a : Num) : T Tryz.prog w0 181 [a.val] = some (.bool (tRight a)) :=
  T_of (by kernel_rfl) Tryz.func181 rfl ok_tnum_Right (by simp) (by simp) fun B hB => by
    simp [c_tnum_Right, tRight]
theorem twithin_T (w0 : World) (a b : Num) : T Tryz.prog w0 140 [a.val, b.val] = some (.bool (tWithin a b)) :=
  T_of (by kernel_rfl) Tryz.func140 rfl ok_tnum_Within (by simp) (by simp) fun B hB => by
    simp [c_tnum_Within, tWithin]
theorem tadd_T (w0 : World) (a b : Num) : T Tryz.prog w0 160 [a.val, b.val] = some (tAdd a b).val :=
  T_of (by kernel_rfl) Tryz.func160 rfl ok_tnum_Add (by simp) (by simp) fun B hB => by
    have e := tof_T w0
    simp at e
    simp [c_tnum_Add, tAdd, e]
theorem tsub_T (w0 : World) (a b : Num) : T Tryz.prog w0 162 [a.val, b.val] = some (tSub a b).val :=
  T_of (by kernel_rfl) Tryz.func162 rfl ok_tnum_Sub (by simp) (by simp) fun B hB => by
    have e := tof_T w0
    simp at e
    simp [c_tnum_Sub, tSub, e]
theorem tand_T (w0 : World) (a b : Num) : T Tryz.prog w0 165 [a.val, b.val] = some (tAnd a b).val :=
  T_of (by kernel_rfl) Tryz.func165 rfl ok_tnum_And (by simp) (by simp) fun B hB => by
    have e := tof_T w0
    simp at e
    simp [c_tnum_And, tAnd, e]
theorem tor_T (w0 : World) (a b : Num) : T Tryz.prog w0 166 [a.val, b.val] = some (tOr a b).val :=
  T_of (by kernel_rfl) Tryz.func166 rfl ok_tnum_Or (by simp) (by simp) fun B hB => by
    have e := tof_T w0
    simp at e
    simp [c_tnum_Or, tOr, e]
theorem txor_T (w0 : World) (a b : Num) : T Tryz.prog w0 167 [a.val, b.val] = some (tXor a b).val :=
  T_of (by kernel_rfl) Tryz.func167 rfl ok_tnum_Xor (by simp) (by simp) fun B hB => by
    have e := tof_T w0
    simp at e
    simp [c_tnum_Xor, tXor, e]
theorem tby_T (w0 : World) (n : Int) : T Tryz.prog w0 191 [.int .i64 n] = some (.int .i64 (by64 n)) :=
  T_of (by kernel_rfl) Tryz.func191 rfl ok_tnum_by (by simp) (by simp) fun B hB => by
    simp [c_tnum_by, by64]
theorem by64_rng (n : Int) : 0 ≤ by64 n ∧ by64 n < 64 := by
  unfold by64
  have h0 : 0 ≤ w64 n := by unfold w64; rw [IntKind.wrap_u64]; omega
  have h1 := Int.tmod_nonneg 64 h0
  have h2 := Int.tmod_lt_of_pos (w64 n) (show (0 : Int) < 64 by omega)
  rw [i64w (by omega) (by omega)]
  omega
theorem tleft_T (w0 : World) (a : Num) (n : Int) : T Tryz.prog w0 179 [a.val, .int .i64 n] = some (tLeft a n).val :=
  T_of (by kernel_rfl) Tryz.func179 rfl ok_tnum_Left (by simp) (by simp) fun B hB => by
    have e := tof_T w0
    simp at e
    have e2 := tby_T w0 n
    have h := (by64_rng n).1
    simp [c_tnum_Left, tLeft, e, e2, h, shl64]
theorem tdown_T (w0 : World) (a : Num) (n : Int) : T Tryz.prog w0 178 [a.val, .int .i64 n] = some (tDown a n).val :=
  T_of (by kernel_rfl) Tryz.func178 rfl ok_tnum_Down (by simp) (by simp) fun B hB => by
    have e := tof_T w0
    simp at e
    have e2 := tby_T w0 n
    have h := (by64_rng n).1
    simp [c_tnum_Down, tDown, e, e2, h, shr64]
theorem tlow_T (w0 : World) (a : Num) (n : Int) : T Tryz.prog w0 151 [a.val, .int .i64 n] = some (tLow a n).val :=
  T_of (by kernel_rfl) Tryz.func151 rfl ok_tnum_Low (by simp) (by simp) fun B hB => by
    have e := tof_T w0
    simp at e
    unfold tLow
    by_cases h1 : n = 1
    · subst h1; simp [c_tnum_Low, C_cond_eq, e, keepOf, shl64, c8w, c16w, c32w]
    by_cases h2 : n = 2
    · subst h2; simp [c_tnum_Low, C_cond_eq, e, keepOf, shl64, c8w, c16w, c32w]
    by_cases h4 : n = 4
    · subst h4; simp [c_tnum_Low, C_cond_eq, e, keepOf, shl64, c8w, c16w, c32w]
    simp [c_tnum_Low, C_cond_eq, e, keepOf, shl64, h1, h2, h4]
theorem tmeet_T (w0 : World) (a b : Num) : T Tryz.prog w0 183 [a.val, b.val] = some (.tuple #[(tMeet a b).1.val, .bool (tMeet a b).2]) :=
  T_of (by kernel_rfl) Tryz.func183 rfl ok_tnum_Meet (by simp) (by simp) fun B hB => by
    have e := tof_T w0
    simp at e
    unfold tMeet
    by_cases h : bitAnd .u64 (bitXor .u64 a.v b.v) (not64 (bitOr .u64 a.m b.m)) = 0
    · simp [c_tnum_Meet, C_cond_eq, e, unV_xor64, -unV_xor, h]
    · simp [c_tnum_Meet, C_cond_eq, e, unV_xor64, -unV_xor, h]
end Go.Proofs.YtkgpmjjleemdlaaGreat

set_option linter.unusedSimpArgs false
set_option linter.unusedVariables false
set_option maxRecDepth 8000
namespace Go.Proofs.YtkgpmjjleemdlaaGreat
open Go.Eng

def In64 (x : Int) : Prop := 0 ≤ x ∧ x < 18446744073709551616
def InS (x : Int) : Prop := -9223372036854775808 ≤ x ∧ x < 9223372036854775808
def Num.wf (a : Num) : Prop := In64 a.v ∧ In64 a.m
theorem w64_in (x : Int) : In64 (w64 x) := by unfold In64 w64; rw [IntKind.wrap_u64]; omega
theorem bOr_in (a b : Int) : In64 (bitOr .u64 a b) := w64_in _
theorem bAnd_in (a b : Int) : In64 (bitAnd .u64 a b) := w64_in _
theorem bXor_in (a b : Int) : In64 (bitXor .u64 a b) := w64_in _
theorem bAndNot_in (a b : Int) : In64 (bitAndNot .u64 a b) := w64_in _
theorem shr_in {a : Int} (h : In64 a) (n : Int) : In64 (shr64 a n) := by
  unfold shr64
  obtain ⟨x, rfl⟩ := Int.eq_ofNat_of_zero_le h.1
  have h2 := h.2
  have e : (2 : Int) ^ (min n.toNat 64) = ((2 ^ (min n.toNat 64) : Nat) : Int) := by simp
  rw [e]
  generalize 2 ^ (min n.toNat 64) = p
  rw [Int.fdiv_eq_ediv_of_nonneg _ (Int.natCast_nonneg _)]
  have h3 : x / p ≤ x := Nat.div_le_self _ _
  have e4 : (x : Int) / (p : Int) = ((x / p : Nat) : Int) := rfl
  rw [e4]
  have h5 : (x : Int) < 18446744073709551616 := h2
  exact ⟨Int.natCast_nonneg _, Int.lt_of_le_of_lt (Int.ofNat_le.2 h3) h5⟩
theorem tOf_wf {v m : Int} (hm : In64 m) : (tOf v m).wf := ⟨bAndNot_in _ _, hm⟩
theorem tAny_wf : tAny.wf := by unfold Num.wf tAny In64; simp
theorem tDown_wf {a : Num} (h : a.wf) (n : Int) : (tDown a n).wf := tOf_wf (shr_in h.2 _)
theorem tLow_wf {a : Num} (h : a.wf) (n : Int) : (tLow a n).wf := by
  unfold tLow
  split
  · exact tOf_wf (bAnd_in _ _)
  · exact tOf_wf h.2
theorem tMeet_wf (a b : Num) : (tMeet a b).1.wf := by
  unfold tMeet
  split
  · exact tOf_wf (bAnd_in _ _)
  · unfold Num.wf In64; simp

/-! Products. -/
theorem bAndNot_le {a b : Int} (h : In64 a) : bitAndNot .u64 a b ≤ a := by
  obtain ⟨x, rfl⟩ := Int.eq_ofNat_of_zero_le h.1
  have h2 := h.2
  have e : (BitVec.ofInt 64 (x : Int) &&& ~~~BitVec.ofInt 64 b).toNat ≤ x := by
    rw [BitVec.toNat_and]
    refine Nat.le_trans Nat.and_le_left ?_
    rw [BitVec.ofInt_natCast, BitVec.toNat_ofNat]
    exact Nat.mod_le _ _
  have e2 : bitAndNot .u64 (x : Int) b = (((BitVec.ofInt 64 (x : Int) &&& ~~~BitVec.ofInt 64 b).toNat : Nat) : Int) := by
    show IntKind.u64.wrap (((BitVec.ofInt 64 (x : Int) &&& ~~~BitVec.ofInt 64 b).toNat : Nat) : Int) = _
    exact u64w (by omega) (by omega)
  rw [e2]
  omega
theorem by64_1 : by64 1 = 1 := by decide +kernel
theorem shr1 {a : Int} (h : In64 a) : shr64 a 1 = a / 2 := by
  unfold shr64
  show a.fdiv (2 ^ 1) = _
  rw [Int.fdiv_eq_ediv_of_nonneg _ (by omega)]
  rfl
theorem bOr_zero {a b : Int} (ha : In64 a) (hb : In64 b) : bitOr .u64 a b = 0 ↔ a = 0 ∧ b = 0 := by
  obtain ⟨x, rfl⟩ := Int.eq_ofNat_of_zero_le ha.1
  obtain ⟨y, rfl⟩ := Int.eq_ofNat_of_zero_le hb.1
  have h1 := ha.2
  have h2 := hb.2
  have e : bitOr .u64 (x : Int) (y : Int) = ((x ||| y : Nat) : Int) := by
    show IntKind.u64.wrap (((BitVec.ofInt 64 (x : Int) ||| BitVec.ofInt 64 (y : Int)).toNat : Nat) : Int) = _
    rw [BitVec.toNat_or, BitVec.ofInt_natCast, BitVec.ofInt_natCast, BitVec.toNat_ofNat, BitVec.toNat_ofNat, Nat.mod_eq_of_lt (by omega), Nat.mod_eq_of_lt (by omega)]
    have : x ||| y < 2 ^ 64 := Nat.or_lt_two_pow (by omega) (by omega)
    exact u64w (by omega) (by omega)
  rw [e]
  constructor
  · intro h
    have h0 : x ||| y = 0 := by omega
    have := Nat.or_eq_zero_iff.1 h0
    omega
  · rintro ⟨h3, h4⟩
    have h3 : x = 0 := by omega
    have h4 : y = 0 := by omega
    subst h3; subst h4; rfl
def Num.sz (a : Num) : Nat := a.v.toNat + a.m.toNat
theorem sz_down {a : Num} (h : a.wf) (h0 : ¬ bitOr .u64 a.v a.m = 0) : (tDown a 1).sz < a.sz := by
  have h1 : ¬ (a.v = 0 ∧ a.m = 0) := fun e => h0 ((bOr_zero h.1 h.2).2 e)
  have e1 : (tDown a 1).m = a.m / 2 := by
    show shr64 a.m (by64 1) = _
    rw [by64_1, shr1 h.2]
  have e2 : (tDown a 1).v ≤ a.v / 2 := by
    show bitAndNot .u64 (shr64 a.v (by64 1)) _ ≤ _
    have := bAndNot_le (b := shr64 a.m (by64 1)) (shr_in h.1 (by64 1))
    rw [by64_1, shr1 h.1] at this
    rw [by64_1, shr1 h.1]
    exact this
  have e3 := (tDown_wf h 1).1.1
  obtain ⟨⟨v0, v1⟩, ⟨m0, m1⟩⟩ := h
  unfold Num.sz
  rw [e1]
  omega
def mulStep (a b s : Num) : Num := if bitAnd .u64 a.v 1 = 1 then tAdd s ⟨0, b.m⟩ else if bitAnd .u64 a.m 1 = 1 then tAdd s ⟨0, bitOr .u64 b.v b.m⟩ else s
def tMulGo (a b s : Num) : Num := if bitOr .u64 a.v a.m = 0 then s else if _h : (tDown a 1).sz < a.sz then tMulGo (tDown a 1) (tLeft b 1) (mulStep a b s) else s
termination_by a.sz
theorem tMulGo_end {a b s : Num} (h : bitOr .u64 a.v a.m = 0) : tMulGo a b s = s := by
  rw [tMulGo, if_pos h]
theorem tMulGo_on {a b s : Num} (hw : a.wf) (h : ¬ bitOr .u64 a.v a.m = 0) : tMulGo a b s = tMulGo (tDown a 1) (tLeft b 1) (mulStep a b s) := by
  rw [tMulGo, if_neg h, dif_pos (sz_down hw h)]
def tMul (a b : Num) : Num := tMulGo a b ⟨w64 (a.v * b.v), 0⟩
def headSz (l : Own) : Nat := ((l[0]?).map fun x => natAt x.1.toList 0 + natAt x.1.toList 1).getD 0
set_option maxHeartbeats 2000000 in
theorem tmul_T (w0 : World) (a b : Num) (ha : a.wf) : T Tryz.prog w0 163 [a.val, b.val] = some (tMul a b).val :=
  T_of (by kernel_rfl) Tryz.func163 rfl ok_tnum_Mul (by simp) (by simp) fun B hB => by
    have e0 := tconst_T w0
    have e1 := tadd_T w0
    have e2 := tdown_T w0
    have e3 := tleft_T w0
    simp [numC'] at e0 e1 e2 e3
    simp [c_tnum_Mul, e0]
    refine C_loop (fun env l => ∃ x y s : Num, x.wf ∧ tMul a b = tMulGo x y s ∧ env = [undef, undef, .pointer (some ⟨B.heap.size + 2, 0, none⟩), .pointer (some ⟨B.heap.size, 0, none⟩), .pointer (some ⟨B.heap.size + 1, 0, none⟩), undef, .pointer (some ⟨B.heap.size + 3, 0, none⟩), undef, undef, undef, undef, undef, undef, undef] ∧
      l = [(#[.int .u64 x.v, .int .u64 x.m], 64), (#[.int .u64 y.v, .int .u64 y.m], 64), (#[.int .u64 0, .int .u64 0], 64), (#[.int .u64 s.v, .int .u64 s.m], 64)]) (fun _ l => headSz l) ?_ ?_
    · exact ⟨a, b, ⟨w64 (a.v * b.v), 0⟩, ha, rfl, by simp, by simp⟩
    rintro env l ⟨x, y, s, hx, he, rfl, rfl⟩
    simp
    by_cases h0 : bitOr .u64 x.v x.m = 0
    · refine C_no (by simp [h0]) ?_
      rw [he, tMulGo_end h0]
      simp
    · have hsz := sz_down hx h0
      rw [tMulGo_on hx h0] at he
      refine C_yes (by simp [h0]) ?_
      by_cases h1 : bitAnd .u64 x.v 1 = 1
      · have hs : mulStep x y s = tAdd s ⟨0, y.m⟩ := by unfold mulStep; rw [if_pos h1]
        rw [hs] at he
        have q := e1 s ⟨0, y.m⟩
        simp [h1]
        refine C_yes (by simp) ?_
        simp at q
        simp [e2, e3, q]
        exact ⟨⟨_, tDown_wf hx 1, _, _, he, ⟨rfl, rfl⟩, ⟨rfl, rfl⟩, rfl, rfl⟩, hsz⟩
      · by_cases h2 : bitAnd .u64 x.m 1 = 1
        · have hs : mulStep x y s = tAdd s ⟨0, bitOr .u64 y.v y.m⟩ := by unfold mulStep; rw [if_neg h1, if_pos h2]
          rw [hs] at he
          have q := e1 s ⟨0, bitOr .u64 y.v y.m⟩
          simp at q
          simp [h1]
          refine C_no (by simp) ?_
          simp [h2]
          refine C_yes (by simp) ?_
          simp [e2, e3, q]
          exact ⟨⟨_, tDown_wf hx 1, _, _, he, ⟨rfl, rfl⟩, ⟨rfl, rfl⟩, rfl, rfl⟩, hsz⟩
        · have hs : mulStep x y s = s := by unfold mulStep; rw [if_neg h1, if_neg h2]
          rw [hs] at he
          simp [h1]
          refine C_no (by simp) ?_
          simp [h2]
          refine C_no (by simp) ?_
          simp [e2, e3]
          exact ⟨⟨_, tDown_wf hx 1, _, _, he, ⟨rfl, rfl⟩, ⟨rfl, rfl⟩, rfl, rfl⟩, hsz⟩
end Go.Proofs.YtkgpmjjleemdlaaGreat

set_option linter.unusedSimpArgs false
set_option linter.unusedVariables false
set_option maxRecDepth 8000
namespace Go.Proofs.YtkgpmjjleemdlaaGreat
open Go.Eng
attribute [local irreducible] Go.Eng.W

structure Rng where
  b : Num
  lo : Int
  hi : Int
  sl : Int
  sh : Int
@[simp] def Rng.arr (a : Rng) : Array Value := #[.int .u64 a.b.v, .int .u64 a.b.m, .int .u64 a.lo, .int .u64 a.hi, .int .i64 a.sl, .int .i64 a.sh]
@[simp] def Rng.val (a : Rng) : Value := .agg a.arr
def Rng.zero : Rng := ⟨⟨0, 0⟩, 0, 0, 0, 0⟩
def Rng.wf (a : Rng) : Prop := a.b.wf ∧ In64 a.lo ∧ In64 a.hi ∧ InS a.sl ∧ InS a.sh
abbrev i64 (x : Int) : Int := IntKind.i64.wrap x
def mxI (x y : Int) : Int := if y > x then y else x
def mnI (x y : Int) : Int := if y < x then y else x
theorem mx_in {x y : Int} (hx : In64 x) (hy : In64 y) : In64 (mxI x y) := by unfold mxI; split <;> assumption
theorem mn_in {x y : Int} (hx : In64 x) (hy : In64 y) : In64 (mnI x y) := by unfold mnI; split <;> assumption
theorem mx_inS {x y : Int} (hx : InS x) (hy : InS y) : InS (mxI x y) := by unfold mxI; split <;> assumption
theorem mn_inS {x y : Int} (hx : InS x) (hy : InS y) : InS (mnI x y) := by unfold mnI; split <;> assumption
theorem i64_in (x : Int) : InS (i64 x) := by
  unfold InS i64
  rw [IntKind.wrap_i64]
  omega

def signs1 (a : Rng) : Rng := if i64 a.lo ≤ i64 a.hi then { a with sl := mxI a.sl (i64 a.lo), sh := mnI a.sh (i64 a.hi) } else a
def signs2 (a : Rng) : Rng := if 0 ≤ a.sl ∨ a.sh < 0 then { a with lo := mxI a.lo (w64 a.sl), hi := mnI a.hi (w64 a.sh) } else a
def signsOf (a : Rng) : Rng := signs2 (signs1 a)
theorem signs_wf {a : Rng} (h : a.wf) : (signsOf a).wf := by
  have h1 : (signs1 a).wf := by
    unfold signs1
    split
    · exact ⟨h.1, h.2.1, h.2.2.1, mx_inS h.2.2.2.1 (i64_in _), mn_inS h.2.2.2.2 (i64_in _)⟩
    · exact h
  unfold signsOf signs2
  split
  · exact ⟨h1.1, mx_in h1.2.1 (w64_in _), mn_in h1.2.2.1 (w64_in _), h1.2.2.2.1, h1.2.2.2.2⟩
  · exact h1
def RBox (w : World) (b : Nat) (a : Rng) : Prop := w.heap[b]? = some (.cells a.arr 66 (0, 0))
theorem RBox.cell {w : World} {b : Nat} {a : Rng} (h : RBox w b a) (i : Nat) (v : Value) (hv : a.arr[i]? = some v) : wcell w b i = some v := by rw [wcell_of h]; exact hv
theorem RBox.seti {w : World} {b : Nat} {a : Rng} (h : RBox w b a) (a' : Rng) (i : Nat) (k : IntKind) (x : Int) (hi : i < 6) (he : a.arr.setIfInBounds i (.int k x) = a'.arr) : stv w 1 (.pointer (some ⟨b, i, none⟩)) (.int k x) = some (put w b (.cells a'.arr 66 (0, 0))) := by
  rw [stv_of (n := 1) (v := .int k x) h rfl (by simp; omega) (.inl (by simp)) (by simp [Value.cells, Value.oneCell'])]
  show some (put w b (.cells (setRow a.arr i [.int k x]) _ _)) = _
  rw [setRow_cons, setRow_nil, he]
theorem RBox.put {w : World} {b : Nat} (h : b < w.heap.size) (a : Rng) : RBox (Eng.put w b (.cells a.arr 66 (0, 0))) b a := put_same h
theorem signs_ret (w : World) (b : Nat) (a : Rng) (h : RBox w b a) : Ret Tryz.prog 182 [.pointer (some ⟨b, 0, none⟩)] w fun r w' => Kept (fun j => j = b) w w' ∧ RBox w' b (signsOf a) := by
  refine ret_of_W Tryz.func182 rfl ok_scalar_Range_signs ?_
  simp only [c_scalar_Range_signs, W_seq, W_draw]
  have hk : Kept (fun j => j = b) w w.drew := (Kept.refl _ _).drew
  have hd : RBox w.drew b a := h
  generalize w.drew = w1 at *
  refine W_cut (fun env' w' => (∃ x, env' = [.pointer (some ⟨b, 0, none⟩), x, undef]) ∧ Kept (fun j => j = b) w w' ∧ RBox w' b (signs1 a)) ?_ ?_
  · have c2 := hd.cell 2 _ rfl
    have c3 := hd.cell 3 _ rfl
    unfold signs1
    by_cases hc : i64 a.lo ≤ i64 a.hi
    · rw [if_pos hc]
      refine W_yes (by simp [c2, c3, hc]) ?_
      simp only [W_seq, W_draw]
      have hk2 : Kept (fun j => j = b) w w1.drew := hk.drew
      have h2 : RBox w1.drew b a := hd
      generalize w1.drew = w2 at *
      have c2 := h2.cell 2 _ rfl
      have c3 := h2.cell 3 _ rfl
      have c4 := h2.cell 4 _ rfl
      have c5 := h2.cell 5 _ rfl
      refine W_chkIn [.int .i64 (mxI a.sl (i64 a.lo))] (by simp [c2, c4, mxI]) ?_
      simp only [W_seq, W_set]
      refine ok_intro (.int .i64 (mnI a.sh (i64 a.hi))) (by simp [c3, c5, mnI]) ?_
      try simp only [W_seq]
      refine W_store (xv := .pointer (some ⟨b, 4, none⟩)) (vv := .int .i64 (mxI a.sl (i64 a.lo))) (by simp) (by simp [c2, c4, mxI]) (h2.seti { a with sl := mxI a.sl (i64 a.lo) } 4 _ _ (by omega) (by simp)) (stab_nil _ _ _) ?_
      have h3 := RBox.put (blk_lt h2) { a with sl := mxI a.sl (i64 a.lo) }
      have hk3 := hk2.put (b := b) (fun _ => rfl) (.cells ({ a with sl := mxI a.sl (i64 a.lo) } : Rng).arr 66 (0, 0))
      generalize Eng.put w2 b (.cells ({ a with sl := mxI a.sl (i64 a.lo) } : Rng).arr 66 (0, 0)) = w3 at *
      try simp only [W_seq]
      refine W_store (xv := .pointer (some ⟨b, 5, none⟩)) (vv := .int .i64 (mnI a.sh (i64 a.hi))) (by simp) (by simp) (h3.seti { a with sl := mxI a.sl (i64 a.lo), sh := mnI a.sh (i64 a.hi) } 5 _ _ (by omega) (by simp)) (stab_nil _ _ _) ?_
      have h4 := RBox.put (blk_lt h3) { a with sl := mxI a.sl (i64 a.lo), sh := mnI a.sh (i64 a.hi) }
      have hk4 := hk3.put (b := b) (fun _ => rfl) (.cells ({ a with sl := mxI a.sl (i64 a.lo), sh := mnI a.sh (i64 a.hi) } : Rng).arr 66 (0, 0))
      simp only [W_post]
      exact ⟨⟨_, rfl⟩, hk4, h4⟩
    · rw [if_neg hc]
      refine W_no (by simp [c2, c3]; exact Int.not_le.1 hc) ?_
      simp only [W_skip, W_post]
      exact ⟨⟨_, rfl⟩, hk, hd⟩
  · rintro env' w' ⟨⟨x, rfl⟩, hk1, h1⟩
    clear hd hk h
    unfold signsOf
    generalize signs1 a = a at *
    have c4 := h1.cell 4 _ rfl
    have c5 := h1.cell 5 _ rfl
    unfold signs2
    by_cases hc : 0 ≤ a.sl ∨ a.sh < 0
    · rw [if_pos hc]
      refine W_yes (by simp [c4, c5]; exact hc) ?_
      simp only [W_seq, W_draw]
      have hk2 : Kept (fun j => j = b) w w'.drew := hk1.drew
      have h2 : RBox w'.drew b a := h1
      generalize w'.drew = w2 at *
      have c2 := h2.cell 2 _ rfl
      have c3 := h2.cell 3 _ rfl
      have c4 := h2.cell 4 _ rfl
      have c5 := h2.cell 5 _ rfl
      refine W_chkIn [.int .u64 (mxI a.lo (w64 a.sl))] (by simp [c2, c4, mxI]) ?_
      simp only [W_seq, W_set]
      refine ok_intro (.int .u64 (mnI a.hi (w64 a.sh))) (by simp [c3, c5, mnI]) ?_
      try simp only [W_seq]
      refine W_store (xv := .pointer (some ⟨b, 2, none⟩)) (vv := .int .u64 (mxI a.lo (w64 a.sl))) (by simp) (by simp [c2, c4, mxI]) (h2.seti { a with lo := mxI a.lo (w64 a.sl) } 2 _ _ (by omega) (by simp)) (stab_nil _ _ _) ?_
      have h3 := RBox.put (blk_lt h2) { a with lo := mxI a.lo (w64 a.sl) }
      have hk3 := hk2.put (b := b) (fun _ => rfl) (.cells ({ a with lo := mxI a.lo (w64 a.sl) } : Rng).arr 66 (0, 0))
      generalize Eng.put w2 b (.cells ({ a with lo := mxI a.lo (w64 a.sl) } : Rng).arr 66 (0, 0)) = w3 at *
      try simp only [W_seq]
      refine W_store (xv := .pointer (some ⟨b, 3, none⟩)) (vv := .int .u64 (mnI a.hi (w64 a.sh))) (by simp) (by simp) (h3.seti { a with lo := mxI a.lo (w64 a.sl), hi := mnI a.hi (w64 a.sh) } 3 _ _ (by omega) (by simp)) (stab_nil _ _ _) ?_
      have h4 := RBox.put (blk_lt h3) { a with lo := mxI a.lo (w64 a.sl), hi := mnI a.hi (w64 a.sh) }
      have hk4 := hk3.put (b := b) (fun _ => rfl) (.cells ({ a with lo := mxI a.lo (w64 a.sl), hi := mnI a.hi (w64 a.sh) } : Rng).arr 66 (0, 0))
      simp [-Rng.arr]
      exact ⟨hk4, h4⟩
    · rw [if_neg hc]
      refine W_no (by simp [c4, c5]; omega) ?_
      simp [-Rng.arr]
      exact ⟨hk1, h1⟩
end Go.Proofs.YtkgpmjjleemdlaaGreat

set_option linter.unusedSimpArgs false
set_option linter.unusedVariables false
set_option maxRecDepth 8000
namespace Go.Proofs.YtkgpmjjleemdlaaGreat
open Go.Eng Go.Sort
attribute [local irreducible] Go.Eng.W

theorem bitsLen_64 {n : Nat} (h : n < 18446744073709551616) : bitsLen n ≤ 64 := (bitsLen_le_iff n 64).2 (by simpa using h)
def lenStep (k : Nat) (p : Nat × Nat) : Nat × Nat := if 2 ^ k ≤ p.1 then (p.1 / 2 ^ k, p.2 + k) else p
theorem lenStep_eq (k : Nat) (p : Nat × Nat) : bitsLen (lenStep k p).1 + (lenStep k p).2 = bitsLen p.1 + p.2 := by
  unfold lenStep
  split
  · rename_i h
    have := len_quot p.1 k h
    simp only
    omega
  · rfl
theorem lenStep_lt {k j : Nat} {p : Nat × Nat} (h : p.1 < 2 ^ (k + j)) (hj : k ≤ j ∨ True) : (lenStep k p).1 < 2 ^ (max k j) := by
  unfold lenStep
  split
  · have : p.1 / 2 ^ k < 2 ^ j := by
      rw [Nat.div_lt_iff_lt_mul (Nat.two_pow_pos k), ← Nat.pow_add, Nat.add_comm j k]; exact h
    exact Nat.lt_of_lt_of_le this (Nat.pow_le_pow_right (by omega) (by omega))
  · rename_i h2
    exact Nat.lt_of_lt_of_le (by omega) (Nat.pow_le_pow_right (by omega) (Nat.le_max_left k j))
set_option maxHeartbeats 4000000 in
theorem len64g_T (w0 : World) {n : Nat} (hn : n < 18446744073709551616) : T Tryz.prog w0 71 [.int .u64 n] = some (.int .i64 (bitsLen n)) :=
  T_of (by kernel_rfl) Tryz.func71 rfl ok_math_bits_Len64 (by simp) (by simp) fun B hB => by
    have s1 : bitsLen (lenStep 32 (n, 0)).1 + (lenStep 32 (n, 0)).2 = bitsLen n := by simpa using lenStep_eq 32 (n, 0)
    have l1 : (lenStep 32 (n, 0)).1 < 4294967296 := by simpa using lenStep_lt (k := 32) (j := 32) (p := (n, 0)) (by simpa using hn) (.inr trivial)
    have s2 := lenStep_eq 16 (lenStep 32 (n, 0))
    have l2 : (lenStep 16 (lenStep 32 (n, 0))).1 < 65536 := by simpa using lenStep_lt (k := 16) (j := 16) (by simpa using l1) (.inr trivial)
    have s3 := lenStep_eq 8 (lenStep 16 (lenStep 32 (n, 0)))
    have l3 : (lenStep 8 (lenStep 16 (lenStep 32 (n, 0)))).1 < 256 := by simpa using lenStep_lt (k := 8) (j := 8) (by simpa using l2) (.inr trivial)
    have hb := bitsLen_64 hn
    simp only [c_math_bits_Len64, C_seq, C_set]
    simp only [Ex.ev, Ok_some]
    refine C_cut (fun env l' => l' = [] ∧ env = [.int .u64 (lenStep 32 (n, 0)).1, .int .i64 (lenStep 32 (n, 0)).2]) ?_ ?_
    · unfold lenStep
      have e2 : (n : Int).fdiv (2 ^ (min 32 (IntKind.bits .u64))) = ((n / 4294967296 : Nat) : Int) := nat_fdiv' n 4294967296
      by_cases h : 4294967296 ≤ n
      · have h' : (4294967296 : Int) ≤ n := by omega
        have e3 : (2 : Nat) ^ 32 = 4294967296 := rfl
        rw [e3, if_pos h]
        simp [C_cond_eq, h', e2, -bits64]
      · have h' : ¬ (4294967296 : Int) ≤ n := by omega
        have e3 : (2 : Nat) ^ 32 = 4294967296 := rfl
        rw [e3, if_neg h]
        simp [C_cond_eq, h']
    rintro env l ⟨rfl, rfl⟩
    generalize lenStep 32 (n, 0) = p at *
    rw [C_seq]
    refine C_cut (fun env l' => l' = [] ∧ env = [.int .u64 (lenStep 16 p).1, .int .i64 (lenStep 16 p).2]) ?_ ?_
    · unfold lenStep
      have e2 : (p.1 : Int).fdiv (2 ^ (min 16 (IntKind.bits .u64))) = ((p.1 / 65536 : Nat) : Int) := nat_fdiv' p.1 65536
      have e3 : (2 : Nat) ^ 16 = 65536 := rfl
      have e4 : IntKind.i64.wrap ((p.2 : Int) + 16) = ((p.2 + 16 : Nat) : Int) := by rw [i64w (by omega) (by omega)]; omega
      by_cases h : 65536 ≤ p.1
      · have h' : (65536 : Int) ≤ p.1 := by omega
        rw [e3, if_pos h]
        simp [C_cond_eq, h', e2, e4, -bits64, -Int.natCast_add]
      · have h' : ¬ (65536 : Int) ≤ p.1 := by omega
        rw [e3, if_neg h]
        simp [C_cond_eq, h']
    rintro env l ⟨rfl, rfl⟩
    generalize lenStep 16 p = q at *
    rw [C_seq]
    refine C_cut (fun env l' => l' = [] ∧ env = [.int .u64 (lenStep 8 q).1, .int .i64 (lenStep 8 q).2]) ?_ ?_
    · unfold lenStep
      have e2 : (q.1 : Int).fdiv (2 ^ (min 8 (IntKind.bits .u64))) = ((q.1 / 256 : Nat) : Int) := nat_fdiv' q.1 256
      have e3 : (2 : Nat) ^ 8 = 256 := rfl
      have e4 : IntKind.i64.wrap ((q.2 : Int) + 8) = ((q.2 + 8 : Nat) : Int) := by rw [i64w (by omega) (by omega)]; omega
      by_cases h : 256 ≤ q.1
      · have h' : (256 : Int) ≤ q.1 := by omega
        rw [e3, if_pos h]
        simp [C_cond_eq, h', e2, e4, -bits64, -Int.natCast_add]
      · have h' : ¬ (256 : Int) ≤ q.1 := by omega
        rw [e3, if_neg h]
        simp [C_cond_eq, h']
    rintro env l ⟨rfl, rfl⟩
    generalize lenStep 8 q = r at *
    have t8 := tab8 _ l3
    have t9 := len8 _ l3
    have e5 : IntKind.u8.wrap (r.1 : Int) = r.1 := u8w (by omega) (by omega)
    have e6 : IntKind.i64.wrap (bitsLen r.1 : Int) = bitsLen r.1 := i64w (by omega) (by omega)
    have e7 : IntKind.i64.wrap ((r.2 : Int) + (bitsLen r.1 : Int)) = (bitsLen n : Int) := by rw [i64w (by omega) (by omega)]; omega
    simp [e5, t8, t9, e6, e7, -UInt8.toNat_ofNat']

/-! The upper bits that two numbers have alike; ranges settled. -/
def maskOf (n : Nat) : Int := if n = 64 then 18446744073709551615 else w64 (w64 (2 ^ (min n 64)) - 1)
def commonOf (lo hi : Int) : Num := let m := maskOf (bitsLen (bitXor .u64 lo hi).toNat); ⟨bitAndNot .u64 lo m, m⟩
theorem common_T (w0 : World) (lo hi : Int) : T Tryz.prog w0 184 [.int .u64 lo, .int .u64 hi] = some (commonOf lo hi).val :=
  T_of (by kernel_rfl) Tryz.func184 rfl ok_scalar_common (by simp) (by simp) fun B hB => by
    have hx := bXor_in lo hi
    unfold commonOf
    obtain ⟨n, en⟩ := Int.eq_ofNat_of_zero_le hx.1
    rw [en] at hx ⊢
    have hn : n < 18446744073709551616 := by have := hx.2; omega
    have t := len64g_T w0 hn
    have hb := bitsLen_64 hn
    simp only [Int.toNat_natCast]
    generalize bitsLen n = m at *
    by_cases h64 : m = 64
    · subst h64
      simp [c_scalar_common, C_cond_eq, t, maskOf, en]
    · have h64x : ¬ (m : Int) = 64 := by omega
      simp [c_scalar_common, C_cond_eq, t, maskOf, h64, h64x, en]
def setLoHi (a : Rng) : Rng := { a with lo := mxI a.lo a.b.v, hi := mnI a.hi (bitOr .u64 a.b.v a.b.m) }
def settleOf (a : Rng) : Rng × Bool :=
  if tRight a.b = false ∨ a.hi < a.lo ∨ a.sh < a.sl then (Rng.zero, false)
  else if (setLoHi a).hi < (setLoHi a).lo then (Rng.zero, false)
  else if (signsOf (setLoHi a)).hi < (signsOf (setLoHi a)).lo ∨ (signsOf (setLoHi a)).sh < (signsOf (setLoHi a)).sl then (Rng.zero, false)
  else if (tMeet (signsOf (setLoHi a)).b (commonOf (signsOf (setLoHi a)).lo (signsOf (setLoHi a)).hi)).2 = true then ({ signsOf (setLoHi a) with b := (tMeet (signsOf (setLoHi a)).b (commonOf (signsOf (setLoHi a)).lo (signsOf (setLoHi a)).hi)).1 }, true)
  else (Rng.zero, false)
theorem setLoHi_wf {a : Rng} (h : a.wf) : (setLoHi a).wf := ⟨h.1, mx_in h.2.1 h.1.1, mn_in h.2.2.1 (bOr_in _ _), h.2.2.2.1, h.2.2.2.2⟩
theorem zero_wf : Rng.zero.wf := by unfold Rng.wf Rng.zero Num.wf In64 InS; simp
theorem settle_wf {a : Rng} (h : a.wf) : (settleOf a).1.wf := by
  have hs := signs_wf (setLoHi_wf h)
  unfold settleOf
  split
  · exact zero_wf
  · split
    · exact zero_wf
    · split
      · exact zero_wf
      · split
        · exact ⟨tMeet_wf _ _, hs.2⟩
        · exact zero_wf
theorem RBox.row {w : World} {b : Nat} {a : Rng} (h : RBox w b a) : wrow w b 0 6 = some a.arr := wrow_box h rfl
theorem RBox.bits {w : World} {b : Nat} {a : Rng} (h : RBox w b a) : wrow w b 0 2 = some #[.int .u64 a.b.v, .int .u64 a.b.m] := by
  rw [wrow_of h (by simp)]
  rfl
theorem RBox.calm {w w' : World} {b : Nat} {a : Rng} (h : RBox w b a) (hk : Kept none' w w') : RBox w' b a := hk.has h fun h => h
theorem RBox.new (w : World) (a : Rng) : RBox (w.alloc (.cells a.arr 66)) w.heap.size a := hp_new w _
theorem RBox.setAll {w : World} {b : Nat} {a : Rng} (h : RBox w b a) (a' : Rng) : stv w 6 (.pointer (some ⟨b, 0, none⟩)) a'.val = some (Eng.put w b (.cells a'.arr 66 (0, 0))) :=
  box_store (v := a'.val) h rfl rfl (by simp [Value.cells, Value.oneCell'])
theorem RBox.setBits {w : World} {b : Nat} {a : Rng} (h : RBox w b a) (t : Num) : stv w 2 (.pointer (some ⟨b, 0, none⟩)) t.val = some (Eng.put w b (.cells ({ a with b := t } : Rng).arr 66 (0, 0))) := by
  rw [stv_of (n := 2) (v := t.val) h rfl (by simp) (.inl (by simp)) (by simp [Value.cells, Value.oneCell'])]
  rfl

def zNum : Num := ⟨0, 0⟩
def NBox (w : World) (b : Nat) (a : Num) : Prop := w.heap[b]? = some (.cells #[.int .u64 a.v, .int .u64 a.m] 64 (0, 0))
theorem NBox.row {w : World} {b : Nat} {a : Num} (h : NBox w b a) : wrow w b 0 2 = some #[.int .u64 a.v, .int .u64 a.m] := wrow_box h rfl
theorem NBox.calm {w w' : World} {b : Nat} {a : Num} (h : NBox w b a) (hk : Kept none' w w') : NBox w' b a := hk.has h fun h => h
theorem NBox.set {w : World} {b : Nat} {a : Num} (h : NBox w b a) (t : Num) : stv w 2 (.pointer (some ⟨b, 0, none⟩)) t.val = some (Eng.put w b (.cells #[.int .u64 t.v, .int .u64 t.m] 64 (0, 0))) :=
  box_store (v := t.val) h rfl rfl (by simp [Value.cells, Value.oneCell'])
set_option maxHeartbeats 4000000 in
theorem settle_ret (w : World) (a : Rng) : Ret Tryz.prog 170 [a.val] w fun r w' => r = .tuple #[(settleOf a).1.val, .bool (settleOf a).2] ∧ Kept none' w w' := by
  refine ret_of_W Tryz.func170 rfl ok_scalar_Settle ?_
  simp only [c_scalar_Settle, W_seq]
  refine W_new' (v := a.val) (cs := a.arr) (by simp) rfl ?_
  have h3 := RBox.new w a
  have hk1 := (Kept.refl none' w).alloc (.cells a.arr 66)
  generalize hb3 : w.heap.size = b3 at *
  generalize (w.alloc (.cells a.arr 66)) = w1 at *
  try simp only [W_seq]
  refine W_new' (v := Rng.zero.val) (cs := Rng.zero.arr) (by simp [Rng.zero]) rfl ?_
  have h1 := RBox.new w1 Rng.zero
  have hk2 := (Kept.refl none' w1).alloc (.cells Rng.zero.arr 66)
  have h32 := h3.calm hk2
  have hk02 := hk1.trans hk2
  have hb1 : w.heap.size ≤ w1.heap.size := hk1.size
  generalize (w1.alloc (.cells Rng.zero.arr 66)) = w2 at *
  generalize w1.heap.size = b1 at *
  clear h3 hk1 hk2
  simp only [W_seq, W_set]
  refine ok_intro (.bool false) (by simp) ?_
  try simp only [W_seq]
  refine W_calm (vs := [a.b.val]) (by simp [h32.bits]) (ret_of_T (tright_T w2 a.b)) ?_
  intro w3 hk3
  have h33 := h32.calm hk3
  have h13 := h1.calm hk3
  have hk03 := hk02.trans hk3
  have c2 := h33.cell 2 _ rfl
  have c3 := h33.cell 3 _ rfl
  have c4 := h33.cell 4 _ rfl
  have c5 := h33.cell 5 _ rfl
  have fail : ∀ (w' : World), Kept none' w w' → RBox w' b1 Rng.zero → ∃ w'', stv w' 6 (.pointer (some ⟨b1, 0, none⟩)) Rng.zero.val = some w'' ∧ wrow w'' b1 0 6 = some Rng.zero.arr ∧ Kept none' w w'' := by
    intro w' hk h
    exact ⟨_, h.setAll Rng.zero, (RBox.put (blk_lt h) Rng.zero).row, hk.putNew hb1 _⟩
  unfold settleOf
  by_cases hA : tRight a.b = false ∨ a.hi < a.lo ∨ a.sh < a.sl
  · rw [if_pos hA]
    refine W_yes (by simp [c2, c3, c4, c5]; rcases hA with h | h | h <;> simp [h]) ?_
    simp only [W_seq]
    obtain ⟨wf, hs, hr, hkf⟩ := fail w3 hk03 h13
    refine W_store (vv := Rng.zero.val) (by simp) (by simp [Rng.zero]) hs (stab_nil _ _ _) ?_
    simp [hr]
    exact hkf
  rw [if_neg hA]
  have hA1 : tRight a.b = true := by cases h : tRight a.b with | true => rfl | false => exact absurd (.inl h) hA
  have hA2 : ¬ a.hi < a.lo := fun h => hA (.inr (.inl h))
  have hA3 : ¬ a.sh < a.sl := fun h => hA (.inr (.inr h))
  refine W_no (by simp [c2, c3, c4, c5, hA1]; omega) ?_
  simp only [W_skip, W_seq, W_set]
  refine ok_intro a.val (by simp [h33.row]) ?_
  try simp only [W_seq]
  refine W_new' (v := Rng.zero.val) (cs := Rng.zero.arr) (by simp [Rng.zero]) rfl ?_
  have h5 := RBox.new w3 Rng.zero
  have hk4 := (Kept.refl none' w3).alloc (.cells Rng.zero.arr 66)
  have h14 := h13.calm hk4
  have hk04 := hk03.trans hk4
  have hb5 : w.heap.size ≤ w3.heap.size := hk03.size
  have hb15 : b1 < w3.heap.size := blk_lt h13
  generalize (w3.alloc (.cells Rng.zero.arr 66)) = w4 at *
  generalize w3.heap.size = b5 at *
  clear h33 h13 c2 c3 c4 c5 h32 h1 hk02 hk4 hk3 hk03
  try simp only [W_seq]
  refine W_store (vv := a.val) (by simp) (by simp) (h5.setAll a) (stab_nil _ _ _) ?_
  have h55 := RBox.put (blk_lt h5) a
  have hk05 := hk04.putNew hb5 (.cells a.arr 66 (0, 0))
  have h15 : RBox _ b1 Rng.zero := (put_other (o := .cells a.arr 66) (w := w4) (show b1 ≠ b5 by omega)).trans h14
  generalize Eng.put w4 b5 (.cells a.arr 66 (0, 0)) = w5 at *
  clear h5 h14 hk04
  have d0 := h55.cell 0 _ rfl
  have d1 := h55.cell 1 _ rfl
  have d2 := h55.cell 2 _ rfl
  have d3 := h55.cell 3 _ rfl
  try simp only [W_seq]
  refine W_chkIn [.int .u64 (mxI a.lo a.b.v)] (by simp [d0, d2, mxI]) ?_
  simp only [W_seq, W_set]
  refine ok_intro (.int .u64 (mnI a.hi (bitOr .u64 a.b.v a.b.m))) (by simp [d0, d1, d3, mnI]) ?_
  try simp only [W_seq]
  refine W_store (xv := .pointer (some ⟨b5, 2, none⟩)) (vv := .int .u64 (mxI a.lo a.b.v)) (by simp) (by simp [d0, d2, mxI]) (h55.seti { a with lo := mxI a.lo a.b.v } 2 _ _ (by omega) (by simp)) (stab_nil _ _ _) ?_
  have h56 := RBox.put (blk_lt h55) { a with lo := mxI a.lo a.b.v }
  have hk06 := hk05.putNew hb5 (.cells ({ a with lo := mxI a.lo a.b.v } : Rng).arr 66 (0, 0))
  have h16 : RBox _ b1 Rng.zero := (put_other (o := .cells ({ a with lo := mxI a.lo a.b.v } : Rng).arr 66) (w := w5) (show b1 ≠ b5 by omega)).trans h15
  generalize Eng.put w5 b5 (.cells ({ a with lo := mxI a.lo a.b.v } : Rng).arr 66 (0, 0)) = w6 at *
  clear h55 h15 hk05 d0 d1 d2 d3
  try simp only [W_seq]
  refine W_store (xv := .pointer (some ⟨b5, 3, none⟩)) (vv := .int .u64 (mnI a.hi (bitOr .u64 a.b.v a.b.m))) (by simp) (by simp) (h56.seti (setLoHi a) 3 _ _ (by omega) (by simp [setLoHi])) (stab_nil _ _ _) ?_
  have h57 := RBox.put (blk_lt h56) (setLoHi a)
  have hk07 := hk06.putNew hb5 (.cells (setLoHi a).arr 66 (0, 0))
  have h17 : RBox _ b1 Rng.zero := (put_other (o := .cells (setLoHi a).arr 66) (w := w6) (show b1 ≠ b5 by omega)).trans h16
  generalize Eng.put w6 b5 (.cells (setLoHi a).arr 66 (0, 0)) = w7 at *
  clear h56 h16 hk06
  generalize setLoHi a = x at *
  have d2 := h57.cell 2 _ rfl
  have d3 := h57.cell 3 _ rfl
  try simp only [W_seq]
  by_cases hB : x.hi < x.lo
  · rw [if_pos hB]
    refine W_yes (by simp [d2, d3, hB]) ?_
    simp only [W_seq]
    obtain ⟨wf, hs, hr, hkf⟩ := fail w7 hk07 h17
    refine W_store (vv := Rng.zero.val) (by simp) (by simp [Rng.zero]) hs (stab_nil _ _ _) ?_
    simp [hr]
    exact hkf
  rw [if_neg hB]
  refine W_no (by simp [d2, d3]; omega) ?_
  simp only [W_skip, W_seq]
  refine W_call (by simp) (signs_ret w7 b5 x h57) ?_
  rintro r w8 ⟨hk8, h58⟩
  refine ⟨stab_nil _ _ _, ?_⟩
  have hk08 := hk07.then hk8 fun j hj e => by omega
  have h18 : RBox w8 b1 Rng.zero := hk8.has h17 (by omega)
  clear h57 h17 hk07 hk8 d2 d3
  generalize signsOf x = y at *
  have d2 := h58.cell 2 _ rfl
  have d3 := h58.cell 3 _ rfl
  have d4 := h58.cell 4 _ rfl
  have d5 := h58.cell 5 _ rfl
  try simp only [W_seq]
  by_cases hC : y.hi < y.lo ∨ y.sh < y.sl
  · rw [if_pos hC]
    refine W_yes (by simp [d2, d3, d4, d5]; exact hC) ?_
    simp only [W_seq]
    obtain ⟨wf, hs, hr, hkf⟩ := fail w8 hk08 h18
    refine W_store (vv := Rng.zero.val) (by simp) (by simp [Rng.zero]) hs (stab_nil _ _ _) ?_
    simp [hr]
    exact hkf
  rw [if_neg hC]
  refine W_no (by simp [d2, d3, d4, d5]; omega) ?_
  simp only [W_skip, W_seq, W_draw]
  have hk09 : Kept none' w w8.drew := hk08.drew
  have h59 : RBox w8.drew b5 y := h58
  have h19 : RBox w8.drew b1 Rng.zero := h18
  generalize w8.drew = w9 at *
  clear h58 h18 hk08 d2 d3 d4 d5
  have d2 := h59.cell 2 _ rfl
  have d3 := h59.cell 3 _ rfl
  simp only [W_seq, W_set]
  refine ok_intro y.b.val (by simp [h59.bits]) ?_
  try simp only [W_seq, W_set]
  refine ok_intro (.int .u64 y.lo) (by simp [d2]) ?_
  try simp only [W_seq, W_set]
  refine ok_intro (.int .u64 y.hi) (by simp [d3]) ?_
  try simp only [W_seq]
  refine W_cut (fun env' w' => Kept none' w w' ∧ RBox w' b5 y ∧ RBox w' b1 Rng.zero ∧ ∃ (b11 : Nat) (v8 v10 : Value), NBox w' b11 (tMeet y.b (commonOf y.lo y.hi)).1 ∧
    env' = [a.val, .pointer (some ⟨b1, 0, none⟩), .bool false, .pointer (some ⟨b3, 0, none⟩), .bool true, .pointer (some ⟨b5, 0, none⟩), a.val, .int .u64 (mnI a.hi (bitOr .u64 a.b.v a.b.m)), v8, y.b.val, v10, .pointer (some ⟨b11, 0, none⟩), .bool (tMeet y.b (commonOf y.lo y.hi)).2, .int .u64 y.lo, .int .u64 y.hi]) ?_ ?_
  · have t1 := fun w => common_T w y.lo y.hi
    have t2 := fun w => tmeet_T w y.b (commonOf y.lo y.hi)
    generalize commonOf y.lo y.hi = cm at *
    generalize tMeet y.b cm = mt at *
    have fin : ∀ (w' : World) (b11 : Nat) (v8 v10 : Value), Kept none' w9 w' → w9.heap.size ≤ b11 → NBox w' b11 zNum → ∃ w'', stv w' 2 (.pointer (some ⟨b11, 0, none⟩)) mt.1.val = some w'' ∧ Kept none' w w'' ∧ RBox w'' b5 y ∧ RBox w'' b1 Rng.zero ∧ NBox w'' b11 mt.1 := by
      intro w' b11 v8 v10 hk hb hn
      have hlt : b5 < w9.heap.size := blk_lt h59
      have hkk := hk.putNew hb (.cells #[.int .u64 mt.1.v, .int .u64 mt.1.m] 64 (0, 0))
      exact ⟨_, hn.set mt.1, hk09.trans hkk, h59.calm hkk, h19.calm hkk, put_same (blk_lt hn)⟩
    rw [W_alt]
    refine ⟨?_, ?_⟩
    · simp only [W_seq]
      refine W_calm (by simp) (ret_of_T (t1 w9)) ?_
      intro w10 hk10
      rw [W_alt]
      refine ⟨?_, ?_⟩
      · simp only [W_seq]
        refine W_calm (vs := [y.b.val, cm.val]) (by simp) (ret_of_T (t2 w10)) ?_
        intro w11 hk11
        simp only [W_seq]
        refine W_chkIn [.bool mt.2, mt.1.val] (by simp) ?_
        simp only [W_seq]
        refine W_new' (v := zNum.val) (cs := #[.int .u64 0, .int .u64 0]) (by simp [zNum]) rfl ?_
        have hka := (hk10.trans hk11).alloc (.cells #[.int .u64 0, .int .u64 0] 64)
        obtain ⟨w12, hs, q1, q2, q3, q4⟩ := fin _ w11.heap.size (cm.val) (.tuple #[mt.1.val, .bool mt.2]) hka (hk10.trans hk11).size (hp_new w11 _)
        simp only [W_seq]
        refine W_store (vv := mt.1.val) (by simp) (by simp) hs (stab_nil _ _ _) ?_
        simp
        exact ⟨q1, q2, q3, q4, hA1⟩
      · simp only [W_seq]
        refine W_new' (v := zNum.val) (cs := #[.int .u64 0, .int .u64 0]) (by simp [zNum]) rfl ?_
        have hka := hk10.alloc (.cells #[.int .u64 0, .int .u64 0] 64)
        have hn0 : NBox _ w10.heap.size zNum := hp_new w10 (.cells #[.int .u64 0, .int .u64 0] 64)
        have hs10 := hk10.size
        generalize w10.alloc (.cells #[.int .u64 0, .int .u64 0] 64) = w11 at *
        generalize w10.heap.size = b11 at *
        simp only [W_seq]
        refine W_calm (vs := [y.b.val, cm.val]) (by simp) (ret_of_T (t2 w11)) ?_
        intro w12 hk12
        simp only [W_seq]
        refine W_chkIn [.bool mt.2] (by simp) ?_
        obtain ⟨w13, hs, q1, q2, q3, q4⟩ := fin w12 b11 (cm.val) (.tuple #[mt.1.val, .bool mt.2]) (hka.trans hk12) hs10 (hn0.calm hk12)
        simp only [W_seq]
        refine W_store (vv := mt.1.val) (by simp) (by simp) hs (stab_nil _ _ _) ?_
        simp
        exact ⟨q1, q2, q3, q4, hA1⟩
    · simp only [W_seq]
      refine W_new' (v := zNum.val) (cs := #[.int .u64 0, .int .u64 0]) (by simp [zNum]) rfl ?_
      have hka := (Kept.refl none' w9).alloc (.cells #[.int .u64 0, .int .u64 0] 64)
      have hn0 : NBox _ w9.heap.size zNum := hp_new w9 (.cells #[.int .u64 0, .int .u64 0] 64)
      have fin' := fun w' => fin w' w9.heap.size
      generalize w9.alloc (.cells #[.int .u64 0, .int .u64 0] 64) = w10 at *
      generalize hb9 : w9.heap.size = b11 at *
      simp only [W_seq]
      refine W_calm (by simp) (ret_of_T (t1 w10)) ?_
      intro w11 hk11
      simp only [W_seq]
      refine W_calm (vs := [y.b.val, cm.val]) (by simp) (ret_of_T (t2 w11)) ?_
      intro w12 hk12
      simp only [W_seq]
      refine W_chkIn [.bool mt.2] (by simp) ?_
      obtain ⟨w13, hs, q1, q2, q3, q4⟩ := fin' w12 (cm.val) (.tuple #[mt.1.val, .bool mt.2]) (hka.trans (hk11.trans hk12)) (Nat.le_refl _) (hn0.calm (hk11.trans hk12))
      simp only [W_seq]
      refine W_store (vv := mt.1.val) (by simp) (by simp) hs (stab_nil _ _ _) ?_
      simp
      exact ⟨q1, q2, q3, q4, hA1⟩
  rintro env' w10 ⟨hk10, h510, h110, b11, v8, v10, hn, rfl⟩
  generalize tMeet y.b (commonOf y.lo y.hi) = mt at *
  clear h59 h19 hk09 d2 d3
  simp only [W_seq]
  by_cases hD : mt.2 = true
  · rw [if_pos hD]
    refine W_no (by simp [hD]) ?_
    simp only [W_skip, W_seq]
    refine W_store (xv := .pointer (some ⟨b5, 0, none⟩)) (vv := mt.1.val) (by simp) (by simp [hn.row]) (h510.setBits mt.1) (stab_nil _ _ _) ?_
    have h511 := RBox.put (blk_lt h510) { y with b := mt.1 }
    have hk11 := hk10.putNew hb5 (.cells ({ y with b := mt.1 } : Rng).arr 66 (0, 0))
    have h111 : RBox _ b1 Rng.zero := (put_other (o := .cells ({ y with b := mt.1 } : Rng).arr 66) (w := w10) (show b1 ≠ b5 by omega)).trans h110
    generalize Eng.put w10 b5 (.cells ({ y with b := mt.1 } : Rng).arr 66 (0, 0)) = w11 at *
    simp only [W_seq]
    refine W_store (xv := .pointer (some ⟨b1, 0, none⟩)) (vv := ({ y with b := mt.1 } : Rng).val) (by simp) (by simp [h511.row]) (h111.setAll { y with b := mt.1 }) (stab_nil _ _ _) ?_
    have h112 := RBox.put (blk_lt h111) { y with b := mt.1 }
    have hk12 := hk11.putNew hb1 (.cells ({ y with b := mt.1 } : Rng).arr 66 (0, 0))
    generalize Eng.put w11 b1 (.cells ({ y with b := mt.1 } : Rng).arr 66 (0, 0)) = w12 at *
    simp [h112.row]
    exact hk12
  · have hD' : mt.2 = false := by simpa using hD
    rw [if_neg hD]
    refine W_yes (by simp [hD']) ?_
    simp only [W_seq]
    obtain ⟨wf, hs, hr, hkf⟩ := fail w10 hk10 h110
    refine W_store (vv := Rng.zero.val) (by simp) (by simp [Rng.zero]) hs (stab_nil _ _ _) ?_
    simp [hr]
    exact hkf
theorem settle_T (w0 : World) (a : Rng) : T Tryz.prog w0 170 [a.val] = some (.tuple #[(settleOf a).1.val, .bool (settleOf a).2]) :=
  T_of_ret (by kernel_rfl) (by simp) (by simp) fun w _ => settle_ret w a
end Go.Proofs.YtkgpmjjleemdlaaGreat

set_option linter.unusedSimpArgs false
set_option linter.unusedVariables false
set_option maxRecDepth 8000
namespace Go.Proofs.YtkgpmjjleemdlaaGreat
open Go.Eng Go.Sort
attribute [local irreducible] Go.Eng.W

@[simp] theorem ost_bits (a b c d e f : Value) (v m : Int) : ostC #[a, b, c, d, e, f] 2 0 (.agg #[.int .u64 v, .int .u64 m]) = some #[.int .u64 v, .int .u64 m, c, d, e, f] := by simp [ostC, Value.oneCell']

def rAny : Rng := ⟨tAny, 0, 18446744073709551615, -9223372036854775808, 9223372036854775807⟩
theorem rAny_wf : rAny.wf := ⟨tAny_wf, by unfold rAny In64 InS; simp⟩
theorem rany_T (w0 : World) : T Tryz.prog w0 128 [] = some rAny.val :=
  T_of (by kernel_rfl) Tryz.func128 rfl ok_scalar_Any (by simp) (by simp) fun B hB => by
    have e := tany_T w0
    simp [tAny] at e
    simp [c_scalar_Any, rAny, e, tAny]
def settledR (a : Rng) : Rng := if (settleOf a).2 = true then (settleOf a).1 else a
theorem settledR_wf {a : Rng} (h : a.wf) : (settledR a).wf := by
  unfold settledR
  split
  · exact settle_wf h
  · exact h
theorem settledR_T (w0 : World) (a : Rng) : T Tryz.prog w0 153 [a.val] = some (settledR a).val :=
  T_of (by kernel_rfl) Tryz.func153 rfl ok_scalar_settled (by simp) (by simp) fun B hB => by
    have e := settle_T w0 a
    simp at e
    unfold settledR
    cases h : (settleOf a).2 <;> rw [h] at e <;> simp [c_scalar_settled, e, C_cond_eq]
def ofBits (t : Num) : Rng := settledR { rAny with b := t }
theorem ofBits_wf {t : Num} (h : t.wf) : (ofBits t).wf := settledR_wf ⟨h, rAny_wf.2⟩
theorem ofBits_T (w0 : World) (t : Num) : T Tryz.prog w0 154 [t.val] = some (ofBits t).val :=
  T_of (by kernel_rfl) Tryz.func154 rfl ok_scalar_ofBits (by simp) (by simp) fun B hB => by
    have e := rany_T w0
    have e2 := settledR_T w0 { rAny with b := t }
    simp [rAny, tAny] at e e2
    unfold ofBits
    simp [c_scalar_ofBits, e, e2, rAny, tAny, rowOf]
def betweenR (lo hi : Int) : Rng := settledR { rAny with lo := lo, hi := hi }
theorem between_wf {lo hi : Int} (h : In64 lo) (h2 : In64 hi) : (betweenR lo hi).wf := settledR_wf ⟨tAny_wf, h, h2, rAny_wf.2.2.2⟩
theorem between_T (w0 : World) (lo hi : Int) : T Tryz.prog w0 152 [.int .u64 lo, .int .u64 hi] = some (betweenR lo hi).val :=
  T_of (by kernel_rfl) Tryz.func152 rfl ok_scalar_between (by simp) (by simp) fun B hB => by
    have e := rany_T w0
    have e2 := settledR_T w0 { rAny with lo := lo, hi := hi }
    simp [rAny, tAny] at e e2
    unfold betweenR
    simp [c_scalar_between, e, e2, rAny, tAny, rowOf]
def tHas (a : Num) (x : Int) : Bool := decide (bitAndNot .u64 x a.m = a.v)
theorem thasg_T (w0 : World) (a : Num) (x : Int) : T Tryz.prog w0 159 [a.val, .int .u64 x] = some (.bool (tHas a x)) :=
  T_of (by kernel_rfl) Tryz.func159 rfl ok_tnum_Has (by simp) (by simp) fun B hB => by
    simp [c_tnum_Has, tHas]
def hasR (a : Rng) (x : Int) : Bool := tHas a.b x && decide (a.lo ≤ x) && decide (x ≤ a.hi) && decide (a.sl ≤ i64 x) && decide (i64 x ≤ a.sh)
theorem hasg_T (w0 : World) (a : Rng) (x : Int) : T Tryz.prog w0 142 [a.val, .int .u64 x] = some (.bool (hasR a x)) :=
  T_of (by kernel_rfl) Tryz.func142 rfl ok_scalar_Has (by simp) (by simp) fun B hB => by
    have e := thasg_T w0 a.b x
    simp at e
    unfold hasR
    simp [c_scalar_Has, e, rowOf, pickV_bool]
def aloneR (a : Rng) : Bool := decide (a.b.m = 0) && decide (a.lo = a.hi) && decide (a.sl = a.sh) && hasR a a.lo
theorem aloneg_T (w0 : World) (a : Rng) : T Tryz.prog w0 120 [a.val] = some (.bool (aloneR a)) :=
  T_of (by kernel_rfl) Tryz.func120 rfl ok_scalar_alone (by simp) (by simp) fun B hB => by
    have e := hasg_T w0 a a.lo
    simp at e
    unfold aloneR
    cases h : (decide (a.b.m = 0) && decide (a.lo = a.hi) && decide (a.sl = a.sh))
    · simp [c_scalar_alone, e, h, pickV_bool, C_cond_eq]
    · simp [c_scalar_alone, e, h, pickV_bool, C_cond_eq]
def withinR (a b : Rng) : Bool := (decide (b.lo ≤ a.lo) && decide (a.hi ≤ b.hi)) && (decide (b.sl ≤ a.sl) && decide (a.sh ≤ b.sh)) && tWithin a.b b.b
theorem within_T (w0 : World) (a b : Rng) : T Tryz.prog w0 117 [a.val, b.val] = some (.bool (withinR a b)) :=
  T_of (by kernel_rfl) Tryz.func117 rfl ok_scalar_Within (by simp) (by simp) fun B hB => by
    have e := twithin_T w0 a.b b.b
    simp at e
    unfold withinR
    cases h1 : (decide (b.lo ≤ a.lo) && decide (a.hi ≤ b.hi)) <;> cases h2 : (decide (b.sl ≤ a.sl) && decide (a.sh ≤ b.sh)) <;> simp [c_scalar_Within, e, h1, h2, pickV_bool, C_cond_eq, rowOf]
def lowR (a : Rng) (n : Int) : Rng :=
  if n = 1 ∨ n = 2 ∨ n = 4 then (if a.hi ≤ keepOf n then settledR { betweenR a.lo a.hi with b := tLow a.b n } else ofBits (tLow a.b n)) else a
theorem lowR_wf {a : Rng} (h : a.wf) (n : Int) : (lowR a n).wf := by
  unfold lowR
  split
  · split
    · exact settledR_wf ⟨tLow_wf h.1 n, (between_wf h.2.1 h.2.2.1).2⟩
    · exact ofBits_wf (tLow_wf h.1 n)
  · exact h
set_option maxHeartbeats 2000000 in
theorem low_T (w0 : World) (a : Rng) (n : Int) : T Tryz.prog w0 123 [a.val, .int .i64 n] = some (lowR a n).val :=
  T_of (by kernel_rfl) Tryz.func123 rfl ok_scalar_Low (by simp) (by simp) fun B hB => by
    have e1 := tlow_T w0 a.b n
    have e2 := between_T w0 a.lo a.hi
    have e3 := settledR_T w0 { betweenR a.lo a.hi with b := tLow a.b n }
    have e4 := ofBits_T w0 (tLow a.b n)
    simp at e1 e2 e3 e4
    unfold lowR
    by_cases h : n = 1 ∨ n = 2 ∨ n = 4
    · rw [if_pos h]
      have ek : ∀ x, shl64 1 x = w64 (2 ^ (min x.toNat 64)) := fun x => by unfold shl64; rw [Int.one_mul]
      rcases h with rfl | rfl | rfl
      · by_cases h2 : a.hi ≤ keepOf 1
        · rw [if_pos h2]
          simp [keepOf, ek, c8w] at h2
          simp [c_scalar_Low, C_cond_eq, e1, e2, e3, e4, h2, rowOf, c8w]
        · rw [if_neg h2]
          simp [keepOf, ek, c8w] at h2
          simp [c_scalar_Low, C_cond_eq, e1, e2, e3, e4, Int.not_le.2 h2, rowOf, c8w]
      · by_cases h2 : a.hi ≤ keepOf 2
        · rw [if_pos h2]
          simp [keepOf, ek, c16w] at h2
          simp [c_scalar_Low, C_cond_eq, e1, e2, e3, e4, h2, rowOf, c16w]
        · rw [if_neg h2]
          simp [keepOf, ek, c16w] at h2
          simp [c_scalar_Low, C_cond_eq, e1, e2, e3, e4, Int.not_le.2 h2, rowOf, c16w]
      · by_cases h2 : a.hi ≤ keepOf 4
        · rw [if_pos h2]
          simp [keepOf, ek, c32w] at h2
          simp [c_scalar_Low, C_cond_eq, e1, e2, e3, e4, h2, rowOf, c32w]
        · rw [if_neg h2]
          simp [keepOf, ek, c32w] at h2
          simp [c_scalar_Low, C_cond_eq, e1, e2, e3, e4, Int.not_le.2 h2, rowOf, c32w]
    · rw [if_neg h]
      have h1 : ¬ n = 1 := fun e => h (.inl e)
      have h2 : ¬ n = 2 := fun e => h (.inr (.inl e))
      have h4 : ¬ n = 4 := fun e => h (.inr (.inr e))
      simp [c_scalar_Low, C_cond_eq, h1, h2, h4]
end Go.Proofs.YtkgpmjjleemdlaaGreat

set_option linter.unusedSimpArgs false
set_option linter.unusedVariables false
set_option maxRecDepth 8000
namespace Go.Proofs.YtkgpmjjleemdlaaGreat
open Go.Eng Go.Sort
attribute [local irreducible] Go.Eng.W

theorem run_add (x y : Int) (w : World) (hx : In64 x) (hy : In64 y) : ((Tag.ext 161).sem [.int .u64 x, .int .u64 y, .int .u64 0]).run Tryz.prog w = .ok (.tuple #[.int .u64 ((x + y) % 18446744073709551616), .int .u64 ((x + y) / 18446744073709551616)]) w := by
  obtain ⟨a, rfl⟩ := Int.eq_ofNat_of_zero_le hx.1
  obtain ⟨b, rfl⟩ := Int.eq_ofNat_of_zero_le hy.1
  have h1 := hx.2
  have h2 := hy.2
  have h3 := run_callFunc_extern Tryz.func161 (by kernel_rfl) (by kernel_rfl) (by kernel_rfl) (e := add64Entry) (by kernel_rfl) (args := #[.int .u64 a, .int .u64 b, .int .u64 0]) (w := w)
  have h4 := run_add64 (P := Tryz.prog) a b 0 (by omega) (by omega) (by omega) (by omega) w
  rw [h4] at h3
  simp only [Result.andThen_ok, Int.add_zero] at h3
  show (do
    match ← callFunc 161 #[.int .u64 a, .int .u64 b, .int .u64 0] with
    | .value v => pure v
    | _ => stuck "no value" : Sem Value).run Tryz.prog w = _
  simp only [Sem.run_bind, h3, Result.andThen_ok, Sem.run_pure]
def sumR (a b : Rng) : Rng := settledR (if (a.hi + b.hi) / 18446744073709551616 = 0 then { rAny with b := tAdd a.b b.b, lo := w64 (a.lo + b.lo), hi := w64 (a.hi + b.hi) } else { rAny with b := tAdd a.b b.b })
def diffR (a b : Rng) : Rng := settledR (if b.hi ≤ a.lo then { rAny with b := tSub a.b b.b, lo := w64 (a.lo - b.hi), hi := w64 (a.hi - b.lo) } else { rAny with b := tSub a.b b.b })
theorem diff_T (w0 : World) (a b : Rng) : T Tryz.prog w0 146 [a.val, b.val] = some (diffR a b).val :=
  T_of (by kernel_rfl) Tryz.func146 rfl ok_scalar_difference (by simp) (by simp) fun B hB => by
    have e1 := rany_T w0
    have e2 := tsub_T w0 a.b b.b
    have e3 := settledR_T w0 { rAny with b := tSub a.b b.b, lo := w64 (a.lo - b.hi), hi := w64 (a.hi - b.lo) }
    have e4 := settledR_T w0 { rAny with b := tSub a.b b.b }
    simp [rAny, tAny] at e1 e2 e3 e4
    unfold diffR
    by_cases h : b.hi ≤ a.lo
    · rw [if_pos h]
      simp [c_scalar_difference, C_cond_eq, e1, e2, e3, e4, h, rAny, tAny, rowOf]
    · rw [if_neg h]
      simp [c_scalar_difference, C_cond_eq, e1, e2, e3, e4, Int.not_le.1 h, h, rAny, tAny, rowOf]
def mulHi (x y : Int) : Int := x * y / 18446744073709551616
theorem and_low (x : Int) (hx : In64 x) : bitAnd .u64 x 4294967295 = x % 4294967296 := by
  obtain ⟨a, rfl⟩ := Int.eq_ofNat_of_zero_le hx.1
  have h1 := hx.2
  have e := u64and a 4294967295 (by omega) (by omega)
  have e2 : a &&& 4294967295 = a % 4294967296 := Nat.and_two_pow_sub_one_eq_mod a 32
  rw [e2] at e
  rw [show ((a : Nat) : Int) % 4294967296 = ((a % 4294967296 : Nat) : Int) by omega]
  exact e
theorem shr32 (x : Int) (hx : 0 ≤ x) : x.fdiv 4294967296 = x / 4294967296 := by
  rw [Int.fdiv_eq_ediv_of_nonneg _ (by omega)]
theorem mul_fit {x y n : Int} (hx0 : 0 ≤ x) (hx : x ≤ n) (hy0 : 0 ≤ y) (hy : y ≤ n) : 0 ≤ x * y ∧ x * y ≤ n * n := ⟨Int.mul_nonneg hx0 hy0, Int.mul_le_mul hx hy hy0 (by omega)⟩
set_option maxHeartbeats 2000000 in
theorem mul64_T (w0 : World) (x y : Int) (hx : In64 x) (hy : In64 y) : T Tryz.prog w0 164 [.int .u64 x, .int .u64 y] = some (.tuple #[.int .u64 (mulHi x y), .int .u64 (w64 (x * y))]) :=
  T_of (by kernel_rfl) Tryz.func164 rfl ok_math_bits_Mul64 (by simp) (by simp) fun B hB => by
    obtain ⟨x0, x1⟩ := hx
    obtain ⟨y0, y1⟩ := hy
    have a1 := and_low x ⟨x0, x1⟩
    have a2 := and_low y ⟨y0, y1⟩
    have b1 := shr32 x x0
    have b2 := shr32 y y0
    have p00 := mul_fit (x := x % 4294967296) (y := y % 4294967296) (n := 4294967295) (by omega) (by omega) (by omega) (by omega)
    have p10 := mul_fit (x := x / 4294967296) (y := y % 4294967296) (n := 4294967295) (by omega) (by omega) (by omega) (by omega)
    have p01 := mul_fit (x := x % 4294967296) (y := y / 4294967296) (n := 4294967295) (by omega) (by omega) (by omega) (by omega)
    have p11 := mul_fit (x := x / 4294967296) (y := y / 4294967296) (n := 4294967295) (by omega) (by omega) (by omega) (by omega)
    have ex : x = 4294967296 * (x / 4294967296) + x % 4294967296 := by omega
    have ey : y = 4294967296 * (y / 4294967296) + y % 4294967296 := by omega
    have exy : x * y = 18446744073709551616 * (x / 4294967296 * (y / 4294967296)) + 4294967296 * (x / 4294967296 * (y % 4294967296)) + 4294967296 * (x % 4294967296 * (y / 4294967296)) + x % 4294967296 * (y % 4294967296) := by
      conv => lhs; rw [ex, ey]
      generalize x / 4294967296 = p
      generalize x % 4294967296 = q
      generalize y / 4294967296 = r
      generalize y % 4294967296 = s
      simp only [Int.add_mul, Int.mul_add, Int.mul_assoc]
      have e1 : p * (4294967296 * r) = 4294967296 * (p * r) := by rw [← Int.mul_assoc, Int.mul_comm p, Int.mul_assoc]
      have e2 : q * (4294967296 * r) = 4294967296 * (q * r) := by rw [← Int.mul_assoc, Int.mul_comm q, Int.mul_assoc]
      rw [e1, e2]
      omega
    unfold mulHi
    generalize hP : x * y = P at *
    simp only [c_math_bits_Mul64]
    simp [a1, a2, b1, b2, hP]
    generalize x % 4294967296 = xl at *
    generalize x / 4294967296 = xh at *
    generalize y % 4294967296 = yl at *
    generalize y / 4294967296 = yh at *
    generalize xl * yl = q00 at *
    generalize xh * yl = q10 at *
    generalize xl * yh = q01 at *
    generalize xh * yh = q11 at *
    have u1 : IntKind.u64.wrap q00 = q00 := u64w (by omega) (by omega)
    have u2 : IntKind.u64.wrap q10 = q10 := u64w (by omega) (by omega)
    have u3 : IntKind.u64.wrap q01 = q01 := u64w (by omega) (by omega)
    have u4 : IntKind.u64.wrap q11 = q11 := u64w (by omega) (by omega)
    have s1 := shr32 q00 (by omega)
    have u5 : IntKind.u64.wrap (q10 + q00 / 4294967296) = q10 + q00 / 4294967296 := u64w (by omega) (by omega)
    have a3 := and_low (q10 + q00 / 4294967296) ⟨by omega, by omega⟩
    have s2 := shr32 (q10 + q00 / 4294967296) (by omega)
    have u6 : IntKind.u64.wrap ((q10 + q00 / 4294967296) % 4294967296 + q01) = (q10 + q00 / 4294967296) % 4294967296 + q01 := u64w (by omega) (by omega)
    have s3 := shr32 ((q10 + q00 / 4294967296) % 4294967296 + q01) (by omega)
    have u7 : IntKind.u64.wrap (q11 + (q10 + q00 / 4294967296) / 4294967296) = q11 + (q10 + q00 / 4294967296) / 4294967296 := u64w (by omega) (by omega)
    simp [u1, u2, u3, u4, s1, u5, a3, s2, u6, s3, u7]
    rw [u64w (by omega) (by omega)]
    omega
def prodR (a b : Rng) : Rng := settledR (if mulHi a.hi b.hi = 0 then { rAny with b := tMul a.b b.b, lo := w64 (a.lo * b.lo), hi := w64 (a.hi * b.hi) } else { rAny with b := tMul a.b b.b })
theorem prod_T (w0 : World) (a b : Rng) (ha : a.wf) (hb : b.wf) : T Tryz.prog w0 147 [a.val, b.val] = some (prodR a b).val :=
  T_of (by kernel_rfl) Tryz.func147 rfl ok_scalar_product (by simp) (by simp) fun B hB => by
    have e1 := rany_T w0
    have e2 := tmul_T w0 a.b b.b ha.1
    have e3 := settledR_T w0 { rAny with b := tMul a.b b.b, lo := w64 (a.lo * b.lo), hi := w64 (a.hi * b.hi) }
    have e5 := settledR_T w0 { rAny with b := tMul a.b b.b }
    have e4 := mul64_T w0 a.hi b.hi ha.2.2.1 hb.2.2.1
    simp [rAny, tAny] at e1 e2 e3 e5
    unfold prodR
    by_cases h : mulHi a.hi b.hi = 0
    · rw [if_pos h]
      simp [c_scalar_product, C_cond_eq, e1, e2, e3, e4, e5, h, rAny, tAny, rowOf]
    · rw [if_neg h]
      simp [c_scalar_product, C_cond_eq, e1, e2, e3, e4, e5, h, rAny, tAny, rowOf]
def bitwR (op : Nat) (a b : Rng) : Rng :=
  settledR (if op = 5 then { rAny with b := tAnd a.b b.b, hi := mnI a.hi b.hi } else if op = 4 then { rAny with b := tOr a.b b.b, lo := mxI a.lo b.lo } else { rAny with b := tXor a.b b.b })
theorem bitw_T (w0 : World) (op : Nat) (a b : Rng) : T Tryz.prog w0 148 [.int .i64 op, a.val, b.val] = some (bitwR op a b).val :=
  T_of (by kernel_rfl) Tryz.func148 rfl ok_scalar_bitwise (by simp) (by simp) fun B hB => by
    have e1 := rany_T w0
    have e2 := tand_T w0 a.b b.b
    have e3 := settledR_T w0 { rAny with b := tAnd a.b b.b, hi := mnI a.hi b.hi }
    have e6 := settledR_T w0 { rAny with b := tOr a.b b.b, lo := mxI a.lo b.lo }
    have e7 := settledR_T w0 { rAny with b := tXor a.b b.b }
    have e4 := tor_T w0 a.b b.b
    have e5 := txor_T w0 a.b b.b
    simp [rAny, tAny, mnI, mxI] at e1 e2 e3 e4 e5 e6 e7
    unfold bitwR
    by_cases h5 : op = 5
    · subst h5
      simp [c_scalar_bitwise, C_cond_eq, e1, e2, e3, e4, e5, e6, e7, rAny, tAny, rowOf, mnI]
    · by_cases h4 : op = 4
      · subst h4
        simp [c_scalar_bitwise, C_cond_eq, e1, e2, e3, e4, e5, e6, e7, rAny, tAny, rowOf, mxI]
      · have h5' : ¬ (op : Int) = 5 := by omega
        have h4' : ¬ (op : Int) = 4 := by omega
        simp [c_scalar_bitwise, C_cond_eq, e1, e2, e3, e4, e5, e6, e7, e5, rAny, tAny, rowOf, h5, h4, h5', h4']
def quoR (op : Nat) (a b : Rng) : Rng :=
  if op = 3 ∧ 0 < b.lo ∧ b.lo ≤ b.hi then betweenR (w64 (a.lo.tdiv b.hi)) (w64 (a.hi.tdiv b.lo)) else if op = 3 then betweenR 0 a.hi
  else if 0 < b.lo then betweenR 0 (mnI a.hi (w64 (b.hi - 1))) else betweenR 0 a.hi
theorem quo_T (w0 : World) (op : Nat) (a b : Rng) : T Tryz.prog w0 149 [.int .i64 op, a.val, b.val] = some (quoR op a b).val :=
  T_of (by kernel_rfl) Tryz.func149 rfl ok_scalar_quotient (by simp) (by simp) fun B hB => by
    have e1 := between_T w0
    simp at e1
    unfold quoR
    by_cases h3 : op = 3
    · subst h3
      by_cases h : 0 < b.lo ∧ b.lo ≤ b.hi
      · rw [if_pos ⟨rfl, h⟩]
        have n1 : b.hi ≠ 0 := by omega
        have n2 : b.lo ≠ 0 := by omega
        simp [c_scalar_quotient, C_cond_eq, e1, h.1, h.2, n1, n2]
      · rw [if_neg (fun e => h e.2), if_pos rfl]
        by_cases h0 : 0 < b.lo
        · have h1 : ¬ b.lo ≤ b.hi := fun e => h ⟨h0, e⟩
          simp [c_scalar_quotient, C_cond_eq, e1, h0, h1]
        · simp [c_scalar_quotient, C_cond_eq, e1, h0]
    · have h3' : ¬ (op : Int) = 3 := by omega
      rw [if_neg (fun e => h3 e.1), if_neg h3]
      by_cases h0 : 0 < b.lo
      · rw [if_pos h0]
        simp [c_scalar_quotient, C_cond_eq, e1, h0, h3', mnI]
      · rw [if_neg h0]
        simp [c_scalar_quotient, C_cond_eq, e1, h0, h3']
end Go.Proofs.YtkgpmjjleemdlaaGreat

set_option linter.unusedSimpArgs false
set_option linter.unusedVariables false
set_option maxRecDepth 8000
namespace Go.Proofs.YtkgpmjjleemdlaaGreat
open Go.Eng Go.Sort
attribute [local irreducible] Go.Eng.W

theorem RBox.loHi {w : World} {b : Nat} {a : Rng} (h : RBox w b a) : wcell w b 2 = some (.int .u64 a.lo) ∧ wcell w b 3 = some (.int .u64 a.hi) := ⟨h.cell 2 _ rfl, h.cell 3 _ rfl⟩
set_option maxHeartbeats 4000000 in
theorem sum_ret (w : World) (a b : Rng) (ha : a.wf) (hb : b.wf) : Ret Tryz.prog 145 [a.val, b.val] w fun r w' => r = (sumR a b).val ∧ Kept none' w w' := by
  refine ret_of_W Tryz.func145 rfl ok_scalar_sum ?_
  simp only [c_scalar_sum, W_seq]
  refine W_new' (v := a.val) (cs := a.arr) (by simp) rfl ?_
  have h3 := RBox.new w a
  have hk1 := (Kept.refl none' w).alloc (.cells a.arr 66)
  generalize hb3 : w.heap.size = b3 at *
  generalize (w.alloc (.cells a.arr 66)) = w1 at *
  try simp only [W_seq]
  refine W_new' (v := b.val) (cs := b.arr) (by simp) rfl ?_
  have h4 := RBox.new w1 b
  have hk2 := (Kept.refl none' w1).alloc (.cells b.arr 66)
  have h32 := h3.calm hk2
  have hk02 := hk1.trans hk2
  generalize (w1.alloc (.cells b.arr 66)) = w2 at *
  generalize w1.heap.size = b4 at *
  clear h3 hk1 hk2
  try simp only [W_seq]
  refine W_new' (v := Rng.zero.val) (cs := Rng.zero.arr) (by simp [Rng.zero]) rfl ?_
  have h2 := RBox.new w2 Rng.zero
  have hk3 := (Kept.refl none' w2).alloc (.cells Rng.zero.arr 66)
  have h33 := h32.calm hk3
  have h43 := h4.calm hk3
  have hk03 := hk02.trans hk3
  have hb2 : w.heap.size ≤ w2.heap.size := hk02.size
  generalize (w2.alloc (.cells Rng.zero.arr 66)) = w3 at *
  generalize w2.heap.size = b2 at *
  clear h32 h4 hk02 hk3
  try simp only [W_seq]
  refine W_calm (by simp) (ret_of_T (rany_T w3)) ?_
  intro w4 hk4
  have h34 := h33.calm hk4
  have h44 := h43.calm hk4
  have h24 := h2.calm hk4
  have hk04 := hk03.trans hk4
  clear h33 h43 h2 hk03 hk4
  try simp only [W_seq]
  refine W_new' (v := Rng.zero.val) (cs := Rng.zero.arr) (by simp [Rng.zero]) rfl ?_
  have h6 := RBox.new w4 Rng.zero
  have hk5 := (Kept.refl none' w4).alloc (.cells Rng.zero.arr 66)
  have h35 := h34.calm hk5
  have h45 := h44.calm hk5
  have h25 := h24.calm hk5
  have hk05 := hk04.trans hk5
  have hb6 : w.heap.size ≤ w4.heap.size := hk04.size
  have n3 : b3 < w4.heap.size := blk_lt h34
  have n4 : b4 < w4.heap.size := blk_lt h44
  have n2 : b2 < w4.heap.size := blk_lt h24
  generalize (w4.alloc (.cells Rng.zero.arr 66)) = w5 at *
  generalize w4.heap.size = b6 at *
  clear h34 h44 h24 hk04 hk5
  have step : ∀ {w' : World} (x : Rng), Kept none' w w' → RBox w' b6 x → RBox w' b3 a → RBox w' b4 b → RBox w' b2 Rng.zero → ∀ y : Rng, Kept none' w (Eng.put w' b6 (.cells y.arr 66 (0, 0))) ∧ RBox (Eng.put w' b6 (.cells y.arr 66 (0, 0))) b6 y ∧
      RBox (Eng.put w' b6 (.cells y.arr 66 (0, 0))) b3 a ∧ RBox (Eng.put w' b6 (.cells y.arr 66 (0, 0))) b4 b ∧ RBox (Eng.put w' b6 (.cells y.arr 66 (0, 0))) b2 Rng.zero := by
    intro w' x hk q6 q3 q4 q2 y
    exact ⟨hk.putNew hb6 _, RBox.put (blk_lt q6) y, (put_other (by omega)).trans q3, (put_other (by omega)).trans q4, (put_other (by omega)).trans q2⟩
  try simp only [W_seq]
  refine W_store (vv := rAny.val) (by simp) (by simp) (h6.setAll rAny) (stab_nil _ _ _) ?_
  obtain ⟨hk06, h66, h36, h46, h26⟩ := step Rng.zero hk05 h6 h35 h45 h25 rAny
  generalize Eng.put w5 b6 (.cells rAny.arr 66 (0, 0)) = w6 at *
  clear hk05 h6 h35 h45 h25
  try simp only [W_seq]
  refine W_calm (vs := [a.b.val, b.b.val]) (by simp [h36.bits, h46.bits]) (ret_of_T (tadd_T w6 a.b b.b)) ?_
  intro w7 hk7
  have h37 := h36.calm hk7
  have h47 := h46.calm hk7
  have h27 := h26.calm hk7
  have h67 := h66.calm hk7
  have hk07 := hk06.trans hk7
  clear hk06 h66 h36 h46 h26 hk7
  try simp only [W_seq]
  refine W_store (xv := .pointer (some ⟨b6, 0, none⟩)) (vv := (tAdd a.b b.b).val) (by simp) (by simp) (h67.setBits _) (stab_nil _ _ _) ?_
  obtain ⟨hk08, h68, h38, h48, h28⟩ := step rAny hk07 h67 h37 h47 h27 { rAny with b := tAdd a.b b.b }
  generalize Eng.put w7 b6 (.cells ({ rAny with b := tAdd a.b b.b } : Rng).arr 66 (0, 0)) = w8 at *
  clear hk07 h67 h37 h47 h27
  obtain ⟨cl3, ch3⟩ := h38.loHi
  obtain ⟨cl4, ch4⟩ := h48.loHi
  try simp only [W_seq]
  refine W_sem (vs := [.int .u64 a.hi, .int .u64 b.hi, .int .u64 0]) (by simp [ch3, ch4]) (run_add a.hi b.hi w8 ha.2.2.1 hb.2.2.1) (stab_nil _ _ _) ?_
  try simp only [W_seq]
  refine W_chkIn [.int .u64 ((a.hi + b.hi) / 18446744073709551616)] (by simp) ?_
  simp only [W_seq, W_set]
  refine ok_intro (.int .u64 ((a.hi + b.hi) % 18446744073709551616)) (by simp) ?_
  try simp only [W_seq, W_set]
  refine ok_intro (.int .u64 ((a.hi + b.hi) / 18446744073709551616)) (by simp) ?_
  try simp only [W_seq]
  refine W_cut (fun env' w' => ∃ x : Rng, sumR a b = settledR x ∧ Kept none' w w' ∧ RBox w' b6 x ∧ RBox w' b2 Rng.zero ∧ ∃ v5 v7 v8 v9 v10 v11 : Value, env' = [a.val, b.val, .pointer (some ⟨b2, 0, none⟩), .pointer (some ⟨b3, 0, none⟩), .pointer (some ⟨b4, 0, none⟩), v5, .pointer (some ⟨b6, 0, none⟩), v7, v8, v9, v10, v11, undef]) ?_ ?_
  · unfold sumR
    by_cases hc : (a.hi + b.hi) / 18446744073709551616 = 0
    · rw [if_pos hc]
      refine W_yes (by simp [hc]) ?_
      simp only [W_seq, W_draw]
      have hk09 : Kept none' w w8.drew := hk08.drew
      have h69 : RBox w8.drew b6 _ := h68
      have h39 : RBox w8.drew b3 a := h38
      have h49 : RBox w8.drew b4 b := h48
      have h29 : RBox w8.drew b2 Rng.zero := h28
      generalize w8.drew = w9 at *
      clear hk08 h68 h38 h48 h28 cl3 ch3 cl4 ch4
      obtain ⟨cl3, ch3⟩ := h39.loHi
      obtain ⟨cl4, ch4⟩ := h49.loHi
      refine W_chkIn [.int .u64 (w64 (a.lo + b.lo))] (by simp [cl3, cl4]) ?_
      simp only [W_seq, W_set]
      refine ok_intro (.int .u64 (w64 (a.hi + b.hi))) (by simp [ch3, ch4]) ?_
      try simp only [W_seq]
      obtain ⟨hk10, h610, h310, h410, h210⟩ := step _ hk09 h69 h39 h49 h29 { rAny with b := tAdd a.b b.b, lo := w64 (a.lo + b.lo) }
      refine W_store (xv := .pointer (some ⟨b6, 2, none⟩)) (vv := .int .u64 (w64 (a.lo + b.lo))) (by simp) (by simp [cl3, cl4]) (h69.seti { rAny with b := tAdd a.b b.b, lo := w64 (a.lo + b.lo) } 2 _ _ (by omega) (by simp)) ?_ ?_
      · obtain ⟨_, q3⟩ := h310.loHi
        obtain ⟨_, q4⟩ := h410.loHi
        exact stab_two (u := .int .u64 b.hi) (v := .int .u64 a.hi) (by simp [ch4]) (by simpa using q4) (by simp [ch3]) (by simpa using q3)
      generalize Eng.put w9 b6 (.cells ({ rAny with b := tAdd a.b b.b, lo := w64 (a.lo + b.lo) } : Rng).arr 66 (0, 0)) = w10 at *
      try simp only [W_seq]
      refine W_store (xv := .pointer (some ⟨b6, 3, none⟩)) (vv := .int .u64 (w64 (a.hi + b.hi))) (by simp) (by simp) (h610.seti { rAny with b := tAdd a.b b.b, lo := w64 (a.lo + b.lo), hi := w64 (a.hi + b.hi) } 3 _ _ (by omega) (by simp)) (stab_nil _ _ _) ?_
      obtain ⟨hk11, h611, _, _, h211⟩ := step _ hk10 h610 h310 h410 h210 { rAny with b := tAdd a.b b.b, lo := w64 (a.lo + b.lo), hi := w64 (a.hi + b.hi) }
      simp only [W_post]
      exact ⟨_, rfl, hk11, h611, h211, _, _, _, _, _, _, rfl⟩
    · rw [if_neg hc]
      refine W_no (by simp [hc]) ?_
      simp only [W_skip, W_post]
      exact ⟨_, rfl, hk08, h68, h28, _, _, _, _, _, _, rfl⟩
  rintro env' w' ⟨x, hx, hk, h6', h2', v5, v7, v8, v9, v10, v11, rfl⟩
  rw [hx]
  simp only [W_seq]
  refine W_calm (vs := [x.val]) (by simp [h6'.row]) (ret_of_T (settledR_T w' x)) ?_
  intro w12 hk12
  have h212 := h2'.calm hk12
  try simp only [W_seq]
  refine W_store (xv := .pointer (some ⟨b2, 0, none⟩)) (vv := (settledR x).val) (by simp) (by simp) (h212.setAll (settledR x)) (stab_nil _ _ _) ?_
  have h213 := RBox.put (blk_lt h212) (settledR x)
  have hk13 := (hk.trans hk12).putNew hb2 (.cells (settledR x).arr 66 (0, 0))
  generalize Eng.put w12 b2 (.cells (settledR x).arr 66 (0, 0)) = w13 at *
  simp [h213.row]
  exact hk13
theorem sum_T (w0 : World) (a b : Rng) (ha : a.wf) (hb : b.wf) : T Tryz.prog w0 145 [a.val, b.val] = some (sumR a b).val :=
  T_of_ret (by kernel_rfl) (by simp) (by simp) fun w _ => sum_ret w a b ha hb
end Go.Proofs.YtkgpmjjleemdlaaGreat

set_option linter.unusedSimpArgs false
set_option linter.unusedVariables false
set_option maxRecDepth 8000
namespace Go.Proofs.YtkgpmjjleemdlaaGreat
open Go.Eng Go.Sort

def lzOf (x : Int) : Int := 64 - (bitsLen x.toNat : Int)
theorem lz_T (w0 : World) (x : Int) (hx : In64 x) : T Tryz.prog w0 180 [.int .u64 x] = some (.int .i64 (lzOf x)) :=
  T_of (by kernel_rfl) Tryz.func180 rfl ok_math_bits_LeadingZeros64 (by simp) (by simp) fun B hB => by
    obtain ⟨n, rfl⟩ := Int.eq_ofNat_of_zero_le hx.1
    have hn : n < 18446744073709551616 := by have := hx.2; omega
    have t := len64g_T w0 hn
    have hb := bitsLen_64 hn
    have e : IntKind.i64.wrap (64 - (bitsLen n : Int)) = 64 - (bitsLen n : Int) := i64w (by omega) (by omega)
    simp [c_math_bits_LeadingZeros64, t, lzOf, e]
def shiftR (op by' : Nat) (a : Rng) : Rng :=
  if op = 6 then settledR (if (by' : Int) ≤ lzOf a.hi then { rAny with b := tLeft a.b by', lo := shl64 a.lo by', hi := shl64 a.hi by' } else { rAny with b := tLeft a.b by' })
  else if op = 7 then settledR { betweenR (shr64 a.lo by') (shr64 a.hi by') with b := tDown a.b by' }
  else settledR { rAny with sl := shr64 a.sl by', sh := shr64 a.sh by' }
set_option maxHeartbeats 4000000 in
theorem shift_TR (w0 : World) (op by' : Nat) (a : Rng) (ha : a.wf) (hb : by' < 64) : T Tryz.prog w0 168 [.int .i64 op, .int .i64 by', a.val] = some (shiftR op by' a).val :=
  T_of (by kernel_rfl) Tryz.func168 rfl ok_scalar_shifted (by simp) (by simp) fun B hB => by
    have e1 := rany_T w0
    have e2 := tleft_T w0 a.b by'
    have e3 := lz_T w0 a.hi ha.2.2.1
    have e4 := settledR_T w0 { rAny with b := tLeft a.b by', lo := shl64 a.lo by', hi := shl64 a.hi by' }
    have e5 := settledR_T w0 { rAny with b := tLeft a.b by' }
    have e6 := between_T w0 (shr64 a.lo by') (shr64 a.hi by')
    have e7 := tdown_T w0 a.b by'
    have e8 := settledR_T w0 { betweenR (shr64 a.lo by') (shr64 a.hi by') with b := tDown a.b by' }
    have e9 := settledR_T w0 { rAny with sl := shr64 a.sl by', sh := shr64 a.sh by' }
    have hge : (0 : Int) ≤ by' := by omega
    have b64 : IntKind.bits .i64 = 64 := rfl
    simp [rAny, tAny, shl64, shr64] at e1 e2 e3 e4 e5 e6 e7 e8 e9
    unfold shiftR
    by_cases h6 : op = 6
    · subst h6
      by_cases h : (by' : Int) ≤ lzOf a.hi
      · simp [c_scalar_shifted, C_cond_eq, e1, e2, e3, e4, h, rAny, tAny, rowOf, shl64]
      · simp [c_scalar_shifted, C_cond_eq, e1, e2, e3, e5, h, rAny, tAny, rowOf, shl64]
    · have h6' : ¬ (op : Int) = 6 := by omega
      by_cases h7 : op = 7
      · subst h7
        simp [c_scalar_shifted, C_cond_eq, C_alt, e6, e7, e8, rowOf, shr64]
      · have h7' : ¬ (op : Int) = 7 := by omega
        simp [c_scalar_shifted, C_cond_eq, e1, e9, h6, h6', h7, h7', rAny, tAny, rowOf, shr64, b64]
def movedR (op : Nat) (wide : Bool) (a b : Rng) : Rng :=
  if aloneR b = false then rAny else if op = 12 ∧ wide = false ∧ 2147483647 < a.hi then betweenR 0 4294967295 else shiftR op (b.lo.tmod (if wide = true then 64 else 32)).toNat a
set_option maxHeartbeats 4000000 in
theorem moved_T (w0 : World) (op : Nat) (wide : Bool) (a b : Rng) (ha : a.wf) (hb : b.wf) : T Tryz.prog w0 150 [.int .i64 op, .bool wide, a.val, b.val] = some (movedR op wide a b).val :=
  T_of (by kernel_rfl) Tryz.func150 rfl ok_scalar_moved (by simp) (by simp) fun B hB => by
    have e1 := rany_T w0
    have e2 := aloneg_T w0 b
    have e3 := between_T w0 0 4294967295
    simp [rAny, tAny] at e1 e2 e3
    obtain ⟨lo0, lo1⟩ := hb.2.1
    unfold movedR
    cases hal : aloneR b with
    | false =>
      rw [hal] at e2
      cases wide <;> simp [c_scalar_moved, C_cond_eq, e1, e2, rAny, tAny]
    | true =>
      rw [hal] at e2
      by_cases hc : op = 12 ∧ wide = false ∧ 2147483647 < a.hi
      · obtain ⟨rfl, rfl, h3⟩ := hc
        simp [c_scalar_moved, C_cond_eq, e2, e3, h3, pickV_bool]
      · have g1 : 0 ≤ b.lo.tmod 64 := Int.tmod_nonneg _ lo0
        have g2 : 0 ≤ b.lo.tmod 32 := Int.tmod_nonneg _ lo0
        have g3 := Int.tmod_lt_of_pos b.lo (show (0 : Int) < 64 by omega)
        have g4 := Int.tmod_lt_of_pos b.lo (show (0 : Int) < 32 by omega)
        have hcv : (decide ((op : Int) = 12) && !wide && decide (2147483647 < a.hi)) = false := by
          cases hw : wide
          · by_cases h12 : op = 12
            · have : ¬ 2147483647 < a.hi := fun h => hc ⟨h12, hw, h⟩
              simp [this]
            · have : ¬ (op : Int) = 12 := by omega
              simp [this]
          · simp
        rw [if_neg (by simp), if_neg hc]
        cases wide with
        | true =>
          have e4 := shift_TR w0 op (b.lo.tmod 64).toNat a ha (by omega)
          rw [Int.toNat_of_nonneg g1] at e4
          have w1 : IntKind.u64.wrap 64 = 64 := by decide +kernel
          have w2 : IntKind.i64.wrap (b.lo.tmod 64) = b.lo.tmod 64 := i64w (by omega) (by omega)
          simp at e4 hcv
          simp [c_scalar_moved, C_cond_eq, e2, e4, w1, w2, pickV_bool, hcv]
        | false =>
          have e4 := shift_TR w0 op (b.lo.tmod 32).toNat a ha (by omega)
          rw [Int.toNat_of_nonneg g2] at e4
          have w1 : IntKind.u64.wrap 32 = 32 := by decide +kernel
          have w2 : IntKind.i64.wrap (b.lo.tmod 32) = b.lo.tmod 32 := i64w (by omega) (by omega)
          simp at e4
          simp only [Bool.not_false, Bool.and_true] at hcv
          simp [c_scalar_moved, C_cond_eq, e2, e4, w1, w2, pickV_bool, hcv]
end Go.Proofs.YtkgpmjjleemdlaaGreat

set_option linter.unusedSimpArgs false
set_option linter.unusedVariables false
set_option maxRecDepth 8000
namespace Go.Proofs.YtkgpmjjleemdlaaGreat
open Go.Eng Go.Sort

def constR (x : Int) : Rng := ⟨⟨x, 0⟩, x, x, i64 x, i64 x⟩
theorem constR_wf {x : Int} (h : In64 x) : (constR x).wf := ⟨⟨h, by show In64 0; unfold In64; omega⟩, h, h, i64_in x, i64_in x⟩
theorem constR_T (w0 : World) (x : Int) : T Tryz.prog w0 119 [.int .u64 x] = some (constR x).val := const_T w0 x
theorem zero_in : In64 0 := by unfold In64; omega
def wideR (op : Nat) (is64 : Bool) (a b : Rng) : Rng :=
  if op = 0 then sumR a b else if op = 1 then diffR a b else if op = 8 then diffR (constR 0) a else if op = 2 then prodR a b
  else if op = 5 ∨ op = 4 ∨ op = 10 then bitwR op a b else if op = 3 ∨ op = 9 then quoR op a b else if op = 6 ∨ op = 7 ∨ op = 12 then movedR op is64 a b
  else if op = 11 then b else constR 0
set_option maxHeartbeats 8000000 in
theorem wide_TR (w0 : World) (op : Nat) (is64 : Bool) (a b : Rng) (ha : a.wf) (hb : b.wf) : T Tryz.prog w0 122 [.int .i64 op, .bool is64, a.val, b.val] = some (wideR op is64 a b).val :=
  T_of (by kernel_rfl) Tryz.func122 rfl ok_scalar_wide (by simp) (by simp) fun B hB => by
    have e0 := sum_T w0 a b ha hb
    have e1 := diff_T w0 a b
    have e8 := diff_T w0 (constR 0) a
    have ec := constR_T w0 0
    have e2 := prod_T w0 a b ha hb
    have e5 := bitw_T w0 op a b
    have e3 := quo_T w0 op a b
    have e6 := moved_T w0 op is64 a b ha hb
    simp [constR] at e0 e1 e8 ec e2 e5 e3 e6
    unfold wideR
    by_cases h0 : op = 0
    · subst h0; simp [c_scalar_wide, C_cond_eq, e0]
    by_cases h1 : op = 1
    · subst h1; simp [c_scalar_wide, C_cond_eq, e1]
    by_cases h8 : op = 8
    · subst h8; simp [c_scalar_wide, C_cond_eq, e8, ec, constR]
    by_cases h2 : op = 2
    · subst h2; simp [c_scalar_wide, C_cond_eq, e2]
    by_cases h5 : op = 5 ∨ op = 4 ∨ op = 10
    · rcases h5 with rfl | rfl | rfl <;> simp at e5 <;> simp [c_scalar_wide, C_cond_eq, e5]
    by_cases h3 : op = 3 ∨ op = 9
    · rcases h3 with rfl | rfl <;> simp at e3 <;> simp [c_scalar_wide, C_cond_eq, e3]
    by_cases h6 : op = 6 ∨ op = 7 ∨ op = 12
    · rcases h6 with rfl | rfl | rfl <;> simp at e6 <;> simp [c_scalar_wide, C_cond_eq, e6]
    by_cases h11 : op = 11
    · subst h11; simp [c_scalar_wide, C_cond_eq]
    simp only [not_or] at h5 h3 h6
    have k : ∀ n : Nat, op ≠ n → ¬ (op : Int) = n := fun n h e => h (by omega)
    simp [c_scalar_wide, C_cond_eq, ec, h0, h1, h8, h2, h5, h3, h6, h11, constR, k 0 h0, k 1 h1, k 8 h8, k 2 h2, k 5 h5.1, k 4 h5.2.1, k 10 h5.2.2, k 3 h3.1, k 9 h3.2, k 6 h6.1, k 7 h6.2.1, k 12 h6.2.2, k 11 h11, ci_eq]
def doR (op : Nat) (is64 : Bool) (a b : Rng) : Rng :=
  if aloneR a = true ∧ aloneR b = true then constR (evalOf op is64 a.lo b.lo) else if is64 = true then wideR op true a b
  else lowR (wideR op false (lowR a 4) (lowR b 4)) 4
set_option maxHeartbeats 4000000 in
theorem do_T (w0 : World) (op : Nat) (is64 : Bool) (a b : Rng) (ha : a.wf) (hb : b.wf) : T Tryz.prog w0 92 [.int .i64 op, .bool is64, a.val, b.val] = some (doR op is64 a b).val :=
  T_of (by kernel_rfl) Tryz.func92 rfl ok_scalar_Do (by simp) (by simp) fun B hB => by
    have e1 := aloneg_T w0 a
    have e2 := aloneg_T w0 b
    have e3 := eval_T w0 op is64 a.lo b.lo hb.2.1.1
    have e4 := constR_T w0 (evalOf op is64 a.lo b.lo)
    have e5 := wide_TR w0 op true a b ha hb
    have e6 := low_T w0 a 4
    have e7 := low_T w0 b 4
    have e8 := wide_TR w0 op false (lowR a 4) (lowR b 4) (lowR_wf ha _) (lowR_wf hb _)
    have e9 := low_T w0 (wideR op false (lowR a 4) (lowR b 4)) 4
    simp [constR] at e1 e2 e4 e5 e6 e7 e8 e9
    unfold doR
    cases h1 : aloneR a with
    | false =>
      rw [h1] at e1
      cases is64 <;> simp [c_scalar_Do, C_cond_eq, e1, e5, e6, e7, e8, e9, pickV_bool]
    | true =>
      rw [h1] at e1
      cases h2 : aloneR b with
      | false =>
        rw [h2] at e2
        cases is64 <;> simp [c_scalar_Do, C_cond_eq, e1, e2, e5, e6, e7, e8, e9, pickV_bool]
      | true =>
        rw [h2] at e2
        simp [c_scalar_Do, C_cond_eq, e1, e2, e3, e4, pickV_bool, constR]
end Go.Proofs.YtkgpmjjleemdlaaGreat

