/- Layer 17: the stack's bytes: first, sized, Ready, Load; a register settled. -/
import Derived.Test.YtkgpmjjleemdlaaGreatCmdsVh
import Derived.Test.YtkgpmjjleemdlaaGreatVg1
import Derived.Test.YtkgpmjjleemdlaaGreatVf1
set_option linter.unusedSimpArgs false
set_option linter.unusedVariables false
set_option maxRecDepth 8000
namespace Go.Proofs.YtkgpmjjleemdlaaGreat
open Go.Eng Go.Sort

def AReg.rng (r : AReg) : Rng := ⟨⟨r.bv, r.bm⟩, r.lo, r.hi, r.sl, r.sh⟩
def numR (a : Rng) : AReg := ⟨1, a.b.v, a.b.m, a.lo, a.hi, a.sl, a.sh, 0, 0, 0, 0⟩
@[simp] theorem numR_rng (a : Rng) : (numR a).rng = a := rfl
@[simp] theorem numR_kind (a : Rng) : (numR a).kind = 1 := rfl
theorem known_num (x : Int) : knownR x = numR (constR x) := rfl
/-- A register as it may be. -/
structure AReg.wf (r : AReg) : Prop where
  rng : r.rng.wf
  id0 : 0 ≤ r.id
  id1 : r.id ≤ 1000000
  low : -1000000 ≤ r.low ∧ r.low ≤ 1000000
  high : -1000000 ≤ r.high ∧ r.high ≤ 1000000
structure AState.wf (s : AState) : Prop where
  r : ∀ i, i < 11 → (s.r i).wf
  kept : ∀ i, i < 8 → (s.kept i).wf
theorem areg0_wf : AReg.zero.wf := ⟨zero_wf, by simp [AReg.zero], by simp [AReg.zero], by simp [AReg.zero], by simp [AReg.zero]⟩
theorem numR_wf {a : Rng} (h : a.wf) : (numR a).wf := ⟨h, by simp [numR], by simp [numR], by simp [numR], by simp [numR]⟩
theorem areg_rng (r : AReg) : rowOf r.arr 1 6 = some r.rng.arr := by simp [rowOf, AReg.arr, AReg.rng]
@[simp] theorem areg_7 (r : AReg) : r.arr[7]? = some (.int .i64 r.slot) := by simp [AReg.arr]
@[simp] theorem areg_8 (r : AReg) : r.arr[8]? = some (.int .i64 r.id) := by simp [AReg.arr]
@[simp] theorem areg_9 (r : AReg) : r.arr[9]? = some (.int .i64 r.low) := by simp [AReg.arr]
@[simp] theorem areg_10 (r : AReg) : r.arr[10]? = some (.int .i64 r.high) := by simp [AReg.arr]
@[simp] theorem areg_g7 (r : AReg) (h : 7 < r.arr.size) : r.arr[7]'h = .int .i64 r.slot := rfl
@[simp] theorem areg_g8 (r : AReg) (h : 8 < r.arr.size) : r.arr[8]'h = .int .i64 r.id := rfl
@[simp] theorem areg_g9 (r : AReg) (h : 9 < r.arr.size) : r.arr[9]'h = .int .i64 r.low := rfl
@[simp] theorem areg_g10 (r : AReg) (h : 10 < r.arr.size) : r.arr[10]'h = .int .i64 r.high := rfl
theorem at_what (s : AState) {i : Nat} (h : i < 64) : s.arr[121 + i]? = some (.bool (s.what i)) := by
  rw [astate_at _ _ (by omega), cell_what _ _ h]
theorem at_kept0 (s : AState) {i : Nat} (h : i < 8) : s.arr[185 + i * 11]? = some (.int .i64 (s.kept i).kind) := by
  have := cell_kept s i 0 h (by omega)
  rw [astate_at _ _ (by omega)]
  rw [Nat.add_zero] at this
  rw [this]
  rfl

def firstOf (a n : Int) : Int × Bool := if a < -64 ∨ 0 < a ∨ n < 0 ∨ -a < n then (0, false) else (a + 64, true)
theorem first_T (w0 : World) (a n : Int) (ha : InS a) : T Tryz.prog w0 131 [.int .i64 a, .int .i64 n] = some (.tuple #[.int .i64 (firstOf a n).1, .bool (firstOf a n).2]) :=
  T_of (by kernel_rfl) Tryz.func131 rfl ok_absreg_first (by simp) (by simp) fun B hB => by
    obtain ⟨a0, a1⟩ := ha
    unfold firstOf
    by_cases h : a < -64 ∨ 0 < a
    · have hb : (decide (a < -64) || decide (0 < a)) = true := by simpa using h
      rw [if_pos (by omega)]
      simp [c_absreg_first, C_cond_eq, pickV_bool, hb]
    · have hb : (decide (a < -64) || decide (0 < a)) = false := by simpa using h
      have e1 : IntKind.i64.wrap (0 - a) = -a := by rw [i64w (by omega) (by omega)]; omega
      have e2 : IntKind.i64.wrap (a + 64) = a + 64 := i64w (by omega) (by omega)
      have e1' : IntKind.i64.wrap (-a) = -a := i64w (by omega) (by omega)
      by_cases h2 : n < 0 ∨ -a < n
      · have hc : (decide (n < 0) || decide (-a < n)) = true := by simpa using h2
        rw [if_pos (by omega)]
        have hd : decide (n < 0) = true ∨ decide (n < 0) = false ∧ decide (-a < n) = true := by simp; omega
        rcases hd with hd | ⟨hd, he⟩ <;> simp [c_absreg_first, C_cond_eq, pickV_bool, hb, e1, e1', hd, *]
      · have hd : decide (n < 0) = false := by simp; omega
        have he : decide (-a < n) = false := by simp; omega
        rw [if_neg (by omega)]
        simp [c_absreg_first, C_cond_eq, pickV_bool, hb, hd, he, e1, e1', e2]
def sizedOf (n : Int) : Bool := decide (n = 1) || decide (n = 2) || decide (n = 4) || decide (n = 8)
theorem sized_T (w0 : World) (n : Int) : T Tryz.prog w0 132 [.int .i64 n] = some (.bool (sizedOf n)) :=
  T_of (by kernel_rfl) Tryz.func132 rfl ok_absreg_sized (by simp) (by simp) fun B hB => by
    simp [c_absreg_sized, sizedOf]
def readyOf (s : AState) (a n : Int) : Bool := (firstOf a n).2 && (List.range n.toNat).all fun i => s.what ((firstOf a n).1.toNat + i)
set_option maxHeartbeats 4000000 in
theorem ready_T (w0 : World) (s : AState) (a n : Int) (ha : InS a) : T Tryz.prog w0 133 [s.val, .int .i64 a, .int .i64 n] = some (.bool (readyOf s a n)) :=
  T_of (by kernel_rfl) Tryz.func133 rfl ok_absreg_Ready (by simp [AState.val]) (by simp) fun B hB => by
    have e1 := first_T w0 a n ha
    unfold readyOf
    cases h : (firstOf a n).2 with
    | false =>
      rw [h] at e1
      simp [c_absreg_Ready, C_cond_eq, e1, AState.val]
    | true =>
      rw [h] at e1
      have hf : firstOf a n = (a + 64, true) ∧ ¬ (a < -64 ∨ 0 < a ∨ n < 0 ∨ -a < n) := by
        unfold firstOf at h ⊢
        split at h
        · cases h
        · rename_i hx; rw [if_neg hx]; exact ⟨rfl, hx⟩
      obtain ⟨hf, hx⟩ := hf
      rw [hf] at e1 ⊢
      simp only at e1 ⊢
      obtain ⟨f, hfe⟩ := Int.eq_ofNat_of_zero_le (show 0 ≤ a + 64 by omega)
      obtain ⟨m, hme⟩ := Int.eq_ofNat_of_zero_le (show 0 ≤ n by omega)
      rw [hfe] at e1 ⊢
      subst hme
      have hfm : f + m ≤ 64 := by omega
      have em : IntKind.i64.wrap ((f : Int) + m) = ((f + m : Nat) : Int) := by rw [i64w (by omega) (by omega)]; omega
      simp [c_absreg_Ready, C_cond_eq, e1, AState.val]
      refine C_loop (fun env l => l = [(s.arr, 73)] ∧ ∃ j : Nat, j ≤ m ∧ (∀ i, i < j → s.what (f + i) = true) ∧ env = [undef, undef, .int .i64 m, undef, .pointer (some ⟨B.heap.size, 0, none⟩), undef, .int .i64 f, undef, .int .i64 ((f + j : Nat) : Int)]) (fun env _ => f + m - natAt env 8) ?_ ?_
      · exact ⟨rfl, 0, by omega, fun i hi => by omega, by simp⟩
      rintro env l ⟨rfl, j, hj, hall, rfl⟩
      simp only [C_seq]
      by_cases hjm : j < m
      · refine C_yes (by simp [em, -Int.natCast_add]; omega) ?_
        have hw := at_what s (show f + j < 64 by omega)
        have hlt : ((f + j : Nat) : Int) < 64 := by omega
        have hge : (0 : Int) ≤ ((f + j : Nat) : Int) := by omega
        have hlt' : f + j < 64 := by omega
        have e2 := i64_succ (j := f + j) (by omega)
        simp [hw, hlt, hge, hlt', e2, -Int.natCast_add]
        refine C_cond (t := !s.what (f + j)) (by simp [hw, hlt, hge, hlt', -Int.natCast_add]) ?_ ?_
        · intro hb
          simp at hb
          simp
          exact ⟨j, hjm, hb⟩
        · intro hb
          simp at hb
          simp [e2, -Int.natCast_add]
          refine ⟨⟨j + 1, by omega, fun i hi => ?_, by simp; omega⟩, by simp [natAt]; omega⟩
          rcases (by omega : i < j ∨ i = j) with hi | rfl
          · exact hall i hi
          · exact hb
      · have hje : j = m := by omega
        subst hje
        refine C_no (by simp [em, -Int.natCast_add]) ?_
        simp
        exact hall
end Go.Proofs.YtkgpmjjleemdlaaGreat

set_option linter.unusedSimpArgs false
set_option linter.unusedVariables false
set_option maxRecDepth 8000
namespace Go.Proofs.YtkgpmjjleemdlaaGreat
open Go.Eng Go.Sort

def unkOf (n : Int) : AReg := numR (lowR rAny n)
theorem unk_wf (n : Int) : (unkOf n).wf := numR_wf (lowR_wf rAny_wf n)
theorem unk_T (w0 : World) (n : Int) : T Tryz.prog w0 97 [.int .i64 n] = some (unkOf n).val :=
  T_of (by kernel_rfl) Tryz.func97 rfl ok_verify_unknown (by simp) (by simp [AReg.val]) fun B hB => by
    have e1 := rany_T w0
    have e2 := low_T w0 rAny n
    simp at e1 e2
    simp [c_verify_unknown, e1, e2, AReg.zero, AReg.arr, AReg.val, unkOf, numR]
def loadOf (s : AState) (a n : Int) : AReg × Bool :=
  if sizedOf n = false ∨ (firstOf a n).2 = false then (AReg.zero, false)
  else if n = 8 ∧ (firstOf a n).1.toNat % 8 = 0 ∧ (s.kept ((firstOf a n).1.toNat / 8)).kind ≠ 0 then (s.kept ((firstOf a n).1.toNat / 8), true)
  else if readyOf s a n = false then (AReg.zero, false) else (unkOf n, true)
theorem firstOf_ok {a n : Int} (h : (firstOf a n).2 = true) : firstOf a n = (a + 64, true) ∧ -64 ≤ a ∧ a ≤ 0 ∧ 0 ≤ n ∧ n ≤ -a := by
  unfold firstOf at h ⊢
  split at h
  · cases h
  · rename_i hx
    rw [if_neg hx]
    exact ⟨rfl, by omega, by omega, by omega, by omega⟩
theorem sized_pos {n : Int} (h : sizedOf n = true) : n = 1 ∨ n = 2 ∨ n = 4 ∨ n = 8 := by
  simpa [sizedOf, or_assoc] using h
theorem load_wf {s : AState} (h : s.wf) (a n : Int) : (loadOf s a n).1.wf := by
  unfold loadOf
  split
  · exact areg0_wf
  rename_i h0
  split
  · rename_i h1
    refine h.kept _ ?_
    have hf : (firstOf a n).2 = true := by cases hx : (firstOf a n).2 with | true => rfl | false => exact absurd (.inr hx) h0
    obtain ⟨e, h2, h3, h4, h5⟩ := firstOf_ok hf
    rw [e]
    have : n = 8 := h1.1
    show (a + 64).toNat / 8 < 8
    omega
  split
  · exact areg0_wf
  · exact unk_wf n
set_option maxHeartbeats 8000000 in
theorem load_T (w0 : World) (s : AState) (a n : Int) (ha : InS a) : T Tryz.prog w0 102 [s.val, .int .i64 a, .int .i64 n] = some (.tuple #[(loadOf s a n).1.val, .bool (loadOf s a n).2]) :=
  T_of (by kernel_rfl) Tryz.func102 rfl ok_absreg_Load (by simp [AState.val]) (by simp [AReg.val]) fun B hB => by
    have e1 := first_T w0 a n ha
    have e2 := sized_T w0 n
    have e3 := ready_T w0 s a n ha
    have e4 := rany_T w0
    have e5 := low_T w0 rAny n
    simp only [AState.val] at e3
    simp at e4 e5
    unfold loadOf
    cases hs : sizedOf n with
    | false =>
      rw [hs] at e2
      simp [c_absreg_Load, C_cond_eq, e1, e2, AState.val, AReg.val]
    | true =>
      rw [hs] at e2
      cases hf : (firstOf a n).2 with
      | false =>
        rw [hf] at e1
        simp [c_absreg_Load, C_cond_eq, e1, e2, AState.val, AReg.val]
      | true =>
        obtain ⟨ef, h2, h3, h4, h5⟩ := firstOf_ok hf
        rw [ef] at e1 ⊢
        have hn := sized_pos hs
        obtain ⟨f, hfe⟩ := Int.eq_ofNat_of_zero_le (show 0 ≤ a + 64 by omega)
        simp only [hfe] at e1 ⊢
        have hf8 : f / 8 < 8 := by omega
        have q1 : (f : Int).tmod 8 = ((f % 8 : Nat) : Int) := rfl
        have q2 : IntKind.i64.wrap ((f : Int).tdiv 8) = ((f / 8 : Nat) : Int) := i64w (by show (_ : Int) ≤ ((f / 8 : Nat) : Int); omega) (by show ((f / 8 : Nat) : Int) ≤ _; omega)
        have q2' : IntKind.i64.wrap ((f : Int) / 8) = ((f / 8 : Nat) : Int) := q2
        have q3 : (((f / 8 : Nat) : Int)) < 8 := by omega
        have q4 : (0 : Int) ≤ ((f / 8 : Nat) : Int) := by omega
        have k0 := at_kept0 s hf8
        have kr := row_kept s hf8
        simp only [Int.toNat_natCast]
        rw [if_neg (by simp)]
        by_cases hc : n = 8 ∧ f % 8 = 0 ∧ (s.kept (f / 8)).kind ≠ 0
        · rw [if_pos hc]
          have hb : (decide (n = 8) && decide (((f % 8 : Nat) : Int) = 0) && !decide ((s.kept (f / 8)).kind = 0)) = true := by
            have h0 : ((f % 8 : Nat) : Int) = 0 := by omega
            simp [hc.1, h0, hc.2.2]
          obtain ⟨rfl, hc2, hc3⟩ := hc
          simp [c_absreg_Load, C_cond_eq, e1, e2, AState.val, AReg.val, pickV_bool, q1, q2, q2', q3, q4, hf8, k0, kr, hc2, hc3, -Int.natCast_ediv, -Int.natCast_emod]
        · rw [if_neg hc]
          have hb : (decide (n = 8) && decide (f % 8 = 0) && !decide ((s.kept (f / 8)).kind = 0)) = false := by
            cases h : (decide (n = 8) && decide (f % 8 = 0) && !decide ((s.kept (f / 8)).kind = 0)) with
            | false => rfl
            | true =>
              simp only [Bool.and_eq_true, decide_eq_true_eq, Bool.not_eq_true', decide_eq_false_iff_not] at h
              exact absurd ⟨h.1.1, h.1.2, h.2⟩ hc
          cases hr : readyOf s a n with
          | false =>
            rw [hr] at e3
            simp [c_absreg_Load, C_cond_eq, e1, e2, e3, AState.val, AReg.val, pickV_bool, q1, q2, q2', q3, q4, hf8, k0, kr, hb, -Int.natCast_ediv, -Int.natCast_emod]
          | true =>
            rw [hr] at e3
            simp [c_absreg_Load, C_cond_eq, e1, e2, e3, e4, e5, AState.val, AReg.val, pickV_bool, q1, q2, q2', q3, q4, hf8, k0, kr, hb, unkOf, numR, AReg.arr, AReg.zero, -Int.natCast_ediv, -Int.natCast_emod]
def settledOf (r : AReg) (id : Int) (cell : Bool) : AReg := if r.kind ≠ 6 ∨ r.id ≠ id then r else if cell = true then ⟨5, 0, 0, 0, 0, 0, 0, r.slot, 0, 0, 0⟩ else numR (constR 0)
theorem settled_T (w0 : World) (r : AReg) (id : Int) (cell : Bool) : T Tryz.prog w0 127 [r.val, .int .i64 id, .bool cell] = some (settledOf r id cell).val :=
  T_of (by kernel_rfl) Tryz.func127 rfl ok_absreg_settled (by simp [AReg.val]) (by simp [AReg.val]) fun B hB => by
    have e1 := constR_T w0 0
    simp [constR] at e1
    unfold settledOf
    by_cases h6 : r.kind = 6
    · by_cases hi : r.id = id
      · cases cell <;> simp [c_absreg_settled, C_cond_eq, pickV_bool, AReg.val, AReg.arr, AReg.zero, h6, hi, e1, numR, constR]
      · simp [c_absreg_settled, C_cond_eq, pickV_bool, AReg.val, AReg.arr, AReg.zero, h6, hi]
    · simp [c_absreg_settled, C_cond_eq, pickV_bool, AReg.val, AReg.arr, AReg.zero, h6]
def placeOf (r : AReg) : Bool := decide (r.kind = 2) || decide (r.kind = 3) || decide (r.kind = 5)
theorem place_T (w0 : World) (r : AReg) : T Tryz.prog w0 124 [r.val] = some (.bool (placeOf r)) :=
  T_of (by kernel_rfl) Tryz.func124 rfl ok_verify_place (by simp [AReg.val]) (by simp) fun B hB => by
    simp [c_verify_place, AReg.val, AReg.arr, placeOf, pickV_bool]
theorem valone_T (w0 : World) (a : Rng) : T Tryz.prog w0 155 [a.val] = some (.bool (decide (a.sl = a.sh))) :=
  T_of (by kernel_rfl) Tryz.func155 rfl ok_verify_alone (by simp) (by simp) fun B hB => by
    simp [c_verify_alone]
def insideOf (r : AReg) (off n low high : Int) : Bool := decide (low ≤ i64 (r.low + off)) && decide (i64 (i64 (r.high + off) + n) ≤ high)
theorem inside_T (w0 : World) (r : AReg) (off n low high : Int) : T Tryz.prog w0 134 [r.val, .int .i64 off, .int .i64 n, .int .i64 low, .int .i64 high] = some (.bool (insideOf r off n low high)) :=
  T_of (by kernel_rfl) Tryz.func134 rfl ok_verify_inside (by simp [AReg.val]) (by simp) fun B hB => by
    simp [c_verify_inside, AReg.val, AReg.arr, insideOf, pickV_bool]
/-- A place moved. -/
def movedA (priv : Bool) (r : AReg) (d : Rng) (back : Bool) : AReg × Bool :=
  if d.sl < -64 ∨ 64 < d.sh ∨ d.sh < d.sl then (r, false)
  else if d.sl ≠ d.sh ∧ (r.kind ≠ 5 ∨ priv = false) then (r, false)
  else if back = true then ({ r with low := i64 (r.low - d.sh), high := i64 (r.high - d.sl) }, decide (-131072 ≤ i64 (r.low - d.sh)) && decide (i64 (r.high - d.sl) ≤ 131072))
  else ({ r with low := i64 (r.low + d.sl), high := i64 (r.high + d.sh) }, decide (-131072 ≤ i64 (r.low + d.sl)) && decide (i64 (r.high + d.sh) ≤ 131072))
set_option maxHeartbeats 8000000 in
theorem moved_TA {w0 : World} {cb mb : Nat} {l specs frozen left : Value} {priv : Bool} {ids : Int} (hc : ChkAt w0 cb l specs frozen priv left mb ids) (r : AReg) (d : Rng) (back : Bool) :
    T Tryz.prog w0 125 [.pointer (some ⟨cb, 0, none⟩), r.val, d.val, .bool back] = some (.tuple #[(movedA priv r d back).1.val, .bool (movedA priv r d back).2]) :=
  T_of (by kernel_rfl) Tryz.func125 rfl ok_verify_checker_moved (by simp [AReg.val]; exact blk_lt hc.box) (by simp [AReg.val]) fun B hB => by
    have e1 := valone_T w0 d
    simp at e1
    have c3 : wcell w0 cb 3 = some (.bool priv) := by rw [wcell_of hc.box]; rfl
    have f3 := fun l => own_ext (l := l) hB c3
    unfold movedA
    have m1 : IntKind.i64.wrap (-131072) = -131072 := i64w (by omega) (by omega)
    by_cases h : d.sl < -64 ∨ 64 < d.sh ∨ d.sh < d.sl
    · have hb : (decide (d.sl < -64) || decide (64 < d.sh) || decide (d.sh < d.sl)) = true := by rcases h with h | h | h <;> simp [h]
      rw [if_pos h]
      simp [c_verify_checker_moved, C_cond_eq, pickV_bool, AReg.val, AReg.arr, AReg.zero, hb]
    · have hb : (decide (d.sl < -64) || decide (64 < d.sh) || decide (d.sh < d.sl)) = false := by
        simp only [not_or] at h
        simp only [h.1, h.2.1, h.2.2, decide_false, Bool.or_self]
      rw [if_neg h]
      by_cases h2 : d.sl ≠ d.sh ∧ (r.kind ≠ 5 ∨ priv = false)
      · have hb2 : (!decide (r.kind = 5) || !priv) = true := by
          rcases h2.2 with h | h
          · simp [h]
          · simp [h]
        have h3 : decide (d.sl = d.sh) = false := decide_eq_false h2.1
        rw [if_pos h2]
        simp [c_verify_checker_moved, C_cond_eq, pickV_bool, AReg.val, AReg.arr, AReg.zero, hb, e1, h3, f3, hb2]
      · rw [if_neg h2]
        have hb3 : (!decide (d.sl = d.sh) && (!decide (r.kind = 5) || !priv)) = false := by
          cases hx : (!decide (d.sl = d.sh) && (!decide (r.kind = 5) || !priv)) with
          | false => rfl
          | true =>
            simp at hx
            exact absurd ⟨hx.1, by rcases hx.2 with h | h <;> simp [h]⟩ h2
        cases back with
        | true => 
          by_cases h4 : d.sl = d.sh
          · have h4 : decide (d.sl = d.sh) = true := decide_eq_true h4
            simp [c_verify_checker_moved, C_cond_eq, pickV_bool, AReg.val, AReg.arr, AReg.zero, hb, e1, f3, h4, m1]
          · have h4 : decide (d.sl = d.sh) = false := decide_eq_false h4
            simp only [h4, Bool.not_false, Bool.true_and] at hb3
            simp [c_verify_checker_moved, C_cond_eq, pickV_bool, AReg.val, AReg.arr, AReg.zero, hb, e1, f3, h4, hb3, m1]
        | false => 
          by_cases h4 : d.sl = d.sh
          · have h4 : decide (d.sl = d.sh) = true := decide_eq_true h4
            simp [c_verify_checker_moved, C_cond_eq, pickV_bool, AReg.val, AReg.arr, AReg.zero, hb, e1, f3, h4, m1]
          · have h4 : decide (d.sl = d.sh) = false := decide_eq_false h4
            simp only [h4, Bool.not_false, Bool.true_and] at hb3
            simp [c_verify_checker_moved, C_cond_eq, pickV_bool, AReg.val, AReg.arr, AReg.zero, hb, e1, f3, h4, hb3, m1]
end Go.Proofs.YtkgpmjjleemdlaaGreat

set_option linter.unusedSimpArgs false
set_option linter.unusedVariables false
set_option maxRecDepth 8000
namespace Go.Eng
theorem run_clear_bool {P : Program} {t ty T TT : TypeId} (ht : P.underlying t = some (.slice T)) (hz : (P.info? T).bind (·.zero) = some (.bool false)) {w : World} {b : Nat} {cs : Array Value} (h : w.heap[b]? = some (.cells cs TT (0, 0))) (j n c' : Nat) (hn : 0 < n) (hj : j + n ≤ cs.size) :
    (builtin .clear #[t] ty #[] #[.slice (some ⟨b, j, none⟩) n c']).run P w = .ok (.value (.tuple #[])) (Go.Eng.put w b (.cells (setRow cs j (List.replicate n (Value.bool false))) TT (0, 0))) := by
  obtain ⟨i, hi, hiz⟩ : ∃ i, P.info? T = some i ∧ i.zero = some (.bool false) := by
    cases e : P.info? T with
    | none => rw [e] at hz; cases hz
    | some i => rw [e] at hz; exact ⟨i, rfl, hz⟩
  have hzero : ∀ w, (zeroValue T).run P w = .ok (.bool false) w := fun w => by simp [zeroValue, run_info hi, hiz]
  have hlen : (List.replicate n (Value.bool false)).length = n := by simp
  have hst := run_storeCells (P := P) (b := b) (T := TT) (fz := (0, 0)) j (List.replicate n (Value.bool false)) 0 cs w h (by rw [hlen]; omega) (.inl (by simp)) (fun v hv => by rw [List.eq_of_mem_replicate hv]; rfl)
  have hzc : (Builtin.zeroCells (Value.bool false).cells n).toList = List.replicate n (Value.bool false) := by
    show (Builtin.zeroCells #[Value.bool false] n).toList = _
    simp [Builtin.zeroCells]
    apply List.ext_getElem
    · simp
    · intro i h1 h2
      simp [Nat.mod_one]
  obtain ⟨m, hm⟩ : ∃ m, n = m + 1 := ⟨n - 1, by omega⟩
  subst hm
  change (Builtin.zeroCells #[Value.bool false] (m + 1)).toList = _ at hzc
  simp [builtin, Builtin.clear_, run_underlying ht, hzero, hzc, hst]
  rfl
end Go.Eng
namespace Go.Proofs.YtkgpmjjleemdlaaGreat
open Go.Eng Go.Sort
attribute [local irreducible] Go.Eng.W

def AState.setK (s : AState) (k : Nat) (v : AReg) : AState := { s with kept := fsetR s.kept k v }
def AState.setW (s : AState) (f : Nat → Bool) : AState := { s with what := f }
theorem setK_cell (s : AState) (k : Nat) (v : AReg) (i : Nat) (hk : k < 8) : (s.setK k v).cell i = if 185 + k * 11 ≤ i ∧ i < 185 + k * 11 + 11 then v.at (i - (185 + k * 11)) else s.cell i := by
  unfold AState.cell AState.setK fsetR
  by_cases h1 : i < 121
  · rw [if_pos h1, if_pos h1, if_neg (by omega)]
  · rw [if_neg h1, if_neg h1]
    by_cases h2 : i < 185
    · rw [if_pos h2, if_pos h2, if_neg (by omega)]
    · rw [if_neg h2, if_neg h2]
      by_cases h3 : 185 + k * 11 ≤ i ∧ i < 185 + k * 11 + 11
      · rw [if_pos h3]
        have e1 : (i - 185) / 11 = k := by omega
        have e2 : (i - 185) % 11 = i - (185 + k * 11) := by omega
        simp only [e1, e2, if_true]
      · rw [if_neg h3]
        have e1 : (i - 185) / 11 ≠ k := by omega
        simp only [e1, if_false]
theorem setW_cell (s : AState) (f : Nat → Bool) (i : Nat) : (s.setW f).cell i = if 121 ≤ i ∧ i < 185 then .bool (f (i - 121)) else s.cell i := by
  unfold AState.cell AState.setW
  by_cases h1 : i < 121
  · rw [if_pos h1, if_neg (by omega), if_pos h1]
  · rw [if_neg h1, if_neg h1]
    by_cases h2 : i < 185
    · rw [if_pos h2, if_pos (by omega)]
    · rw [if_neg h2, if_neg (by omega), if_neg h2]
theorem state_setkept (s : AState) (k : Nat) (v : AReg) (h : k < 8) : setRow s.arr (185 + k * 11) v.arr.toList = (s.setK k v).arr := by
  refine astate_ext' (by rw [Go.Eng.setRow_size]; simp) fun i hi => ?_
  rw [setRow_eq, setK_cell _ _ _ _ h]
  have hl : v.arr.toList.length = 11 := rfl
  rw [hl, astate_size]
  by_cases h2 : 185 + k * 11 ≤ i ∧ i < 185 + k * 11 + 11
  · rw [if_pos h2, if_pos (by omega), Array.getElem?_toList, areg_at _ _ (by omega)]
  · rw [if_neg h2, if_neg (by omega), astate_at _ _ hi]
theorem state_setwhat (s : AState) (i : Nat) (t : Bool) (h : i < 64) : s.arr.setIfInBounds (121 + i) (.bool t) = (s.setW fun j => if j = i then t else s.what j).arr := by
  refine astate_ext' (by simp) fun q hq => ?_
  rw [setW_cell, Array.getElem?_setIfInBounds]
  by_cases h1 : 121 + i = q
  · subst h1
    rw [if_pos rfl, if_pos (by simp; omega), if_pos (by omega)]
    simp
  · rw [if_neg h1, astate_at _ _ hq]
    by_cases h2 : 121 ≤ q ∧ q < 185
    · rw [if_pos h2, if_neg (by omega)]
      have : q = 121 + (q - 121) := by omega
      rw [this, cell_what s (q - 121) (by omega)]
      simp
    · rw [if_neg h2]
theorem state_clear (s : AState) (k : Nat) (h : k < 8) : setRow s.arr (121 + k * 8) (List.replicate 8 (Value.bool false)) = (s.setW fun j => if j / 8 = k then false else s.what j).arr := by
  refine astate_ext' (by rw [Go.Eng.setRow_size]; simp) fun q hq => ?_
  rw [setRow_eq, setW_cell, List.length_replicate, astate_size]
  by_cases h1 : 121 + k * 8 ≤ q ∧ q < 121 + k * 8 + 8
  · rw [if_pos (by omega), if_pos (by omega), if_pos (by omega), List.getElem?_replicate, if_pos (by omega)]
  · rw [if_neg (by omega), astate_at _ _ hq]
    by_cases h2 : 121 ≤ q ∧ q < 185
    · rw [if_pos h2, if_neg (by omega)]
      have : q = 121 + (q - 121) := by omega
      rw [this, cell_what s (q - 121) (by omega)]
      simp
    · rw [if_neg h2]
def SBox (w : World) (b : Nat) (s : AState) : Prop := w.heap[b]? = some (.cells s.arr 73 (0, 0))
theorem SBox.row {w : World} {b : Nat} {s : AState} (h : SBox w b s) : wrow w b 0 273 = some s.arr := wrow_box h (astate_size s)
theorem SBox.calm {w w' : World} {b : Nat} {s : AState} (h : SBox w b s) (hk : Kept none' w w') : SBox w' b s := hk.has h fun h => h
theorem SBox.new (w : World) (s : AState) : SBox (w.alloc (.cells s.arr 73)) w.heap.size s := hp_new w _
theorem SBox.put {w : World} {b : Nat} (h : b < w.heap.size) (s : AState) : SBox (Eng.put w b (.cells s.arr 73 (0, 0))) b s := put_same h
theorem SBox.setAll {w : World} {b : Nat} {s : AState} (h : SBox w b s) (t : AState) : stv w 273 (.pointer (some ⟨b, 0, none⟩)) (.agg t.arr) = some (Eng.put w b (.cells t.arr 73 (0, 0))) :=
  box_store (v := .agg t.arr) h (astate_size s) (by exact astate_size t) (by exact astate_one t)
theorem SBox.kind {w : World} {b : Nat} {s : AState} (h : SBox w b s) {k : Nat} (hk : k < 8) : wcell w b (185 + k * 11) = some (.int .i64 (s.kept k).kind) := by
  rw [wcell_of h, at_kept0 s hk]
theorem SBox.setk {w : World} {b : Nat} {s : AState} (h : SBox w b s) {k : Nat} (hk : k < 8) (v : AReg) : stv w 11 (.pointer (some ⟨b, 185 + k * 11, none⟩)) (.agg v.arr) = some (Eng.put w b (.cells (s.setK k v).arr 73 (0, 0))) := by
  have hc : (Value.agg v.arr).cells = v.arr := rfl
  rw [stv_of (n := 11) (v := .agg v.arr) h (by rw [hc]; exact areg_size v) (by rw [astate_size]; omega) (.inl (by simp)) (by rw [hc]; exact areg_one v), hc, state_setkept s k v hk]
theorem SBox.setw {w : World} {b : Nat} {s : AState} (h : SBox w b s) {i : Nat} (hi : i < 64) (t : Bool) : stv w 1 (.pointer (some ⟨b, 121 + i, none⟩)) (.bool t) = some (Eng.put w b (.cells (s.setW fun j => if j = i then t else s.what j).arr 73 (0, 0))) := by
  rw [stv_of (n := 1) (v := .bool t) h rfl (by rw [astate_size]; omega) (.inl (by simp)) (by simp [Value.cells, Value.oneCell'])]
  show some (Eng.put w b (.cells (setRow s.arr (121 + i) [.bool t]) _ _)) = _
  rw [setRow_cons, setRow_nil, state_setwhat s i t hi]

def dropK (s : AState) (k : Nat) : AState := if (s.kept k).kind = 0 then s else (s.setK k AReg.zero).setW fun j => if j / 8 = k then false else s.what j
def dropN (s : AState) (f : Nat) : Nat → AState
  | 0 => s
  | m + 1 => dropK (dropN s f m) ((f + m) / 8)
def writeN (s : AState) (f m : Nat) (t : Bool) : AState := s.setW fun j => if f ≤ j ∧ j < f + m then t else s.what j
def saveOf (s : AState) (a n : Int) (r : AReg) : AState × Bool :=
  if sizedOf n = false ∨ (firstOf a n).2 = false ∨ r.kind = 0 ∨ (r.kind ≠ 1 ∧ ¬ (n = 8 ∧ (firstOf a n).1.toNat % 8 = 0)) then (s, false)
  else if r.kind = 1 then (writeN (dropN s (firstOf a n).1.toNat n.toNat) (firstOf a n).1.toNat n.toNat true, true)
  else ((writeN (dropN s (firstOf a n).1.toNat n.toNat) (firstOf a n).1.toNat n.toNat false).setK ((firstOf a n).1.toNat / 8) r, true)
theorem setK_wf {s : AState} (h : s.wf) (k : Nat) {v : AReg} (hv : v.wf) : (s.setK k v).wf := ⟨h.r, fun i hi => by
  show (fsetR s.kept k v i).wf
  unfold fsetR
  split
  · exact hv
  · exact h.kept i hi⟩
theorem setW_wf {s : AState} (h : s.wf) (f : Nat → Bool) : (s.setW f).wf := ⟨h.r, h.kept⟩
theorem setR_wf {s : AState} (h : s.wf) (d : Nat) {v : AReg} (hv : v.wf) : (s.setR d v).wf := ⟨fun i hi => by
  show (fsetR s.r d v i).wf
  unfold fsetR
  split
  · exact hv
  · exact h.r i hi, h.kept⟩
theorem writeN_zero (s : AState) (f : Nat) (t : Bool) : writeN s f 0 t = s := by
  unfold writeN AState.setW
  have : (fun j => if f ≤ j ∧ j < f + 0 then t else s.what j) = s.what := by
    funext j
    rw [if_neg (by omega)]
  rw [this]
theorem writeN_succ (s : AState) (f m : Nat) (t : Bool) : ((writeN s f m t).setW fun j => if j = f + m then t else (writeN s f m t).what j) = writeN s f (m + 1) t := by
  unfold writeN AState.setW
  simp only
  congr 1
  funext j
  by_cases h1 : j = f + m
  · rw [if_pos h1, if_pos (by omega)]
  · rw [if_neg h1]
    by_cases h2 : f ≤ j ∧ j < f + m
    · rw [if_pos h2, if_pos (by omega)]
    · rw [if_neg h2, if_neg (by omega)]
end Go.Proofs.YtkgpmjjleemdlaaGreat

set_option linter.unusedSimpArgs false
set_option linter.unusedVariables false
set_option maxRecDepth 8000
namespace Go.Proofs.YtkgpmjjleemdlaaGreat
open Go.Eng Go.Sort
attribute [local irreducible] Go.Eng.W

set_option maxHeartbeats 8000000 in
theorem save_ret (w : World) (s : AState) (a n : Int) (r : AReg) (ha : InS a) : Ret Tryz.prog 105 [s.val, .int .i64 a, .int .i64 n, r.val] w fun v w' => v = .tuple #[(saveOf s a n r).1.val, .bool (saveOf s a n r).2] ∧ Kept none' w w' := by
  refine ret_of_W Tryz.func105 rfl ok_absreg_Save ?_
  simp only [c_absreg_Save, W_seq, AState.val, AReg.val]
  refine W_new' (v := .agg s.arr) (cs := s.arr) (by simp) rfl ?_
  have h6 := SBox.new w s
  have hk1 := (Kept.refl none' w).alloc (.cells s.arr 73)
  generalize hb6 : w.heap.size = b6 at *
  generalize (w.alloc (.cells s.arr 73)) = w1 at *
  try simp only [W_seq]
  refine W_new' (v := .agg r.arr) (cs := r.arr) (by simp) rfl ?_
  have h7 : RegBox _ w1.heap.size r := hp_new w1 (.cells r.arr 68)
  have hk2 := (Kept.refl none' w1).alloc (.cells r.arr 68)
  have h62 := h6.calm hk2
  have hk02 := hk1.trans hk2
  have n7 : b6 < w1.heap.size := blk_lt h6
  generalize (w1.alloc (.cells r.arr 68)) = w2 at *
  generalize hb7 : w1.heap.size = b7 at *
  clear h6 hk1 hk2
  try simp only [W_seq]
  refine W_new' (v := .agg AState.zero.arr) (cs := AState.zero.arr) (by simp) rfl ?_
  have h4 := SBox.new w2 AState.zero
  have hk3 := (Kept.refl none' w2).alloc (.cells AState.zero.arr 73)
  have h63 := h62.calm hk3
  have h73 := h7.calm hk3
  have hk03 := hk02.trans hk3
  have n4 : b7 < w2.heap.size := blk_lt h7
  have hb4 : w.heap.size ≤ w2.heap.size := hk02.size
  generalize (w2.alloc (.cells AState.zero.arr 73)) = w3 at *
  generalize w2.heap.size = b4 at *
  clear h62 h7 hk02 hk3
  simp only [W_seq, W_set]
  refine ok_intro (.bool false) (by simp) ?_
  try simp only [W_seq]
  refine W_calm (by simp) (ret_of_T (first_T w3 a n ha)) ?_
  intro w4 hk4
  have h64 := h63.calm hk4
  have h74 := h73.calm hk4
  have h44 := h4.calm hk4
  have hk04 := hk03.trans hk4
  clear h63 h73 h4 hk03 hk4
  try simp only [W_seq]
  refine W_chkIn [.bool (firstOf a n).2] (by simp) ?_
  simp only [W_seq, W_set]
  refine ok_intro (.int .i64 (firstOf a n).1) (by simp) ?_
  try simp only [W_seq, W_set]
  refine ok_intro (.bool (firstOf a n).2) (by simp) ?_
  have hf0 : 0 ≤ (firstOf a n).1 ∧ (firstOf a n).1 ≤ 64 := by unfold firstOf; split <;> simp; omega
  unfold saveOf
  obtain ⟨f, hfe⟩ := Int.eq_ofNat_of_zero_le hf0.1
  generalize hok : (firstOf a n).2 = ok at *
  rw [hfe] at hf0 ⊢
  simp only [Int.toNat_natCast]
  have q1 : (f : Int).tmod 8 = ((f % 8 : Nat) : Int) := rfl
  have q0 : ((f : Int) % 8 = 0) = (f % 8 = 0) := propext (by omega)
  try simp only [W_seq, W_set]
  refine ok_intro (.bool (decide (n = 8) && decide (f % 8 = 0))) (by simp [pickV_bool, q1, q0]) ?_
  try simp only [W_seq]
  refine W_calm (by simp) (ret_of_T (sized_T w4 n)) ?_
  intro w5 hk5
  have h65 := h64.calm hk5
  have h75 := h74.calm hk5
  have h45 := h44.calm hk5
  have hk05 := hk04.trans hk5
  clear h64 h74 h44 hk04 hk5
  have ck : wcell w5 b7 0 = some (.int .i64 r.kind) := by rw [wcell_of h75]; exact areg_kind0 r
  try simp only [W_seq]
  by_cases hA : sizedOf n = false ∨ ok = false ∨ r.kind = 0 ∨ (r.kind ≠ 1 ∧ ¬ (n = 8 ∧ f % 8 = 0))
  · rw [if_pos hA]
    have hA' : ((sizedOf n = false ∨ ok = false) ∨ r.kind = 0) ∨ ¬r.kind = 1 ∧ (¬n = 8 ∨ ¬f % 8 = 0) := by
      rcases hA with h | h | h | ⟨h1, h2⟩
      · exact .inl (.inl (.inl h))
      · exact .inl (.inl (.inr h))
      · exact .inl (.inr h)
      · refine .inr ⟨h1, ?_⟩
        by_cases h8 : n = 8
        · exact .inr fun h => h2 ⟨h8, h⟩
        · exact .inl h8
    refine W_yes (by simp [ck, pickV_bool]; exact hA') ?_
    simp only [W_seq]
    refine W_store (xv := .pointer (some ⟨b4, 0, none⟩)) (vv := .agg s.arr) (by simp) (by simp [h65.row]) (h45.setAll s) (stab_nil _ _ _) ?_
    have h46 := SBox.put (blk_lt h45) s
    have hk6 := hk05.putNew hb4 (.cells s.arr 73 (0, 0))
    generalize Eng.put w5 b4 (.cells s.arr 73 (0, 0)) = w6 at *
    simp [h46.row]
    exact hk6
  rw [if_neg hA]
  have hs1 : sizedOf n = true := by cases h : sizedOf n with | true => rfl | false => exact absurd (.inl h) hA
  have hok1 : ok = true := by cases h : ok with | true => rfl | false => exact absurd (.inr (.inl h)) hA
  have hwh : r.kind ≠ 1 → n = 8 ∧ f % 8 = 0 := fun h => by
    by_cases h8 : n = 8 ∧ f % 8 = 0
    · exact h8
    · exact absurd (.inr (.inr (.inr ⟨h, h8⟩))) hA
  have hk0 : ¬ r.kind = 0 := fun h => hA (.inr (.inr (.inl h)))
  refine W_no (by simp [ck, pickV_bool]; exact ⟨⟨⟨hs1, hok1⟩, hk0⟩, hwh⟩) ?_
  subst hok1
  obtain ⟨ef, g1, g2, g3, g4⟩ := firstOf_ok hok
  rw [ef] at hfe
  have hn := sized_pos hs1
  obtain ⟨m, rfl⟩ := Int.eq_ofNat_of_zero_le g3
  have hfm : f + m ≤ 64 := by simp at hfe; omega
  have hm8 : 1 ≤ m := by omega
  have em : IntKind.i64.wrap ((f : Int) + m) = ((f + m : Nat) : Int) := by rw [i64w (by omega) (by omega)]; omega
  simp only [Int.toNat_natCast]
  clear hA hf0 hfe
  simp only [W_skip, W_seq, W_set]
  refine ok_intro (.int .i64 f) (by simp) ?_
  try simp only [W_seq]
  rw [W_block]
  have step : ∀ {w' : World} (x : AState), Kept none' w w' → SBox w' b6 x → RegBox w' b7 r → SBox w' b4 AState.zero → ∀ y : AState, Kept none' w (Eng.put w' b6 (.cells y.arr 73 (0, 0))) ∧ SBox (Eng.put w' b6 (.cells y.arr 73 (0, 0))) b6 y ∧
      RegBox (Eng.put w' b6 (.cells y.arr 73 (0, 0))) b7 r ∧ SBox (Eng.put w' b6 (.cells y.arr 73 (0, 0))) b4 AState.zero := by
    intro w' x hk q6 q7 q4 y
    exact ⟨hk.putNew (by omega) _, SBox.put (blk_lt q6) y, (put_other (by omega)).trans q7, (put_other (by omega)).trans q4⟩
  refine W_loop (fun env w' => Kept none' w w' ∧ RegBox w' b7 r ∧ SBox w' b4 AState.zero ∧ ∃ j : Nat, j ≤ m ∧ SBox w' b6 (dropN s f j) ∧
    env = [undef, undef, .int .i64 m, undef, .pointer (some ⟨b4, 0, none⟩), undef, .pointer (some ⟨b6, 0, none⟩), .pointer (some ⟨b7, 0, none⟩), undef, .int .i64 f, undef, undef, undef, .int .i64 ((f + j : Nat) : Int), undef, undef]) (fun env _ => f + m - natAt env 13) ?_ ?_
  · exact ⟨hk05, h75, h45, 0, by omega, h65, by simp⟩
  clear h65 h75 h45 hk05 ck
  rintro env w6 ⟨hk6, h76, h46, j, hj, h66, rfl⟩
  simp only [W_seq]
  by_cases hjm : j < m
  · have hlt : ((f + j : Nat) : Int) < ((f + m : Nat) : Int) := by omega
    refine W_yes (by simp [em, hlt, -Int.natCast_add]) ?_
    have hk8 : (f + j) / 8 < 8 := by omega
    have q2 : IntKind.i64.wrap (((f + j : Nat) : Int).tdiv 8) = (((f + j) / 8 : Nat) : Int) := i64w (by show (_ : Int) ≤ (((f + j) / 8 : Nat) : Int); omega) (by show (((f + j) / 8 : Nat) : Int) ≤ _; omega)
    have e2 := i64_succ (j := f + j) (by omega)
    simp only [W_skip, W_seq, W_block, W_set]
    generalize hkk : (f + j) / 8 = k at *
    refine ok_intro (.int .i64 k) (by simp [q2, -Int.natCast_add, -Int.natCast_ediv]; exact q2) ?_
    have ckd := h66.kind hk8
    have q3 : ((k : Nat) : Int) < 8 := by omega
    try simp only [W_seq]
    by_cases h0 : ((dropN s f j).kept k).kind = 0
    · refine W_yes (by simp [hk8, q3, ckd, h0]) ?_
      have e3 : dropN s f (j + 1) = dropN s f j := by
        show dropK (dropN s f j) ((f + j) / 8) = _
        rw [hkk]
        unfold dropK
        rw [if_pos h0]
      simp [e2, -Int.natCast_add]
      exact ⟨⟨hk6, h76, h46, j + 1, by omega, by rw [e3]; exact h66, by simp; omega⟩, by simp [natAt]; omega⟩
    · have e3 : dropN s f (j + 1) = ((dropN s f j).setK k AReg.zero).setW fun q => if q / 8 = k then false else (dropN s f j).what q := by
        show dropK (dropN s f j) ((f + j) / 8) = _
        rw [hkk]
        unfold dropK
        rw [if_neg h0]
      refine W_no (by simp [hk8, q3, ckd, h0]) ?_
      simp only [W_skip, W_seq]
      refine W_store (xv := .pointer (some ⟨b6, 185 + k * 11, none⟩)) (vv := .agg AReg.zero.arr) (by simp [hk8, q3]) (by simp) (h66.setk hk8 AReg.zero) (stab_nil _ _ _) ?_
      obtain ⟨hk7, h67, h77, h47⟩ := step _ hk6 h66 h76 h46 ((dropN s f j).setK k AReg.zero)
      generalize Eng.put w6 b6 (.cells ((dropN s f j).setK k AReg.zero).arr 73 (0, 0)) = w7 at *
      have c1 : IntKind.i64.wrap ((k : Int) * 8) = ((k * 8 : Nat) : Int) := by rw [i64w (by omega) (by omega)]; omega
      have c2 : IntKind.i64.wrap ((k : Int) + 1) = ((k + 1 : Nat) : Int) := i64_succ (by omega)
      have c3 : IntKind.i64.wrap (((k + 1 : Nat) : Int) * 8) = (((k + 1) * 8 : Nat) : Int) := by rw [i64w (by omega) (by omega)]; omega
      have hr := run_clear_bool (P := Tryz.prog) (t := 37) (ty := 0) Tryz.underlying37 (by kernel_rfl) h67 (121 + k * 8) 8 (64 - k * 8) (by omega) (by rw [astate_size]; omega)
      rw [state_clear _ _ hk8] at hr
      obtain ⟨hk8', h68, h78, h48⟩ := step _ hk7 h67 h77 h47 (((dropN s f j).setK k AReg.zero).setW fun q => if q / 8 = k then false else ((dropN s f j).setK k AReg.zero).what q)
      have hsz : (k + 1) * 8 - k * 8 = 8 := by omega
      have hne : ¬ 64 = k * 8 := by omega
      have hle : k * 8 ≤ (k + 1) * 8 := by omega
      have hg3 : (((k + 1) * 8 : Nat) : Int) ≤ 64 := by omega
      refine W_bi (vs := [.slice (some ⟨b6, 121 + k * 8, none⟩) 8 (64 - k * 8)]) (by simp [c1, c2, c3, hne, hle, hg3, hsz, -Int.natCast_add, -Int.natCast_mul]) hr (stab_nil _ _ _) ?_
      have e4 : (((dropN s f j).setK k AReg.zero).setW fun q => if q / 8 = k then false else ((dropN s f j).setK k AReg.zero).what q) = dropN s f (j + 1) := e3.symm
      rw [e4] at h68 hk8' h78 h48 ⊢
      simp [e2, -Int.natCast_add]
      exact ⟨⟨hk8', h78, h48, j + 1, by omega, h68, by simp; omega⟩, by simp [natAt]; omega⟩
  · have hje : j = m := by omega
    subst hje
    refine W_no (by simp [em, -Int.natCast_add]) ?_
    simp only [W_skip, W_exit, Wx_exit_c, Wx_exit_post, Wx_exit_blk, W_seq, W_set, if_true, if_false]
    clear hjm hj
    generalize dropN s f j = s1 at *
    generalize hj1 : j = m at *
    subst hj1
    refine ok_intro (.int .i64 f) (by simp) ?_
    try simp only [W_seq]
    rw [W_block]
    refine W_loop (fun env w' => Kept none' w w' ∧ RegBox w' b7 r ∧ SBox w' b4 AState.zero ∧ ∃ i : Nat, i ≤ j ∧ SBox w' b6 (writeN s1 f i (decide (r.kind = 1))) ∧
      env = [undef, undef, .int .i64 j, undef, .pointer (some ⟨b4, 0, none⟩), undef, .pointer (some ⟨b6, 0, none⟩), .pointer (some ⟨b7, 0, none⟩), undef, .int .i64 f, undef, undef, undef, undef, undef, .int .i64 ((f + i : Nat) : Int)]) (fun env _ => f + j - natAt env 15) ?_ ?_
    · exact ⟨hk6, h76, h46, 0, by omega, by rw [writeN_zero]; exact h66, by simp⟩
    clear hk6 h76 h46 h66
    rintro env w7 ⟨hk7, h77, h47, i, hi, h67, rfl⟩
    have ck : wcell w7 b7 0 = some (.int .i64 r.kind) := by rw [wcell_of h77]; exact areg_kind0 r
    simp only [W_seq]
    by_cases him : i < j
    · have hlt : ((f + i : Nat) : Int) < ((f + j : Nat) : Int) := by omega
      refine W_yes (by simp [em, hlt, -Int.natCast_add]) ?_
      have e2 := i64_succ (j := f + i) (by omega)
      have hlt64 : f + i < 64 := by omega
      have hlt64' : ((f + i : Nat) : Int) < 64 := by omega
      have hge : (0 : Int) ≤ ((f + i : Nat) : Int) := by omega
      simp only [W_skip, W_seq, W_block]
      refine W_store (xv := .pointer (some ⟨b6, 121 + (f + i), none⟩)) (vv := .bool (decide (r.kind = 1))) (by simp [hlt64, hlt64', hge, -Int.natCast_add]) (by simp [ck]) (h67.setw hlt64 _) (stab_nil _ _ _) ?_
      obtain ⟨hk8, h68, h78, h48⟩ := step _ hk7 h67 h77 h47 ((writeN s1 f i (decide (r.kind = 1))).setW fun q => if q = f + i then decide (r.kind = 1) else (writeN s1 f i (decide (r.kind = 1))).what q)
      rw [writeN_succ] at hk8 h68 h78 h48 ⊢
      simp [e2, -Int.natCast_add]
      exact ⟨⟨hk8, h78, h48, i + 1, by omega, h68, by simp; omega⟩, by simp [natAt]; omega⟩
    · have hie : i = j := by omega
      subst hie
      refine W_no (by simp [em, -Int.natCast_add]) ?_
      simp only [W_skip, W_exit, Wx_exit_c, Wx_exit_post, Wx_exit_blk, W_seq, W_set, if_true, if_false]
      by_cases h1 : r.kind = 1
      · rw [if_pos h1]
        rw [decide_eq_true h1] at h67
        refine W_no (by simp [ck, h1]) ?_
        simp only [W_skip, W_seq]
        refine W_store (xv := .pointer (some ⟨b4, 0, none⟩)) (vv := .agg (writeN s1 f i true).arr) (by simp) (by simp [h67.row]) (h47.setAll _) (stab_nil _ _ _) ?_
        have h48 := SBox.put (blk_lt h47) (writeN s1 f i true)
        have hk8 := hk7.putNew hb4 (.cells (writeN s1 f i true).arr 73 (0, 0))
        generalize Eng.put w7 b4 (.cells (writeN s1 f i true).arr 73 (0, 0)) = w8 at *
        simp [h48.row]
        exact hk8
      · rw [if_neg h1]
        rw [decide_eq_false h1] at h67
        obtain ⟨hi8, hf8⟩ := hwh h1
        have hi8' : i = 8 := by omega
        have hk8 : f / 8 < 8 := by omega
        have q2 : IntKind.i64.wrap ((f : Int).tdiv 8) = ((f / 8 : Nat) : Int) := i64w (by show (_ : Int) ≤ ((f / 8 : Nat) : Int); omega) (by show ((f / 8 : Nat) : Int) ≤ _; omega)
        have q2' : IntKind.i64.wrap ((f : Int) / 8) = ((f / 8 : Nat) : Int) := q2
        have q3 : ((f / 8 : Nat) : Int) < 8 := by omega
        have q4 : (0 : Int) ≤ ((f / 8 : Nat) : Int) := by omega
        refine W_yes (by simp [ck, h1]) ?_
        refine W_store (xv := .pointer (some ⟨b6, 185 + f / 8 * 11, none⟩)) (vv := .agg r.arr) (by simp [q2, q2', q3, q4, hk8, -Int.natCast_ediv]) (by simp [h77.row]) (h67.setk hk8 r) (stab_nil _ _ _) ?_
        obtain ⟨hk9, h69, h79, h49⟩ := step _ hk7 h67 h77 h47 ((writeN s1 f i false).setK (f / 8) r)
        generalize Eng.put w7 b6 (.cells ((writeN s1 f i false).setK (f / 8) r).arr 73 (0, 0)) = w9 at *
        try simp only [W_seq]
        refine W_store (xv := .pointer (some ⟨b4, 0, none⟩)) (vv := .agg ((writeN s1 f i false).setK (f / 8) r).arr) (by simp) (by simp [h69.row]) (h49.setAll _) (stab_nil _ _ _) ?_
        have h48 := SBox.put (blk_lt h49) ((writeN s1 f i false).setK (f / 8) r)
        have hk10 := hk9.putNew hb4 (.cells ((writeN s1 f i false).setK (f / 8) r).arr 73 (0, 0))
        generalize Eng.put w9 b4 (.cells ((writeN s1 f i false).setK (f / 8) r).arr 73 (0, 0)) = w10 at *
        simp [h48.row]
        exact hk10
theorem save_T (w0 : World) (s : AState) (a n : Int) (r : AReg) (ha : InS a) : T Tryz.prog w0 105 [s.val, .int .i64 a, .int .i64 n, r.val] = some (.tuple #[(saveOf s a n r).1.val, .bool (saveOf s a n r).2]) :=
  T_of_ret (by kernel_rfl) (by simp [AState.val, AReg.val]) (by simp [AState.val]) fun w _ => save_ret w s a n r ha
end Go.Proofs.YtkgpmjjleemdlaaGreat

set_option linter.unusedSimpArgs false
set_option linter.unusedVariables false
set_option maxRecDepth 8000
namespace Go.Proofs.YtkgpmjjleemdlaaGreat
open Go.Eng Go.Sort
attribute [local irreducible] Go.Eng.W

def setRs (s : AState) (g : AReg → AReg) (m : Nat) : AState := { s with r := fun j => if j < m then g (s.r j) else s.r j }
def setKs (s : AState) (g : AReg → AReg) (m : Nat) : AState := { s with
  kept := fun j => if j < m then (if (g (s.kept j)).kind = 1 then AReg.zero else g (s.kept j)) else s.kept j
  what := fun q => if q / 8 < m ∧ (g (s.kept (q / 8))).kind = 1 then true else s.what q }
def settleS (s : AState) (id : Int) (cell : Bool) : AState := setKs (setRs s (fun r => settledOf r id cell) 11) (fun r => settledOf r id cell) 8
theorem setRs_zero (s : AState) (g : AReg → AReg) : setRs s g 0 = s := by unfold setRs; simp
theorem setRs_succ (s : AState) (g : AReg → AReg) (m : Nat) : (setRs s g m).setR m (g (s.r m)) = setRs s g (m + 1) := by
  unfold setRs AState.setR fsetR
  simp only
  congr 1
  funext j
  by_cases h : j = m
  · subst h; rw [if_pos rfl, if_pos (by omega)]
  · rw [if_neg h]
    by_cases h2 : j < m
    · rw [if_pos h2, if_pos (by omega)]
    · rw [if_neg h2, if_neg (by omega)]
theorem setKs_zero (s : AState) (g : AReg → AReg) : setKs s g 0 = s := by unfold setKs; simp
theorem setKs_no {s : AState} {g : AReg → AReg} {m : Nat} (h : (g (s.kept m)).kind ≠ 1) : (setKs s g m).setK m (g (s.kept m)) = setKs s g (m + 1) := by
  unfold setKs AState.setK fsetR
  simp only
  congr 1
  · funext q
    by_cases h2 : q / 8 < m
    · simp only [h2, true_and, show q / 8 < m + 1 by omega]
    · by_cases h3 : q / 8 = m
      · rw [if_neg (fun e => h2 e.1), if_neg (fun e => h (by rw [← h3]; exact e.2))]
      · rw [if_neg (fun e => h2 e.1), if_neg (fun e => by omega)]
  · funext j
    by_cases h2 : j = m
    · subst h2; rw [if_pos rfl, if_pos (by omega), if_neg h]
    · rw [if_neg h2]
      by_cases h3 : j < m
      · simp only [h3, show j < m + 1 by omega, if_true]
      · simp only [h3, show ¬ j < m + 1 by omega, if_false]
def setKw (s : AState) (g : AReg → AReg) (m q : Nat) : AState := ((setKs s g m).setK m AReg.zero).setW fun i => if m * 8 ≤ i ∧ i < m * 8 + q then true else (setKs s g m).what i
theorem setKw_yes {s : AState} {g : AReg → AReg} {m : Nat} (h : (g (s.kept m)).kind = 1) : setKw s g m 8 = setKs s g (m + 1) := by
  unfold setKw setKs AState.setK AState.setW fsetR
  simp only
  congr 1
  · funext q
    by_cases h2 : q / 8 < m
    · rw [if_neg (by omega)]
      simp only [h2, true_and, show q / 8 < m + 1 by omega]
    · by_cases h3 : q / 8 = m
      · rw [if_pos (by omega), if_pos ⟨by omega, by rw [h3]; exact h⟩]
      · rw [if_neg (by omega), if_neg (fun e => h2 e.1), if_neg (fun e => by omega)]
  · funext j
    by_cases h2 : j = m
    · subst h2; rw [if_pos rfl, if_pos (by omega), if_pos h]
    · rw [if_neg h2]
      by_cases h3 : j < m
      · simp only [h3, show j < m + 1 by omega, if_true]
      · simp only [h3, show ¬ j < m + 1 by omega, if_false]
theorem setKw_zero (s : AState) (g : AReg → AReg) (m : Nat) : setKw s g m 0 = (setKs s g m).setK m AReg.zero := by
  unfold setKw AState.setW AState.setK
  simp only
  congr 1
  funext i
  rw [if_neg (by omega)]
theorem setKw_succ (s : AState) (g : AReg → AReg) (m q : Nat) : ((setKw s g m q).setW fun i => if i = m * 8 + q then true else (setKw s g m q).what i) = setKw s g m (q + 1) := by
  unfold setKw AState.setW
  simp only
  congr 1
  funext i
  by_cases h1 : i = m * 8 + q
  · rw [if_pos h1, if_pos (by omega)]
  · rw [if_neg h1]
    by_cases h2 : m * 8 ≤ i ∧ i < m * 8 + q
    · rw [if_pos h2, if_pos (by omega)]
    · rw [if_neg h2, if_neg (by omega)]
theorem regs_at (s : AState) {i : Nat} (h : i < 11) : (s.arr.extract 0 121).extract (i * 11) (i * 11 + 11) = (s.r i).arr := by
  rw [Array.extract_extract, ← state_reg s i h]
  congr 1
  · omega
  · omega
theorem kepts_at (s : AState) {i : Nat} (h : i < 8) : (s.arr.extract 185 (185 + 88)).extract (i * 11) (i * 11 + 11) = (s.kept i).arr := by
  rw [Array.extract_extract, ← state_kept s i h]
  congr 1
  omega
theorem SBox.regs {w : World} {b : Nat} {s : AState} (h : SBox w b s) : wrow w b 0 121 = some (s.arr.extract 0 121) := by
  rw [wrow_of h (by rw [astate_size]; omega)]
theorem SBox.kepts {w : World} {b : Nat} {s : AState} (h : SBox w b s) : wrow w b 185 88 = some (s.arr.extract 185 (185 + 88)) := by
  rw [wrow_of h (by rw [astate_size]; omega)]
theorem SBox.setr {w : World} {b : Nat} {s : AState} (h : SBox w b s) {d : Nat} (hd : d < 11) (v : AReg) : stv w 11 (.pointer (some ⟨b, d * 11, none⟩)) (.agg v.arr) = some (Eng.put w b (.cells (s.setR d v).arr 73 (0, 0))) := by
  have hc : (Value.agg v.arr).cells = v.arr := rfl
  rw [stv_of (n := 11) (v := .agg v.arr) h (by rw [hc]; exact areg_size v) (by rw [astate_size]; omega) (.inl (by simp)) (by rw [hc]; exact areg_one v), hc, state_setreg s d v hd]
theorem SBox.reg {w : World} {b : Nat} {s : AState} (h : SBox w b s) {d : Nat} (hd : d < 11) : wrow w b (d * 11) 11 = some (s.r d).arr := by
  rw [wrow_of h (by rw [astate_size]; omega), state_reg s d hd]
theorem SBox.keptRow {w : World} {b : Nat} {s : AState} (h : SBox w b s) {d : Nat} (hd : d < 8) : wrow w b (185 + d * 11) 11 = some (s.kept d).arr := by
  rw [wrow_of h (by rw [astate_size]; omega), state_kept s d hd]
set_option maxHeartbeats 8000000 in
theorem settle_retS (w : World) (s : AState) (id : Int) (cell : Bool) : Ret Tryz.prog 96 [s.val, .int .i64 id, .bool cell] w fun v w' => v = (settleS s id cell).val ∧ Kept none' w w' := by
  refine ret_of_W Tryz.func96 rfl ok_absreg_Settle ?_
  unfold settleS
  have hst := fun w r => settled_T w r id cell
  generalize hg : (fun r => settledOf r id cell) = g
  have hst : ∀ w r, T Tryz.prog w 127 [.agg r.arr, .int .i64 id, .bool cell] = some (.agg (g r).arr) := fun w r => by rw [← hg]; exact hst w r
  clear hg
  simp only [c_absreg_Settle, W_seq, AState.val]
  refine W_new' (v := .agg s.arr) (cs := s.arr) (by simp) rfl ?_
  have h4 := SBox.new w s
  have hk1 := (Kept.refl none' w).alloc (.cells s.arr 73)
  generalize hb4 : w.heap.size = b4 at *
  generalize (w.alloc (.cells s.arr 73)) = w1 at *
  try simp only [W_seq]
  refine W_new' (v := .agg AState.zero.arr) (cs := AState.zero.arr) (by simp) rfl ?_
  have h3 := SBox.new w1 AState.zero
  have hk2 := (Kept.refl none' w1).alloc (.cells AState.zero.arr 73)
  have h42 := h4.calm hk2
  have hk02 := hk1.trans hk2
  have n3 : b4 < w1.heap.size := blk_lt h4
  generalize (w1.alloc (.cells AState.zero.arr 73)) = w2 at *
  generalize w1.heap.size = b3 at *
  clear h4 hk1 hk2
  have step : ∀ {w' : World} (x : AState), Kept none' w w' → SBox w' b4 x → SBox w' b3 AState.zero → ∀ y : AState, Kept none' w (Eng.put w' b4 (.cells y.arr 73 (0, 0))) ∧ SBox (Eng.put w' b4 (.cells y.arr 73 (0, 0))) b4 y ∧
      SBox (Eng.put w' b4 (.cells y.arr 73 (0, 0))) b3 AState.zero := by
    intro w' x hk q4 q3 y
    exact ⟨hk.putNew (by omega) _, SBox.put (blk_lt q4) y, (put_other (by omega)).trans q3⟩
  simp only [W_seq, W_set]
  refine ok_intro (.agg (s.arr.extract 0 121)) (by simp [h42.regs]) ?_
  try simp only [W_seq, W_set]
  refine ok_intro (.int .i64 0) (by simp) ?_
  try simp only [W_seq]
  rw [W_block]
  refine W_loop (fun env w' => Kept none' w w' ∧ SBox w' b3 AState.zero ∧ ∃ i : Nat, i ≤ 11 ∧ SBox w' b4 (setRs s g i) ∧
    env = [undef, .int .i64 id, .bool cell, .pointer (some ⟨b3, 0, none⟩), .pointer (some ⟨b4, 0, none⟩), .int .i64 i, .agg (s.arr.extract 0 121), undef, undef, undef, undef, undef, undef, undef, undef, undef, undef]) (fun env _ => 11 - natAt env 5) ?_ ?_
  · exact ⟨hk02, h3, 0, by omega, by rw [setRs_zero]; exact h42, by simp⟩
  clear hk02 h3 h42
  rintro env w3 ⟨hk3, h33, i, hi, h43, rfl⟩
  simp only [W_seq]
  by_cases hgo : i < 11
  · have hgo' : (i : Int) < 11 := by omega
    have e1 := i64_succ (j := i) (by omega)
    have ri := regs_at s hgo
    refine W_yes (by simp [hgo']) ?_
    simp only [W_skip, W_seq, W_block]
    refine W_chkIn [.agg (s.r i).arr] (by simp [hgo', ri]) ?_
    try simp only [W_seq]
    refine W_new' (v := .agg AReg.zero.arr) (cs := AReg.zero.arr) (by simp) rfl ?_
    have h7 : RegBox _ w3.heap.size AReg.zero := hp_new w3 (.cells AReg.zero.arr 68)
    have hk4 := (Kept.refl none' w3).alloc (.cells AReg.zero.arr 68)
    have h34 := h33.calm hk4
    have h44 := h43.calm hk4
    have hk04 := hk3.trans hk4
    have n7 : b4 < w3.heap.size := blk_lt h43
    have n73 : b3 < w3.heap.size := blk_lt h33
    have nw : w.heap.size ≤ w3.heap.size := hk3.size
    generalize (w3.alloc (.cells AReg.zero.arr 68)) = w4 at *
    generalize w3.heap.size = b7 at *
    simp only [W_seq, W_set]
    refine ok_intro (.int .i64 i) (by simp) ?_
    try simp only [W_seq]
    refine W_store (xv := .pointer (some ⟨b7, 0, none⟩)) (vv := .agg (s.r i).arr) (by simp) (by simp [hgo', ri]) (h7.store _) (stab_nil _ _ _) ?_
    have h75 : RegBox _ b7 (s.r i) := put_same (blk_lt h7)
    have hk05 := hk04.putNew nw (.cells (s.r i).arr 68 (0, 0))
    have h35 : SBox _ b3 AState.zero := (put_other (o := .cells (s.r i).arr 68) (w := w4) (show b3 ≠ b7 by omega)).trans h34
    have h45 : SBox _ b4 (setRs s g i) := (put_other (o := .cells (s.r i).arr 68) (w := w4) (show b4 ≠ b7 by omega)).trans h44
    generalize Eng.put w4 b7 (.cells (s.r i).arr 68 (0, 0)) = w5 at *
    try simp only [W_seq]
    refine W_chkIn [.int .i64 i] (by simp) ?_
    try simp only [W_seq]
    refine W_calm (by simp [h75.row]) (ret_of_T (hst w5 (s.r i))) ?_
    intro w6 hk6
    have h36 := h35.calm hk6
    have h46 := h45.calm hk6
    have hk06 := hk05.trans hk6
    try simp only [W_seq]
    refine W_store (xv := .pointer (some ⟨b4, i * 11, none⟩)) (vv := .agg (g (s.r i)).arr) (by simp [hgo, hgo']) (by simp) (h46.setr hgo _) (stab_nil _ _ _) ?_
    obtain ⟨hk7, h47, h37⟩ := step _ hk06 h46 h36 ((setRs s g i).setR i (g (s.r i)))
    rw [setRs_succ] at hk7 h47 h37 ⊢
    simp [e1, -Int.natCast_add]
    exact ⟨⟨hk7, h37, i + 1, by omega, h47, rfl⟩, by simp [natAt]; omega⟩
  have hie : i = 11 := by omega
  subst hie
  refine W_no (by simp) ?_
  simp only [W_skip, W_exit, Wx_exit_c, Wx_exit_post, Wx_exit_blk, W_seq, W_set, if_true, if_false]
  have hkk : (setRs s g 11).kept = s.kept := rfl
  generalize setRs s g 11 = t at *
  clear hi hgo
  refine ok_intro (.agg (t.arr.extract 185 (185 + 88))) (by simp [h43.kepts]) ?_
  try simp only [W_seq, W_set]
  refine ok_intro (.int .i64 0) (by simp) ?_
  try simp only [W_seq]
  rw [W_block]
  refine W_loop (fun env w' => Kept none' w w' ∧ SBox w' b3 AState.zero ∧ ∃ i : Nat, i ≤ 8 ∧ SBox w' b4 (setKs t g i) ∧
    env = [undef, .int .i64 id, .bool cell, .pointer (some ⟨b3, 0, none⟩), .pointer (some ⟨b4, 0, none⟩), undef, undef, undef, undef, undef, .int .i64 i, .agg (t.arr.extract 185 (185 + 88)), undef, undef, undef, undef, undef]) (fun env _ => 8 - natAt env 10) ?_ ?_
  · exact ⟨hk3, h33, 0, by omega, by rw [setKs_zero]; exact h43, by simp⟩
  clear hk3 h33 h43
  rintro env w3 ⟨hk3, h33, i, hi, h43, rfl⟩
  simp only [W_seq]
  by_cases hgo : i < 8
  · have hgo' : (i : Int) < 8 := by omega
    have e1 := i64_succ (j := i) (by omega)
    have ri := kepts_at t hgo
    refine W_yes (by simp [hgo']) ?_
    simp only [W_skip, W_seq, W_block]
    refine W_chkIn [.agg (t.kept i).arr] (by simp [hgo', ri]) ?_
    try simp only [W_seq]
    refine W_new' (v := .agg AReg.zero.arr) (cs := AReg.zero.arr) (by simp) rfl ?_
    have h7 : RegBox _ w3.heap.size AReg.zero := hp_new w3 (.cells AReg.zero.arr 68)
    have hk4 := (Kept.refl none' w3).alloc (.cells AReg.zero.arr 68)
    have h34 := h33.calm hk4
    have h44 := h43.calm hk4
    have hk04 := hk3.trans hk4
    have n7 : b4 < w3.heap.size := blk_lt h43
    have n73 : b3 < w3.heap.size := blk_lt h33
    have nw : w.heap.size ≤ w3.heap.size := hk3.size
    generalize (w3.alloc (.cells AReg.zero.arr 68)) = w4 at *
    generalize w3.heap.size = b7 at *
    simp only [W_seq, W_set]
    refine ok_intro (.int .i64 i) (by simp) ?_
    try simp only [W_seq]
    refine W_store (xv := .pointer (some ⟨b7, 0, none⟩)) (vv := .agg (t.kept i).arr) (by simp) (by simp [hgo', ri]) (h7.store _) (stab_nil _ _ _) ?_
    have h75 : RegBox _ b7 (t.kept i) := put_same (blk_lt h7)
    have hk05 := hk04.putNew nw (.cells (t.kept i).arr 68 (0, 0))
    have h35 : SBox _ b3 AState.zero := (put_other (o := .cells (t.kept i).arr 68) (w := w4) (show b3 ≠ b7 by omega)).trans h34
    have h45 : SBox _ b4 (setKs t g i) := (put_other (o := .cells (t.kept i).arr 68) (w := w4) (show b4 ≠ b7 by omega)).trans h44
    generalize Eng.put w4 b7 (.cells (t.kept i).arr 68 (0, 0)) = w5 at *
    try simp only [W_seq]
    refine W_chkIn [.int .i64 i] (by simp) ?_
    try simp only [W_seq]
    refine W_calm (by simp [h75.row]) (ret_of_T (hst w5 (t.kept i))) ?_
    intro w6 hk6
    have h36 := h35.calm hk6
    have h46 := h45.calm hk6
    have hk06 := hk05.trans hk6
    try simp only [W_seq]
    refine W_store (xv := .pointer (some ⟨b4, 185 + i * 11, none⟩)) (vv := .agg (g (t.kept i)).arr) (by simp [hgo, hgo']) (by simp) (h46.setk hgo _) (stab_nil _ _ _) ?_
    obtain ⟨hk7, h47, h37⟩ := step _ hk06 h46 h36 ((setKs t g i).setK i (g (t.kept i)))
    generalize Eng.put w6 b4 (.cells ((setKs t g i).setK i (g (t.kept i))).arr 73 (0, 0)) = w7 at *
    have ckd := h47.kind hgo
    have ckd' : ((setKs t g i).setK i (g (t.kept i))).kept i = g (t.kept i) := by simp [AState.setK, fsetR]
    rw [ckd'] at ckd
    try simp only [W_seq]
    by_cases h1 : (g (t.kept i)).kind = 1
    · refine W_no (by simp [hgo, hgo', ckd, h1]) ?_
      simp only [W_skip, W_seq]
      refine W_store (xv := .pointer (some ⟨b4, 185 + i * 11, none⟩)) (vv := .agg AReg.zero.arr) (by simp [hgo, hgo']) (by simp) (h47.setk hgo _) (stab_nil _ _ _) ?_
      obtain ⟨hk8, h48, h38⟩ := step _ hk7 h47 h37 (((setKs t g i).setK i (g (t.kept i))).setK i AReg.zero)
      have ee : ((setKs t g i).setK i (g (t.kept i))).setK i AReg.zero = setKw t g i 0 := by
        rw [setKw_zero]
        unfold AState.setK
        congr 1
        funext j
        unfold fsetR
        by_cases h : j = i <;> simp [h]
      rw [ee] at hk8 h48 h38 ⊢
      generalize Eng.put w7 b4 (.cells (setKw t g i 0).arr 73 (0, 0)) = w8 at *
      simp only [W_seq, W_set]
      refine ok_intro (.int .i64 0) (by simp) ?_
      try simp only [W_seq]
      rw [W_block]
      refine W_loop (fun env w' => Kept none' w w' ∧ SBox w' b3 AState.zero ∧ ∃ q : Nat, q ≤ 8 ∧ SBox w' b4 (setKw t g i q) ∧
        env = [undef, .int .i64 id, .bool cell, .pointer (some ⟨b3, 0, none⟩), .pointer (some ⟨b4, 0, none⟩), undef, undef, undef, undef, undef, .int .i64 i, .agg (t.arr.extract 185 (185 + 88)), undef, .int .i64 i, undef, .int .i64 q, undef]) (fun env _ => 8 - natAt env 15) ?_ ?_
      · exact ⟨hk8, h38, 0, by omega, h48, by simp⟩
      clear hk8 h38 h48 hk7 h47 h37 hk06 h46 h36 hk05 h35 h45 h75 hk04 h34 h44 h7 hk4 hk6 ckd hk3 h33 h43
      rintro env w9 ⟨hk9, h39, q, hq, h49, rfl⟩
      simp only [W_seq]
      by_cases hq8 : q < 8
      · have hq8' : (q : Int) < 8 := by omega
        have e2 := i64_succ (j := q) (by omega)
        have c1 : IntKind.i64.wrap ((i : Int) * 8) = ((i * 8 : Nat) : Int) := by rw [i64w (by omega) (by omega)]; omega
        have c2 : IntKind.i64.wrap (((i * 8 : Nat) : Int) + q) = ((i * 8 + q : Nat) : Int) := by rw [i64w (by omega) (by omega)]; omega
        have hlt : i * 8 + q < 64 := by omega
        have hlt' : ((i * 8 + q : Nat) : Int) < 64 := by omega
        have hge : (0 : Int) ≤ ((i * 8 + q : Nat) : Int) := by omega
        refine W_yes (by simp [hq8']) ?_
        simp only [W_skip, W_seq, W_block, W_set]
        refine ok_intro (.int .i64 q) (by simp) ?_
        try simp only [W_seq]
        refine W_store (xv := .pointer (some ⟨b4, 121 + (i * 8 + q), none⟩)) (vv := .bool true) (by simp [c1, c2, hlt, hlt', hge, -Int.natCast_add, -Int.natCast_mul]) (by simp) (h49.setw hlt _) (stab_nil _ _ _) ?_
        obtain ⟨hk10, h410, h310⟩ := step _ hk9 h49 h39 ((setKw t g i q).setW fun j => if j = i * 8 + q then true else (setKw t g i q).what j)
        rw [setKw_succ] at hk10 h410 h310 ⊢
        simp [e2, -Int.natCast_add]
        exact ⟨⟨hk10, h310, q + 1, by omega, h410, rfl⟩, by simp [natAt]; omega⟩
      · have hqe : q = 8 := by omega
        subst hqe
        refine W_no (by simp) ?_
        rw [setKw_yes h1] at h49
        simp [e1, -Int.natCast_add]
        exact ⟨⟨hk9, h39, i + 1, by omega, h49, rfl⟩, by simp [natAt]; omega⟩
    · refine W_yes (by simp [hgo, hgo', ckd, h1]) ?_
      rw [setKs_no h1] at h47
      simp [e1, -Int.natCast_add]
      exact ⟨⟨hk7, h37, i + 1, by omega, h47, rfl⟩, by simp [natAt]; omega⟩
  have hie : i = 8 := by omega
  subst hie
  refine W_no (by simp) ?_
  simp only [W_skip, W_exit, Wx_exit_c, Wx_exit_post, Wx_exit_blk, W_seq, W_set, if_true, if_false]
  refine W_store (xv := .pointer (some ⟨b3, 0, none⟩)) (vv := .agg (setKs t g 8).arr) (by simp) (by simp [h43.row]) (h33.setAll _) (stab_nil _ _ _) ?_
  have h34 := SBox.put (blk_lt h33) (setKs t g 8)
  have hk4 := hk3.putNew (b := b3) (by omega) (.cells (setKs t g 8).arr 73 (0, 0))
  generalize Eng.put w3 b3 (.cells (setKs t g 8).arr 73 (0, 0)) = w4 at *
  simp [h34.row]
  exact hk4
theorem settle_TS (w0 : World) (s : AState) (id : Int) (cell : Bool) : T Tryz.prog w0 96 [s.val, .int .i64 id, .bool cell] = some (settleS s id cell).val :=
  T_of_ret (by kernel_rfl) (by simp [AState.val]) (by simp [AState.val]) fun w _ => settle_retS w s id cell
end Go.Proofs.YtkgpmjjleemdlaaGreat

