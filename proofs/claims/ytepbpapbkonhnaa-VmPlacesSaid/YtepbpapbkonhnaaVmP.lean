/- Layer 20: what the other laws' programs come to. -/
import Derived.Test.YtepbpapbkonhnaaVmO
set_option linter.unusedSimpArgs false
set_option linter.unusedVariables false
set_option maxRecDepth 8000
namespace Go.Proofs.Ytepbpapbkonhnaa
open Go.Eng

/-! VmAtomic. -/
def atomCode (a b imm : Int) : List Ins := [⟨122, 10, 0, -8, a⟩, ⟨122, 10, 0, -16, 5⟩, ⟨183, 6, 0, 0, b⟩, ⟨219, 10, 6, -8, imm⟩, ⟨121, 0, 10, -16, 0⟩, ⟨85, 0, 0, 1, 5⟩, ⟨121, 0, 10, -8, 0⟩, ⟨149, 0, 0, 0, 0⟩]
theorem atomN_lt {imm a b n : Int} (h : atomN imm a b = some n) : n < 18446744073709551616 := by
  have hw : ∀ z, IntKind.u64.wrap z < 18446744073709551616 := fun z => by rw [IntKind.wrap_u64]; omega
  unfold atomN at h
  repeat' split at h
  all_goals first | cases h
  all_goals exact hw _
theorem atom_a (a b imm z : Int) (hz : atomN imm (IntKind.u64.wrap (IntKind.i64.wrap a)) (IntKind.u64.wrap (IntKind.i64.wrap b)) = some z) (maps : Value) :
    runOf (atomCode a b imm) (fun _ => 0) 0 [] 99 maps = (z, 7, 8, 0) := by
  unfold runOf
  generalize RMem.fresh (fun _ => 0) maps = m
  show vrun (atomCode a b imm) 0 [] 99 0 startSt m = _
  have z0 := atomN_ok hz
  have z1 := atomN_lt hz
  generalize hV : IntKind.u64.wrap (IntKind.i64.wrap a) = V at hz
  generalize hW : IntKind.u64.wrap (IntKind.i64.wrap b) = W' at hz
  have hV0 : 0 ≤ V := hV ▸ wrap_u64_nonneg _
  have hV1 : V < 18446744073709551616 := by rw [← hV, IntKind.wrap_u64]; omega
  have hs : startSt = st startSt.r 0 := rfl
  have e0 : vstep (atomCode a b imm) 0 [] startSt m = some (st startSt.r 1, wsave m 7 V) :=
    step_store (s := startSt) (x := ⟨122, 10, 0, -8, a⟩) (p := ⟨7, 0, 8, false, false⟩) (A := plc 0) (V := num V) rfl (of_decide_eq_true (by kernel_rfl)) (of_decide_eq_true (by kernel_rfl)) (by kernel_rfl) (by kernel_rfl) rfl rfl (by rw [← hV]; kernel_rfl) (saveOf_word m 7 (by omega) rfl (by kernel_rfl))
  have w7 : WordN (wsave m 7 V) 7 V := wsave_same m 7 V hV0 hV1
  generalize wsave m 7 V = m1 at e0 w7
  have e1 : vstep (atomCode a b imm) 0 [] (st startSt.r 1) m1 = some (st startSt.r 2, wsave m1 6 5) :=
    step_store (x := ⟨122, 10, 0, -16, 5⟩) (p := ⟨7, 0, 8, false, false⟩) (A := plc 0) (V := num 5) rfl (of_decide_eq_true (by kernel_rfl)) (of_decide_eq_true (by kernel_rfl)) (by kernel_rfl) (by kernel_rfl) rfl rfl (by kernel_rfl) (saveOf_word m1 6 (by omega) rfl (by kernel_rfl))
  have w6 : WordN (wsave m1 6 5) 6 5 := wsave_same m1 6 5 (by omega) (by omega)
  have w71 : WordN (wsave m1 6 5) 7 V := wsave_other (by omega) w7
  generalize wsave m1 6 5 = m2 at e1 w6 w71
  have e2 : vstep (atomCode a b imm) 0 [] (st startSt.r 2) m2 = some (st (fset startSt.r 6 (num (IntKind.u64.wrap (IntKind.i64.wrap b)))) 3, m2) := by kernel_rfl
  rw [hW] at e2
  have e3 : vstep (atomCode a b imm) 0 [] (st (fset startSt.r 6 (num W')) 3) m2 = some (st (fset startSt.r 6 (num W')) 4, wsave m2 7 z) :=
    step_atomic (x := ⟨219, 10, 6, -8, imm⟩) (p := ⟨8, 0, 8, false, true⟩) (A := plc 0) (a := V) (b := W') (n := z) rfl (of_decide_eq_true (by kernel_rfl)) (of_decide_eq_true (by kernel_rfl)) (by kernel_rfl) (by kernel_rfl) rfl (by kernel_rfl) (by kernel_rfl) (loadOf_word 7 w71 (by omega) rfl (by kernel_rfl)) hz (saveOf_word m2 7 (by omega) rfl (by kernel_rfl))
  have w72 : WordN (wsave m2 7 z) 7 z := wsave_same m2 7 z z0 z1
  have w61 : WordN (wsave m2 7 z) 6 5 := wsave_other (by omega) w6
  generalize wsave m2 7 z = m3 at e3 w72 w61
  have e4 : vstep (atomCode a b imm) 0 [] (st (fset startSt.r 6 (num W')) 4) m3 = some (st (fset (fset startSt.r 6 (num W')) 0 (num 5)) 5, m3) :=
    step_load (x := ⟨121, 0, 10, -16, 0⟩) (p := ⟨6, 0, 8, false, false⟩) (A := plc 0) (V := num 5) rfl (of_decide_eq_true (by kernel_rfl)) (of_decide_eq_true (by kernel_rfl)) (by kernel_rfl) (by kernel_rfl) rfl (of_decide_eq_true (by kernel_rfl)) (by kernel_rfl) (loadOf_word 6 w61 (by omega) rfl (by kernel_rfl))
  have e5 : vstep (atomCode a b imm) 0 [] (st (fset (fset startSt.r 6 (num W')) 0 (num 5)) 5) m3 = some (st (fset (fset startSt.r 6 (num W')) 0 (num 5)) 6, m3) := by kernel_rfl
  have e6 : vstep (atomCode a b imm) 0 [] (st (fset (fset startSt.r 6 (num W')) 0 (num 5)) 6) m3 = some (st (fset (fset (fset startSt.r 6 (num W')) 0 (num 5)) 0 (num z)) 7, m3) :=
    step_load (x := ⟨121, 0, 10, -8, 0⟩) (p := ⟨6, 0, 8, false, false⟩) (A := plc 0) (V := num z) rfl (of_decide_eq_true (by kernel_rfl)) (of_decide_eq_true (by kernel_rfl)) (by kernel_rfl) (by kernel_rfl) rfl (of_decide_eq_true (by kernel_rfl)) (by kernel_rfl) (loadOf_word 7 w72 (by omega) rfl (by kernel_rfl))
  have e7 : vstep (atomCode a b imm) 0 [] (st (fset (fset (fset startSt.r 6 (num W')) 0 (num 5)) 0 (num z)) 7) m3 = some ({ st (fset (fset (fset startSt.r 6 (num W')) 0 (num 5)) 0 (num z)) 7 with done := true }, m3) := by kernel_rfl
  rw [vrun_step e0 rfl, vrun_step e1 rfl, vrun_step e2 rfl, vrun_step e3 rfl, vrun_step e4 rfl, vrun_step e5 rfl, vrun_step e6 rfl, vrun_end e7 rfl]
  rfl

/-! VmSums. -/
def sumCode (op : Nat) (a b : Int) : List Ins := [⟨121, 6, 1, a, 0⟩, ⟨121, 0, 1, b, 0⟩, ⟨op, 0, 6, 0, 0⟩, ⟨149, 0, 0, 0, 0⟩]
theorem load_at (c : Nat → Int) (maps : Value) (a : Nat) (ha : a < 25) : loadOf (RMem.fresh c maps) ⟨2, 0, 0, none⟩ (IntKind.i64.wrap a) 8 = (num (leN (fun j => c (a + j)) 8), 0) := by
  unfold loadOf
  rw [if_pos rfl]
  have e : IntKind.i64.wrap (0 : Int) + IntKind.i64.wrap (a : Int) = a := by rw [i64w (by omega) (by omega), i64w (by omega) (by omega)]; omega
  show loadC _ (IntKind.i64.wrap (0 : Int) + IntKind.i64.wrap (a : Int)) 8 = _
  rw [e]
  unfold loadC
  rw [if_pos ⟨by simp [sizeOk], by omega, by omega⟩, Int.toNat_natCast]
  rfl
def opOf (i : Nat) (y x : Int) : Int :=
  if i = 0 then IntKind.u64.wrap (y + x) else if i = 1 then IntKind.u64.wrap (y - x) else if i = 2 then IntKind.u64.wrap (y * x) else if i = 3 then bitOr .u64 y x else if i = 4 then bitAnd .u64 y x else bitXor .u64 y x
def codeOfOp (i : Nat) : Nat := if i = 0 then 15 else if i = 1 then 31 else if i = 2 then 47 else if i = 3 then 79 else if i = 4 then 95 else 175
theorem sum_a (c : Nat → Int) (i a b : Nat) (hi : i < 6) (ha : a < 25) (hb : b < 25) (maps : Value) :
    runOf (sumCode (codeOfOp i) a b) c 0 [] 4 maps = (opOf i (leN (fun j => c (b + j)) 8) (leN (fun j => c (a + j)) 8), 3, 4, 0) := by
  unfold runOf
  generalize hX : leN (fun j => c (a + j)) 8 = X
  generalize hY : leN (fun j => c (b + j)) 8 = Y
  have la := load_at c maps a ha
  have lb := load_at c maps b hb
  rw [hX] at la
  rw [hY] at lb
  generalize RMem.fresh c maps = m at la lb
  show vrun (sumCode (codeOfOp i) a b) 0 [] 4 0 startSt m = _
  have e0 : vstep (sumCode (codeOfOp i) a b) 0 [] startSt m = some (st (fset startSt.r 6 (num X)) 1, m) :=
    step_load (s := startSt) (x := ⟨121, 6, 1, a, 0⟩) (p := ⟨6, 0, 8, false, false⟩) (A := ⟨2, 0, 0, none⟩) (V := num X) rfl (of_decide_eq_true (by kernel_rfl)) (of_decide_eq_true (by kernel_rfl)) (by kernel_rfl) (by kernel_rfl) rfl (of_decide_eq_true (by kernel_rfl)) (by kernel_rfl) la
  have e1 : vstep (sumCode (codeOfOp i) a b) 0 [] (st (fset startSt.r 6 (num X)) 1) m = some (st (fset (fset startSt.r 6 (num X)) 0 (num Y)) 2, m) :=
    step_load (x := ⟨121, 0, 1, b, 0⟩) (p := ⟨6, 0, 8, false, false⟩) (A := ⟨2, 0, 0, none⟩) (V := num Y) rfl (of_decide_eq_true (by kernel_rfl)) (of_decide_eq_true (by kernel_rfl)) (by kernel_rfl) (by kernel_rfl) rfl (of_decide_eq_true (by kernel_rfl)) (by kernel_rfl) lb
  have e2 : vstep (sumCode (codeOfOp i) a b) 0 [] (st (fset (fset startSt.r 6 (num X)) 0 (num Y)) 2) m = some (st (fset (fset (fset startSt.r 6 (num X)) 0 (num Y)) 0 (num (opOf i Y X))) 3, m) := by
    have : i = 0 ∨ i = 1 ∨ i = 2 ∨ i = 3 ∨ i = 4 ∨ i = 5 := by omega
    rcases this with rfl | rfl | rfl | rfl | rfl | rfl <;> (show _ = _) <;> kernel_rfl
  have e3 : vstep (sumCode (codeOfOp i) a b) 0 [] (st (fset (fset (fset startSt.r 6 (num X)) 0 (num Y)) 0 (num (opOf i Y X))) 3) m = some ({ st (fset (fset (fset startSt.r 6 (num X)) 0 (num Y)) 0 (num (opOf i Y X))) 3 with done := true }, m) := by kernel_rfl
  rw [vrun_step e0 rfl, vrun_step e1 rfl, vrun_step e2 rfl, vrun_end e3 rfl]
  rfl
theorem vor_low (a x : Int) (ha0 : 0 ≤ a) (ha : a < 72057594037927936) (hx0 : 0 ≤ x) (hx : x ≤ 255) : bitOr .u64 (a * 256) x = a * 256 + x := by
  unfold bitOr
  obtain ⟨a, rfl⟩ := Int.eq_ofNat_of_zero_le ha0
  obtain ⟨x, rfl⟩ := Int.eq_ofNat_of_zero_le hx0
  have e : ((a : Int) * 256) = ((a * 256 : Nat) : Int) := by push_cast; rfl
  rw [e]
  have b1 : (BitVec.ofInt IntKind.u64.bits ((a * 256 : Nat) : Int)).toNat = a * 256 := by
    rw [BitVec.ofInt_natCast, BitVec.toNat_ofNat]
    exact Nat.mod_eq_of_lt (show a * 256 < 2 ^ 64 by omega)
  have b2 : (BitVec.ofInt IntKind.u64.bits ((x : Nat) : Int)).toNat = x := by
    rw [BitVec.ofInt_natCast, BitVec.toNat_ofNat]
    exact Nat.mod_eq_of_lt (show x < 2 ^ 64 by omega)
  rw [BitVec.toNat_or, b1, b2]
  have hor : a * 256 ||| x = a * 256 + x := by
    have h1 : x < 2 ^ 8 := by omega
    rw [show (256 : Nat) = 2 ^ 8 from rfl, ← Nat.shiftLeft_eq, ← Nat.shiftLeft_add_eq_or_of_lt h1]
  rw [hor, u64w (by omega) (by omega)]
  push_cast
  rfl

theorem leN_cons (f : Nat → Int) : ∀ n, leN f (n + 1) = f 0 + 256 * leN (fun j => f (j + 1)) n
  | 0 => by simp [leN]
  | d + 1 => by
    have h := leN_cons f d
    show leN f (d + 1) + f (d + 1) * 256 ^ (d + 1) = _
    rw [h]
    simp only [leN]
    rw [Int.pow_succ, Int.mul_add, ← Int.mul_assoc, Int.mul_comm (256 : Int) (f (d + 1) * 256 ^ d)]
    rw [Int.mul_assoc (f (d + 1))]
    omega

/-! VmLuck. -/
theorem rep_get (x y : Ins) : ∀ (k i : Nat), i < k → (List.replicate k [x, y]).flatten[2 * i]? = some x ∧ (List.replicate k [x, y]).flatten[2 * i + 1]? = some y
  | k + 1, 0, _ => ⟨rfl, rfl⟩
  | k + 1, i + 1, h => by
    have := rep_get x y k i (by omega)
    rw [List.replicate_succ, List.flatten_cons, show 2 * (i + 1) = 2 * i + 1 + 1 from rfl]
    exact this
theorem rep_len (x y : Ins) : ∀ k, (List.replicate k [x, y]).flatten.length = 2 * k
  | 0 => rfl
  | k + 1 => by rw [List.replicate_succ, List.flatten_cons, List.length_append, rep_len x y k]; simp; omega
def luckIns : Ins := ⟨133, 0, 0, 0, 7⟩
def addIns : Ins := ⟨15, 6, 0, 0, 0⟩
def luckCode (k : Nat) : List Ins := [⟨133, 0, 0, 0, 5⟩, ⟨191, 6, 0, 0, 0⟩] ++ (List.replicate k [luckIns, addIns]).flatten ++ [⟨191, 0, 6, 0, 0⟩, ⟨149, 0, 0, 0, 0⟩]
def lr (a b : Int) : Nat → RVal := fun j => if j = 0 then num a else if j ≤ 5 then RVal.zero else if j = 6 then num b else startSt.r j
def ls (a b p l : Int) : VSt := ⟨lr a b, p, false, l⟩
theorem lr_clr (a b v : Int) (p l : Int) : fset (clr5 (ls a b p l) 6).r 0 (num v) = lr v b := by
  funext j
  show (if j = 0 then num v else if 1 ≤ j ∧ j < 6 then RVal.zero else lr a b j) = lr v b j
  unfold lr
  by_cases h0 : j = 0
  · simp [h0]
  · by_cases h5 : j ≤ 5
    · simp [h0, h5, show 1 ≤ j ∧ j < 6 by omega]
    · simp [h0, h5, show ¬ (1 ≤ j ∧ j < 6) by omega]
theorem lr_add (a b v : Int) : fset (lr a b) 6 (num v) = lr a v := by
  funext j
  show (if j = 6 then num v else lr a b j) = lr a v j
  unfold lr
  by_cases h0 : j = 0
  · rw [if_neg (by omega), if_pos h0, if_pos h0]
  · rw [if_neg h0, if_neg h0]
    by_cases h5 : j ≤ 5
    · rw [if_neg (by omega), if_pos h5, if_pos h5]
    · rw [if_neg h5, if_neg h5]
      by_cases h6 : j = 6
      · rw [if_pos h6, if_pos h6]
      · rw [if_neg h6, if_neg h6, if_neg h6]
theorem lr_zero (a b v : Int) : fset (lr a b) 0 (num v) = lr v b := by
  funext j
  show (if j = 0 then num v else lr a b j) = lr v b j
  unfold lr
  by_cases h0 : j = 0
  · rw [if_pos h0, if_pos h0]
  · rw [if_neg h0, if_neg h0, if_neg h0]
theorem luck_call {xs : List Ins} {us : List Int} {c : Int} {m : RMem} {p l : Nat} (a b : Int) (h : xs[p]? = some luckIns) (hp : p < 1000) (hl : l < 1000) :
    vstep xs c us (ls a b p l) m = some (ls (us[l]?.getD 0) b ((p + 1 : Nat) : Int) ((if l < us.length then l + 1 else l : Nat) : Int), m) := by
  rw [step_of (x := luckIns) h (Int.natCast_nonneg p) (by decide) (by decide)]
  have e : vstep1 c us (ls a b p l) m luckIns (partsOf luckIns.op) = some (calledOf (luckyOf (ls a b p l) us).1 (luckyOf (ls a b p l) us).2, m) := by kernel_rfl
  rw [e]
  have hp' : IntKind.i64.wrap ((p : Int) + 1) = ((p + 1 : Nat) : Int) := i64w (by omega) (by omega)
  have hl' : IntKind.i64.wrap ((l : Int) + 1) = ((l + 1 : Nat) : Int) := i64w (by omega) (by omega)
  unfold luckyOf
  have ht : (ls a b p l).luck.toNat = l := Int.toNat_natCast l
  rw [ht]
  cases hu : us[l]? with
  | none =>
    have : ¬ l < us.length := by simpa using hu
    rw [if_neg this]
    simp only [Option.getD_none]
    show some (VSt.mk (fset (clr5 (ls a b p l) 6).r 0 (num 0)) (IntKind.i64.wrap ((p : Int) + 1)) false l, m) = _
    rw [lr_clr, hp']
    rfl
  | some v =>
    have : l < us.length := (List.getElem?_eq_some_iff.1 hu).1
    rw [if_pos this]
    simp only [Option.getD_some]
    show some (VSt.mk (fset (clr5 (ls a b p l) 6).r 0 (num v)) (IntKind.i64.wrap ((p : Int) + 1)) false (IntKind.i64.wrap ((l : Int) + 1)), m) = _
    rw [lr_clr, hp', hl']
    rfl
theorem luck_add {xs : List Ins} {us : List Int} {c : Int} {m : RMem} {p : Nat} (a b l : Int) (h : xs[p]? = some addIns) (hp : p < 1000) :
    vstep xs c us (ls a b p l) m = some (ls a (IntKind.u64.wrap (b + a)) ((p + 1 : Nat) : Int) l, m) := by
  rw [step_of (x := addIns) h (Int.natCast_nonneg p) (by decide) (by decide)]
  have hp' : IntKind.i64.wrap ((p : Int) + 1) = ((p + 1 : Nat) : Int) := i64w (by omega) (by omega)
  have e : vstep1 c us (ls a b p l) m addIns (partsOf addIns.op) = some (VSt.mk (fset (lr a b) 6 (num (IntKind.u64.wrap (b + a)))) (IntKind.i64.wrap ((p : Int) + 1)) false l, m) := by kernel_rfl
  rw [e, lr_add, hp']
  rfl
/-- The sum behind so many rounds. -/
def luckSum (clock : Int) (us : List Int) : Nat → Int
  | 0 => clock
  | i + 1 => IntKind.u64.wrap (luckSum clock us i + us[i]?.getD 0)
theorem luck_rounds {k : Nat} (hk : k < 100) (clock : Int) (us : List Int) (m : RMem) (f : Nat) : ∀ (r i n : Nat), i + r = k → ∀ a, ∃ a', vrun (luckCode k) clock us (f + 2 * r) n (ls a (luckSum clock us i) ((2 + 2 * i : Nat) : Int) ((min i us.length : Nat) : Int)) m =
    vrun (luckCode k) clock us f (n + 2 * r) (ls a' (luckSum clock us k) ((2 + 2 * k : Nat) : Int) ((min k us.length : Nat) : Int)) m
  | 0, i, n, h, a => by
    have : i = k := by omega
    subst this
    exact ⟨a, rfl⟩
  | r + 1, i, n, h, a => by
    have hg := rep_get luckIns addIns k i (by omega)
    have hl := rep_len luckIns addIns k
    have g1 : (luckCode k)[2 + 2 * i]? = some luckIns := by
      unfold luckCode
      rw [List.append_assoc, List.getElem?_append_right (by simp only [List.length_cons, List.length_nil]; omega)]
      simp only [List.length_cons, List.length_nil]
      rw [show 2 + 2 * i - (0 + 1 + 1) = 2 * i by omega, List.getElem?_append_left (by omega)]
      exact hg.1
    have g2 : (luckCode k)[2 + 2 * i + 1]? = some addIns := by
      unfold luckCode
      rw [List.append_assoc, List.getElem?_append_right (by simp only [List.length_cons, List.length_nil]; omega)]
      simp only [List.length_cons, List.length_nil]
      rw [show 2 + 2 * i + 1 - (0 + 1 + 1) = 2 * i + 1 by omega, List.getElem?_append_left (by omega)]
      exact hg.2
    have e1 := luck_call (us := us) (c := clock) (m := m) (l := min i us.length) a (luckSum clock us i) g1 (by omega) (by omega)
    have hv : us[min i us.length]?.getD 0 = us[i]?.getD 0 := by
      by_cases hlt : i < us.length
      · rw [Nat.min_eq_left (by omega)]
      · rw [Nat.min_eq_right (by omega)]
        have h1 : us[us.length]? = none := by simp
        have h2 : us[i]? = none := by simp; omega
        rw [h1, h2]
    have hm : (if min i us.length < us.length then min i us.length + 1 else min i us.length) = min (i + 1) us.length := by split <;> omega
    rw [hv, hm] at e1
    have e2 := luck_add (us := us) (c := clock) (m := m) (us[i]?.getD 0) (luckSum clock us i) ((min (i + 1) us.length : Nat) : Int) g2 (by omega)
    obtain ⟨a', h'⟩ := luck_rounds hk clock us m f r (i + 1) (n + 1 + 1) (by omega) (us[i]?.getD 0)
    refine ⟨a', ?_⟩
    rw [show f + 2 * (r + 1) = f + 2 * r + 1 + 1 by omega, vrun_step e1 rfl, vrun_step e2 rfl]
    rw [show 2 + 2 * i + 1 + 1 = 2 + 2 * (i + 1) by omega]
    rw [show IntKind.u64.wrap (luckSum clock us i + us[i]?.getD 0) = luckSum clock us (i + 1) from rfl, h']
    congr 1; omega
theorem luck_a (k : Nat) (hk : k < 8) (clock : Int) (us : List Int) (maps : Value) : runOf (luckCode k) (fun _ => 0) clock us 99 maps = (luckSum clock us k, ((3 + 2 * k : Nat) : Int), ((4 + 2 * k : Nat) : Int), 0) := by
  unfold runOf
  generalize RMem.fresh (fun _ => 0) maps = m
  have hf : fuelOf 99 = (95 - 2 * k) + 1 + 1 + 2 * k + 1 + 1 := by show 99 = _; omega
  rw [hf]
  have e0 : vstep (luckCode k) clock us startSt m = some (VSt.mk (fset (clr5 startSt 6).r 0 (num clock)) 1 false 0, m) := by
    rw [step_of (x := ⟨133, 0, 0, 0, 5⟩) rfl (by decide) (by decide) (by decide)]
    kernel_rfl
  have e1 : vstep (luckCode k) clock us (VSt.mk (fset (clr5 startSt 6).r 0 (num clock)) 1 false 0) m = some (VSt.mk (fset (fset (clr5 startSt 6).r 0 (num clock)) 6 (num clock)) 2 false 0, m) := by
    rw [step_of (x := ⟨191, 6, 0, 0, 0⟩) rfl (show (0 : Int) ≤ 1 by decide) (by decide) (by decide)]
    kernel_rfl
  have hr : fset (fset (clr5 startSt 6).r 0 (num clock)) 6 (num clock) = lr clock clock := by
    funext j
    show (if j = 6 then num clock else if j = 0 then num clock else if 1 ≤ j ∧ j < 6 then RVal.zero else startSt.r j) = lr clock clock j
    unfold lr
    by_cases h6 : j = 6
    · subst h6; rfl
    · rw [if_neg h6]
      by_cases h0 : j = 0
      · rw [if_pos h0, if_pos h0]
      · rw [if_neg h0, if_neg h0]
        by_cases h5 : j ≤ 5
        · rw [if_pos (by omega), if_pos h5]
        · rw [if_neg (by omega), if_neg h5, if_neg h6]
  rw [hr] at e1
  rw [vrun_step e0 rfl, vrun_step e1 rfl]
  obtain ⟨a', h'⟩ := luck_rounds (k := k) (by omega) clock us m (95 - 2 * k + 1 + 1) k 0 (0 + 1 + 1) (by omega) clock
  have hz : (VSt.mk (lr clock clock) 2 false 0) = ls clock (luckSum clock us 0) ((2 + 2 * 0 : Nat) : Int) ((min 0 us.length : Nat) : Int) := by
    rw [Nat.zero_min]; rfl
  rw [hz, h']
  have hl := rep_len luckIns addIns k
  have g1 : (luckCode k)[2 + 2 * k]? = some ⟨191, 0, 6, 0, 0⟩ := by
    unfold luckCode
    rw [List.getElem?_append_right (by simp [hl]; omega)]
    simp only [List.length_append, List.length_cons, List.length_nil, hl]
    rw [show 2 + 2 * k - (0 + 1 + 1 + 2 * k) = 0 by omega]
    rfl
  have g2 : (luckCode k)[2 + 2 * k + 1]? = some ⟨149, 0, 0, 0, 0⟩ := by
    unfold luckCode
    rw [List.getElem?_append_right (by simp [hl]; omega)]
    simp only [List.length_append, List.length_cons, List.length_nil, hl]
    rw [show 2 + 2 * k + 1 - (0 + 1 + 1 + 2 * k) = 1 by omega]
    rfl
  generalize luckSum clock us k = z
  generalize ((min k us.length : Nat) : Int) = lk
  have hp1 : IntKind.i64.wrap (((2 + 2 * k : Nat) : Int) + 1) = ((2 + 2 * k + 1 : Nat) : Int) := i64w (by omega) (by omega)
  have e2 : vstep (luckCode k) clock us (ls a' z ((2 + 2 * k : Nat) : Int) lk) m = some (ls z z ((2 + 2 * k + 1 : Nat) : Int) lk, m) := by
    rw [step_of (x := ⟨191, 0, 6, 0, 0⟩) g1 (Int.natCast_nonneg _) (by decide) (by decide)]
    have e : vstep1 clock us (ls a' z ((2 + 2 * k : Nat) : Int) lk) m ⟨191, 0, 6, 0, 0⟩ (partsOf 191) = some (VSt.mk (fset (lr a' z) 0 (num z)) (IntKind.i64.wrap (((2 + 2 * k : Nat) : Int) + 1)) false lk, m) := by kernel_rfl
    show vstep1 clock us (ls a' z ((2 + 2 * k : Nat) : Int) lk) m ⟨191, 0, 6, 0, 0⟩ (partsOf 191) = _
    rw [e, lr_zero, hp1]; rfl
  have e3 : vstep (luckCode k) clock us (ls z z ((2 + 2 * k + 1 : Nat) : Int) lk) m = some ({ ls z z ((2 + 2 * k + 1 : Nat) : Int) lk with done := true }, m) := by
    rw [step_of (x := ⟨149, 0, 0, 0, 0⟩) g2 (Int.natCast_nonneg _) (by decide) (by decide)]
    kernel_rfl
  rw [vrun_step e2 rfl, vrun_end e3 rfl]
  have q1 : ((2 + 2 * k + 1 : Nat) : Int) = ((3 + 2 * k : Nat) : Int) := by omega
  refine Prod.ext rfl (Prod.ext q1 (Prod.ext ?_ rfl))
  show ((0 + 1 + 1 + 2 * k + 1 : Nat) : Int) + 1 = ((4 + 2 * k : Nat) : Int)
  omega

/-! VmFaults. -/
def badIns (i : Nat) : Ins :=
  if i = 0 then ⟨149, 0, 0, 0, 0⟩ else if i = 1 then ⟨121, 0, 6, 0, 0⟩ else if i = 2 then ⟨255, 0, 0, 0, 0⟩ else if i = 3 then ⟨183, 10, 0, 0, 0⟩ else if i = 4 then ⟨133, 0, 0, 0, 1⟩ else if i = 5 then ⟨15, 6, 9, 0, 0⟩
  else if i = 6 then ⟨123, 1, 6, 0, 0⟩ else if i = 7 then ⟨121, 0, 10, -8, 0⟩ else if i = 8 then ⟨0, 0, 0, 0, 0⟩ else if i = 9 then ⟨24, 6, 1, 0, 0⟩ else if i = 10 then ⟨133, 0, 0, 0, 6⟩ else ⟨191, 11, 6, 0, 0⟩
def movIns : Ins := ⟨183, 6, 0, 0, 0⟩
def faultCode (k i : Nat) : List Ins := List.replicate k movIns ++ [badIns i, Ins.zero]
theorem fault_rounds {k i : Nat} (hk : k < 100) (m : RMem) (f : Nat) : ∀ (r j n : Nat), j + r = k → ∀ v, v = RVal.zero ∨ v = num 0 → ∃ v', (v' = RVal.zero ∨ v' = num 0) ∧
    vrun (faultCode k i) 0 [] (f + r) n (st (fset startSt.r 6 v) (j : Int)) m = vrun (faultCode k i) 0 [] f (n + r) (st (fset startSt.r 6 v') (k : Int)) m
  | 0, j, n, h, v, hv => by
    have : j = k := by omega
    subst this
    exact ⟨v, hv, rfl⟩
  | r + 1, j, n, h, v, hv => by
    have g : (faultCode k i)[j]? = some movIns := by
      unfold faultCode
      rw [List.getElem?_append_left (by simp; omega), List.getElem?_replicate, if_pos (by omega)]
    have e : vstep (faultCode k i) 0 [] (st (fset startSt.r 6 v) (j : Int)) m = some (st (fset startSt.r 6 (num 0)) ((j + 1 : Nat) : Int), m) := by
      rw [step_of (x := movIns) g (Int.natCast_nonneg j) (by decide) (by decide)]
      have e : vstep1 0 [] (st (fset startSt.r 6 v) (j : Int)) m movIns (partsOf movIns.op) = some (st (fset (fset startSt.r 6 v) 6 (num 0)) (IntKind.i64.wrap ((j : Int) + 1)), m) := by
        rcases hv with rfl | rfl <;> kernel_rfl
      rw [e, fset_fset, i64w (by omega) (by omega)]
      rfl
    obtain ⟨v', hv', h'⟩ := fault_rounds hk m f r (j + 1) (n + 1) (by omega) (num 0) (.inr rfl)
    refine ⟨v', hv', ?_⟩
    rw [show f + (r + 1) = f + r + 1 from rfl, vrun_step e rfl, h']
    congr 1; omega
theorem fault_a (k i : Nat) (hk : k < 50) (hi : i < 12) (maps : Value) : runOf (faultCode k i) (fun _ => 0) 0 [] 100 maps = (0, (k : Int), (k : Int), 14) := by
  unfold runOf
  have hf : fuelOf 100 = (99 - k) + 1 + k := by show 100 = _; omega
  have hs : startSt = st (fset startSt.r 6 RVal.zero) ((0 : Nat) : Int) := by
    have : fset startSt.r 6 RVal.zero = startSt.r := by
      funext j
      unfold fset
      split
      · rename_i h; subst h; rfl
      · rfl
    rw [this]; rfl
  rw [hf]
  conv => lhs; rw [hs]
  obtain ⟨v', hv', h'⟩ := fault_rounds (k := k) (i := i) (by omega) (RMem.fresh (fun _ => 0) maps) (99 - k + 1) k 0 0 (by omega) RVal.zero (.inl rfl)
  rw [h']
  have g : (faultCode k i)[k]? = some (badIns i) := by
    unfold faultCode
    rw [List.getElem?_append_right (by simp)]
    simp
  have e : vstep (faultCode k i) 0 [] (st (fset startSt.r 6 v') (k : Int)) (RMem.fresh (fun _ => 0) maps) = none := by
    unfold vstep
    have hpos : (st (fset startSt.r 6 v') (k : Int)).pos.toNat = k := Int.toNat_natCast k
    rw [if_neg (show ¬ (st (fset startSt.r 6 v') (k : Int)).pos < 0 from fun h => by have h : (k : Int) < 0 := h; omega), hpos, g]
    simp only
    have : i = 0 ∨ i = 1 ∨ i = 2 ∨ i = 3 ∨ i = 4 ∨ i = 5 ∨ i = 6 ∨ i = 7 ∨ i = 8 ∨ i = 9 ∨ i = 10 ∨ i = 11 := by omega
    rcases hv' with rfl | rfl <;> rcases this with rfl | rfl | rfl | rfl | rfl | rfl | rfl | rfl | rfl | rfl | rfl | rfl <;> (show _ = _) <;> kernel_rfl
  rw [vrun_stop e]
  refine Prod.ext rfl (Prod.ext rfl (Prod.ext ?_ rfl))
  simp
end Go.Proofs.Ytepbpapbkonhnaa
