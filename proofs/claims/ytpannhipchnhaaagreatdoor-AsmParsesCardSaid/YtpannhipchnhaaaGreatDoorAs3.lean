/- Layer 23: a line's words, told. -/
import Derived.Test.YtpannhipchnhaaaGreatDoorAs2
set_option linter.unusedSimpArgs false
set_option linter.unusedVariables false
set_option maxRecDepth 8000
namespace Go.Proofs.YtpannhipchnhaaaGreatDoor
open Go.Eng

theorem parts_bounds {op : Nat} (h : op < 256) : ((partsOf op).kind = 1 → (partsOf op).op < 13) ∧ ((partsOf op).kind = 2 → (partsOf op).op < 14) ∧ 0 ≤ (partsOf op).size ∧ (partsOf op).size ≤ 8 := by
  have : ∀ op : Fin 256, ((partsOf op.val).kind = 1 → (partsOf op.val).op < 13) ∧ ((partsOf op.val).kind = 2 → (partsOf op.val).op < 14) ∧ 0 ≤ (partsOf op.val).size ∧ (partsOf op.val).size ≤ 8 := by decide +kernel
  exact this ⟨op, h⟩
def strArr (l : List Str) : Array Value := (l.map fun s => Value.string (us s)).toArray
theorem size_cat (a : Str) (n : Int) (h0 : 0 ≤ n) (h1 : n ≤ 8) (ha : a.length ≤ 10) : strBin .add (us a) (us (Lib.itoa n)) = some (.string (us (a ++ Lib.itoa n))) :=
  us_cat _ _ (by have := itoa_len (n := n) (by omega) (by omega); omega)
theorem short_cat (a : Str) (p : Parts) (ha : a.length ≤ 10) : strBin .add (us a) (us (shortW p)) = some (.string (us (a ++ shortW p))) :=
  us_cat _ _ (by unfold shortW; split <;> simp <;> omega)
theorem nil_us : (⟨#[]⟩ : ByteArray) = us [] := rfl
theorem own_pt {w0 B : World} {l : Own} (hB : HeapLe w0 B) {b o : Nat} {v : Value} (h : wcell w0 b o = some v) : wcell (ownW B l) b o = some v := own_ext hB h
theorem strArr_get (l : List Str) : strArr l = (l.map fun s => Value.string (us s)).toArray := rfl

theorem bitOr_u64 (a b : Nat) (ha : a < 18446744073709551616) (hb : b < 18446744073709551616) : bitOr .u64 (a : Int) (b : Int) = ((a ||| b : Nat) : Int) := by
  unfold bitOr
  have h := Nat.or_lt_two_pow (x := a) (y := b) (n := 64) (by omega) (by omega)
  show IntKind.u64.wrap ((BitVec.ofInt 64 (a : Int) ||| BitVec.ofInt 64 (b : Int)).toNat : Int) = _
  rw [bv_nat, bv_nat, BitVec.toNat_or, BitVec.toNat_ofNat, BitVec.toNat_ofNat, Nat.mod_eq_of_lt (by omega), Nat.mod_eq_of_lt (by omega), u64w (by omega) (by omega)]
set_option maxHeartbeats 8000000 in
theorem line_ret {x y : Ins} (hx : x.wf) (hy : y.wf) (w : World) (hg : GlobA w) (ha : kindOf x = 8 → x.imm = 0 ∨ x.imm = 64 ∨ x.imm = 80 ∨ x.imm = 160) :
    Ret Tryz.prog 25 [x.val, y.val] w fun v w' => Kept none' w w' ∧ ∃ b, v = .slice (some ⟨b, 0, none⟩) (lineW x y).length (lineW x y).length ∧ w.heap.size ≤ b ∧ w'.heap[b]? = some (.cells (strArr (lineW x y)) 9 (0, 0)) := by
  refine ret_of_row Tryz.func25 rfl ok_asm_line (by simp) (by
    intro x hx
    simp only [strArr, List.mem_map] at hx
    obtain ⟨s, _, rfl⟩ := hx
    simp) fun B hB => ?_
  have t1 := Of_T w hx.op
  obtain ⟨hb1, hb2, hb3, hb4⟩ := parts_bounds hx.op
  have tz := itoa_T hg (n := (partsOf x.op).size) (by omega) (by omega)
  have ts := ashort_T hg (partsOf x.op)
  have trd := areg_T hg hx.dst
  have trs := areg_T hg hx.src
  have to := aoff_T hg hx.off
  have t2 := asec_T hg hx (partsOf x.op)
  have hk : kindOf x = (partsOf x.op).kind := rfl
  rw [hk] at ha
  unfold lineW lineP
  generalize partsOf x.op = p at *
  have h0 : p.size ≥ 0 := hb3
  simp at t1 ts t2
  have hi := hx.imm
  have ei : IntKind.i64.wrap x.imm = x.imm := i64w (by omega) (by omega)
  have ti := itoa_T hg (n := x.imm) (by omega) (by omega)
  have c1 := size_cat [108, 100] p.size hb3 hb4 (by simp)
  have c2 := size_cat [115, 116] p.size hb3 hb4 (by simp)
  by_cases h1 : p.kind = 1
  · have hop := hb1 h1
    obtain ⟨a, ha'⟩ : ∃ a, aluW[p.op]? = some a := ⟨_, List.getElem?_eq_getElem (by simpa [aluW] using hop)⟩
    have hcell := fun l => own_pt (l := l) hB (hg.alus _ _ ha')
    have hal : a.length ≤ 10 := by
      have : ∀ i : Fin 13, (aluW.getD i.val []).length ≤ 10 := by decide
      have h := this ⟨p.op, hop⟩
      simpa [List.getD_eq_getElem?_getD, ha'] using h
    have hgd : aluW.getD p.op [] = a := by rw [List.getD_eq_getElem?_getD, ha']; rfl
    have cc := short_cat a p hal
    have hop' : (p.op : Int) < 13 := by omega
    have e13 : aluW.length = 13 := rfl
    simp only [h1, if_true, hgd]
    by_cases h8 : p.op = 8
    · have ha8 : aluW[8]? = some a := by rw [← h8]; exact ha'
      have hcell8 := fun l => own_pt (l := l) hB (hg.alus _ _ ha8)
      simp only [h8, if_true]
      simp [c_asm_line, C_cond_eq, t1, tz, h1, h8, ci_eq, hcell8, ts, trd, cc, mk_us, nil_us]
      rfl
    · simp only [h8, if_false]
      simp [c_asm_line, C_cond_eq, t1, tz, h1, h8, ci_eq, hcell, hop, hop', ts, trd, t2, cc, mk_us, nil_us]
      rfl
  by_cases h2 : p.kind = 2
  · have hop := hb2 h2
    obtain ⟨a, ha'⟩ : ∃ a, jumpW[p.op]? = some a := ⟨_, List.getElem?_eq_getElem (by simpa [jumpW] using hop)⟩
    have hcell := fun l => own_pt (l := l) hB (hg.jumps _ _ ha')
    have hal : a.length ≤ 10 := by
      have : ∀ i : Fin 14, (jumpW.getD i.val []).length ≤ 10 := by decide
      have h := this ⟨p.op, hop⟩
      simpa [List.getD_eq_getElem?_getD, ha'] using h
    have hgd : jumpW.getD p.op [] = a := by rw [List.getD_eq_getElem?_getD, ha']; rfl
    have cc := short_cat a p hal
    have hop' : (p.op : Int) < 14 := by omega
    simp only [h1, h2, if_true, if_false, hgd]
    simp [c_asm_line, C_cond_eq, t1, tz, h1, h2, ci_eq, hcell, hop, hop', ts, trd, t2, to, cc, mk_us, nil_us]
    rfl
  by_cases h3 : p.kind = 3
  · simp only [h1, h2, h3, if_true, if_false]
    simp [c_asm_line, C_cond_eq, t1, tz, h1, h2, h3, to, mk_us, nil_us]
    rfl
  by_cases h4 : p.kind = 4
  · simp only [h1, h2, h3, h4, if_true, if_false]
    simp [c_asm_line, C_cond_eq, t1, tz, h1, h2, h3, h4, ei, ti, mk_us, nil_us]
    rfl
  by_cases h5 : p.kind = 5
  · simp only [h1, h2, h3, h4, h5, if_true, if_false]
    simp [c_asm_line, C_cond_eq, t1, tz, h1, h2, h3, h4, h5, mk_us, nil_us]
    rfl
  by_cases h6 : p.kind = 6
  · simp only [h1, h2, h3, h4, h5, h6, if_true, if_false]
    simp [c_asm_line, C_cond_eq, t1, tz, h1, h2, h3, h4, h5, h6, trd, trs, to, c1, mk_us, nil_us, -List.cons_append, -List.nil_append]
    rfl
  by_cases h7 : p.kind = 7
  · simp only [h1, h2, h3, h4, h5, h6, h7, if_true, if_false]
    simp [c_asm_line, C_cond_eq, t1, tz, h1, h2, h3, h4, h5, h6, h7, trd, t2, to, c2, mk_us, nil_us, -List.cons_append, -List.nil_append]
    rfl
  by_cases h8 : p.kind = 8
  · have hat := ha h8
    obtain ⟨ha1, ha2⟩ := atomIx_at hat
    obtain ⟨a, ha'⟩ : ∃ a, atomW[atomIx x.imm]? = some a := ⟨_, List.getElem?_eq_getElem (by simpa [atomW] using ha2)⟩
    have hcell := fun l => own_pt (l := l) hB (hg.atomics _ _ ha')
    have hal : a.length ≤ 10 := by
      have : ∀ i : Fin 4, (atomW.getD i.val []).length ≤ 10 := by decide
      have h := this ⟨atomIx x.imm, ha2⟩
      simpa [List.getD_eq_getElem?_getD, ha'] using h
    have hgd : atomW.getD (atomIx x.imm) [] = a := by rw [List.getD_eq_getElem?_getD, ha']; rfl
    have cc := size_cat a p.size hb3 hb4 hal
    have tat := atom_T hg hat
    have ha2' : (atomIx x.imm : Int) < 4 := by omega
    simp only [h1, h2, h3, h4, h5, h6, h7, h8, if_true, if_false, hgd]
    simp [c_asm_line, C_cond_eq, t1, tz, h1, h2, h3, h4, h5, h6, h7, h8, trd, trs, to, cc, tat, hcell, ha2, ha2', mk_us, nil_us]
    rfl
  by_cases h9 : x.src = 1
  · simp only [h1, h2, h3, h4, h5, h6, h7, h8, h9, if_true, if_false]
    simp [c_asm_line, C_cond_eq, t1, tz, h1, h2, h3, h4, h5, h6, h7, h8, h9, trd, ei, ti, mk_us, nil_us]
    rfl
  · have hyi := hy.imm
    obtain ⟨q, hq⟩ : ∃ q : Nat, x.imm % 4294967296 = q := ⟨(x.imm % 4294967296).toNat, by omega⟩
    obtain ⟨r, hr⟩ : ∃ r : Nat, y.imm % 4294967296 = r := ⟨(y.imm % 4294967296).toNat, by omega⟩
    have w1 : IntKind.u32.wrap x.imm = (q : Int) := by rw [IntKind.wrap_u32]; omega
    have w2 : IntKind.u32.wrap y.imm = (r : Int) := by rw [IntKind.wrap_u32]; omega
    have w3 : IntKind.u64.wrap (q : Int) = (q : Int) := u64w (by omega) (by omega)
    have w4 : IntKind.u64.wrap (r : Int) = (r : Int) := u64w (by omega) (by omega)
    have hx2 : q < 2 ^ 32 := by omega
    have hy2 : r < 2 ^ 32 := by omega
    have hwd : wideN x.imm y.imm = q + r * 4294967296 := by unfold wideN; rw [hq, hr, Int.toNat_natCast, Int.toNat_natCast]
    have hmin : min 32 (IntKind.bits .u64) = 32 := rfl
    have ho : bitOr .u64 (q : Int) (IntKind.u64.wrap ((r : Int) * 4294967296)) = (wideN x.imm y.imm : Int) := by
      rw [hwd, u64w (by omega) (by omega)]
      have : ((r : Int) * 4294967296) = ((r * 2 ^ 32 : Nat) : Int) := by simp
      rw [this, bitOr_u64 _ _ (by omega) (by omega)]
      congr 1
      rw [Nat.or_comm, Nat.mul_comm r, ← Nat.two_pow_add_eq_or_of_lt hx2]
      omega
    have tf := format_T hg (u := wideN x.imm y.imm) (by unfold wideN; omega)
    simp only [h1, h2, h3, h4, h5, h6, h7, h8, h9, if_true, if_false]
    simp [c_asm_line, C_cond_eq, t1, tz, h1, h2, h3, h4, h5, h6, h7, h8, h9, ci_eq, trd, w1, w2, w3, w4, hmin, ho, tf, mk_us, nil_us]
    rfl
end Go.Proofs.YtpannhipchnhaaaGreatDoor
namespace Go.Proofs.YtpannhipchnhaaaGreatDoor
open Go.Eng

/-! What a program's form says. -/
theorem firstBad_none (f : Nat → Ins → Bool) : ∀ (l : List Ins) (i : Nat), firstBad f i l = none ↔ ∀ (j : Nat) (x : Ins), l[j]? = some x → f (i + j) x = true
  | [], i => by simp [firstBad]
  | x :: r, i => by
    simp only [firstBad]
    cases h : f i x with
    | false =>
      simp only [Bool.false_eq_true, if_false]
      constructor
      · intro h'; cases h'
      · intro h'
        have := h' 0 x rfl
        rw [Nat.add_zero, h] at this
        cases this
    | true =>
      simp only [if_true]
      rw [firstBad_none f r (i + 1)]
      constructor
      · intro h' j y hy
        cases j with
        | zero => simp at hy; subst hy; rw [Nat.add_zero]; exact h
        | succ j => rw [show i + (j + 1) = i + 1 + j from by omega]; exact h' j y (by simpa using hy)
      · intro h' j y hy
        rw [show i + 1 + j = i + (j + 1) from by omega]
        exact h' (j + 1) y (by simpa using hy)
theorem checkOf_ok (xs : List Ins) : (checkOf xs).2 = 0 ↔ 0 < xs.length ∧ xs.length ≤ 256 ∧ (∀ (j : Nat) (x : Ins), xs[j]? = some x → oneOk xs j x = true) ∧ (∀ (j : Nat) (x : Ins), xs[j]? = some x → landsOk xs j x = true) ∧ lastOk xs = true := by
  unfold checkOf
  have f1 := firstBad_none (oneOk xs) xs 0
  have f2 := firstBad_none (landsOk xs) xs 0
  simp only [Nat.zero_add] at f1 f2
  rw [← f1, ← f2]
  by_cases h1 : 256 < xs.length
  · rw [if_pos h1]; simp; omega
  rw [if_neg h1]
  by_cases h2 : xs.length = 0
  · rw [if_pos h2]; simp; omega
  rw [if_neg h2]
  cases h3 : firstBad (oneOk xs) 0 xs with
  | some i => simp
  | none =>
    cases h4 : firstBad (landsOk xs) 0 xs with
    | some i => simp
    | none =>
      cases h5 : lastOk xs <;> simp <;> omega
theorem shapeOk_iff (xs : List Ins) : shapeOk xs = true ↔ 0 < xs.length ∧ xs.length ≤ 256 ∧ ∀ (j : Nat) (x : Ins), xs[j]? = some x → shapeAt xs j x = true := by
  unfold shapeOk
  have f1 := firstBad_none (shapeAt xs) xs 0
  simp only [Nat.zero_add] at f1
  rw [← f1]
  by_cases h : xs.length = 0 ∨ 256 < xs.length
  · rw [if_pos h]; simp; omega
  · rw [if_neg h, Option.isNone_iff_eq_none]
    exact ⟨fun h' => ⟨by omega, by omega, h'⟩, fun h' => h'.2.2⟩
theorem kind_still (x : Ins) : kindOf (still x) = kindOf x := by unfold still; split <;> rfl
theorem kind_exit : kindOf exitI = 5 := by decide +kernel
theorem alone_one {x : Ins} {r : List Ins} (h : aloneOk (x :: r) = true) : oneOk (ownOf (x :: r) ++ [exitI]) 0 (still x) = true := by
  have h := (checkOf_ok _).1 (of_decide_eq_true h)
  exact h.2.2.1 0 _ rfl
theorem one_kind {xs : List Ins} {i : Nat} {x : Ins} (h : oneOk xs i x = true) : kindOf x ≠ 0 := by
  intro h0
  unfold oneOk at h
  have h0 : (partsOf x.op).kind = 0 := h0
  rw [if_pos h0] at h
  cases h
theorem alone_atom {x : Ins} {r : List Ins} (h : aloneOk (x :: r) = true) (hk : kindOf x = 8) : x.imm = 0 ∨ x.imm = 64 ∨ x.imm = 80 ∨ x.imm = 160 := by
  have h := alone_one h
  have hs : still x = x := by unfold still; rw [if_neg (by omega)]
  rw [hs] at h
  have hk : (partsOf x.op).kind = 8 := hk
  unfold oneOk at h
  simp only [hk] at h
  simp at h
  simpa [atomOk] using h.2
theorem alone_wide {x : Ins} {r : List Ins} (h : aloneOk (x :: r) = true) (hk : kindOf x = 9) : ∃ y r', r = y :: r' ∧ kindOf y = 10 ∧ x.src ≤ 1 ∧ (x.src = 0 ∨ 0 ≤ x.imm ∧ x.imm < 4 ∧ y.imm = 0) := by
  have h := alone_one h
  have hs : still x = x := by unfold still; rw [if_neg (by omega)]
  have ho : ownOf (x :: r) = x :: r.take 1 := by
    show still x :: _ = _
    rw [hs, if_pos hk]
  rw [hs, ho] at h
  have hk' : (partsOf x.op).kind = 9 := hk
  unfold oneOk at h
  simp only [hk'] at h
  simp at h
  have h := h.2.2
  cases r with
  | nil =>
    simp [wideOk, kind_exit] at h
  | cons y r' =>
    simp [wideOk] at h
    obtain ⟨⟨h1, h2⟩, h3⟩ := h
    exact ⟨y, r', rfl, h1, h2, by omega⟩

/-! Texts. -/
def lineT (x y : Ins) : Str := joinS (lineW x y) ++ [10]
def nextOf (x : Ins) (r : List Ins) : Ins := if kindOf x = 9 then r.headD Ins.zero else Ins.zero
def textL : List Ins → Str
  | [] => []
  | x :: r => (if kindOf x = 10 then [] else lineT x (nextOf x r)) ++ textL r
theorem getD_le {l : List Str} {n : Nat} (h : ∀ s ∈ l, s.length ≤ n) (i : Nat) : (l.getD i []).length ≤ n := by
  rw [List.getD_eq_getElem?_getD]
  cases hi : l[i]? with
  | none => simp
  | some s => exact h s (List.mem_of_getElem? hi)
theorem word_len {x y : Ins} (hx : x.wf) : (lineW x y).length ≤ 4 ∧ 1 ≤ (lineW x y).length ∧ ∀ s ∈ lineW x y, s.length ≤ 30 := by
  have hd := dec_len (n := x.dst) (by have := hx.dst; omega)
  have hs := dec_len (n := x.src) (by have := hx.src; omega)
  have hi := itoa_len (n := x.imm) (by have := hx.imm; omega) (by have := hx.imm; omega)
  have ho := itoa_len (n := x.off) (by have := hx.off; omega) (by have := hx.off; omega)
  have hz := itoa_len (n := (partsOf x.op).size) (by have := (parts_bounds hx.op).2.2; omega) (by have := (parts_bounds hx.op).2.2; omega)
  have hw := dec_len (n := wideN x.imm y.imm) (by unfold wideN; omega)
  have ha := getD_le (l := aluW) (n := 4) (by decide) (partsOf x.op).op
  have hj := getD_le (l := jumpW) (n := 4) (by decide) (partsOf x.op).op
  have hm := getD_le (l := atomW) (n := 4) (by decide) (atomIx x.imm)
  have hrd : (regW x.dst).length ≤ 30 := by unfold regW; simp; omega
  have hrs : (regW x.src).length ≤ 30 := by unfold regW; simp; omega
  have hof : (offW x.off).length ≤ 30 := by unfold offW; split <;> (try simp) <;> omega
  have hsc : (secW x (partsOf x.op)).length ≤ 30 := by unfold secW; split <;> omega
  have hsh : (shortW (partsOf x.op)).length ≤ 2 := by unfold shortW; split <;> simp
  unfold lineW lineP
  generalize aluW.getD (partsOf x.op).op [] = A at *
  generalize jumpW.getD (partsOf x.op).op [] = J at *
  generalize atomW.getD (atomIx x.imm) [] = M at *
  generalize partsOf x.op = p at *
  repeat' split
  all_goals
    refine ⟨by simp, by simp, fun s hs' => ?_⟩
    simp only [List.mem_cons, List.not_mem_nil, or_false] at hs'
    rcases hs' with rfl | rfl | rfl | rfl | rfl <;> first | assumption | (simp only [List.length_append, List.length_cons, List.length_nil]; omega) | omega
theorem joinS_len : ∀ (l : List Str) (n : Nat), (∀ s ∈ l, s.length ≤ n) → (joinS l).length ≤ l.length * (n + 1)
  | [], n, _ => by simp [joinS]
  | x :: r, n, h => by
    have hx := h x (by simp)
    have : ∀ r : List Str, (∀ s ∈ r, s.length ≤ n) → ((r.map (32 :: ·)).flatten).length ≤ r.length * (n + 1) := by
      intro r
      induction r with
      | nil => intro _; simp
      | cons a t ih =>
        intro h
        have h1 := h a (by simp)
        have h2 := ih fun s hs => h s (by simp [hs])
        simp only [List.map_cons, List.flatten_cons, List.length_append, List.length_cons, Nat.add_mul, Nat.one_mul]
        omega
    have := this r fun s hs => h s (by simp [hs])
    simp only [joinS, List.length_append, List.length_cons, Nat.add_mul, Nat.one_mul]
    omega
theorem lineT_len {x y : Ins} (hx : x.wf) : (joinS (lineW x y)).length ≤ 124 ∧ (lineT x y).length ≤ 125 := by
  obtain ⟨h1, _, h2⟩ := word_len (y := y) hx
  have := joinS_len _ 30 h2
  have : (lineW x y).length * (30 + 1) ≤ 4 * 31 := Nat.mul_le_mul_right _ h1
  unfold lineT
  simp
  omega
theorem textL_len : ∀ (xs : List Ins), AllWf xs → (textL xs).length ≤ xs.length * 125
  | [], _ => by simp [textL]
  | x :: r, h => by
    have h1 := textL_len r fun y hy => h y (by simp [hy])
    have h2 := (lineT_len (y := nextOf x r) (h x (by simp))).2
    simp only [textL, List.length_append, List.length_cons, Nat.add_mul, Nat.one_mul]
    split <;> simp <;> omega

/-! A builder. -/
abbrev WB (w : World) (B b : Nat) (s : Str) : Prop := Lib.IsBuilder 56 5 B b (Lib.byteCells s) w
theorem wb_calm {w w' : World} {B b : Nat} {s : Str} (h : WB w B b s) (hk : Kept none' w w') : WB w' B b s := by
  have go : ∀ {p : Value}, Lib.BuilderAt 56 5 B b p (Lib.byteCells s) w → Lib.BuilderAt 56 5 B b p (Lib.byteCells s) w' := by
    rintro p ⟨hB, v, hb, hown, hne⟩
    refine ⟨hB, v, hk.has hb (fun h => h), ⟨hown.1, ?_⟩, hne⟩
    rcases hown.2 with h2 | ⟨g, cap, cur, rfl, hg, h2, h3⟩
    · exact .inl h2
    · exact .inr ⟨g, cap, cur, rfl, hg, hk.has h2 (fun h => h), h3⟩
  exact h.elim (fun h => .inl (go h)) fun h => .inr (go h)
theorem below_kept {B : Nat} {w w' : World} (h : RowKit.Below B w w') : Kept (fun j => B ≤ j) w w' := ⟨h.os, h.tape, h.output, h.size, fun k _ hn => h.block k (by omega)⟩
theorem byteCells_append (a b : Str) : Lib.byteCells (a ++ b) = Lib.byteCells a ++ Lib.byteCells b := by simp [Lib.byteCells]
theorem byteCells_len (a : Str) : (Lib.byteCells a).length = a.length := by simp [Lib.byteCells]
theorem write_ret {w : World} {B b : Nat} {s m : Str} (h : WB w B b s) (hl : s.length + m.length ≤ 1000000) (hB : B ≤ w.heap.size) :
    Ret Tryz.prog 23 [.pointer (some ⟨b, 0, none⟩), .string (us m)] w fun v w' => WB w' B b (s ++ m) ∧ Kept (fun j => B ≤ j) w w' :=
  ret_of_calls ((Tryz.Builder_WriteString B b (Lib.byteCells s) (us m) w h (by rw [byteCells_len, us_size]; omega) hB).mono fun e w' he => by
    obtain ⟨rfl, h1, h2⟩ := he
    refine ⟨_, rfl, .inr ?_, below_kept h2⟩
    rw [byteCells_append]
    exact h1)
theorem str_ret {w : World} {B b : Nat} {s : Str} (h : WB w B b s) (hB : B ≤ w.heap.size) :
    Ret Tryz.prog 26 [.pointer (some ⟨b, 0, none⟩)] w fun v w' => v = .string (us s) ∧ Kept (fun j => B ≤ j) w w' :=
  ret_of_calls ((Tryz.Builder_String B b s w h hB).mono fun e w' he => by
    obtain ⟨rfl, h2⟩ := he
    exact ⟨_, rfl, rfl, below_kept h2⟩)
end Go.Proofs.YtpannhipchnhaaaGreatDoor
namespace Go.Proofs.YtpannhipchnhaaaGreatDoor
open Go.Eng

theorem textL_cons (x : Ins) (r : List Ins) : textL (x :: r) = (if kindOf x = 10 then [] else lineT x (nextOf x r)) ++ textL r := rfl
theorem str_at {w : World} {b : Nat} {l : List Str} (h : w.heap[b]? = some (.cells (strArr l) 9 (0, 0))) : StrAt w b 0 l := by
  intro i m hm
  rw [wcell_of h]
  simp [strArr, hm]
theorem ins_box {w : World} {b : Nat} {x z : Ins} (h : w.heap[b]? = some (.cells z.arr 39 (0, 0))) :
    ∃ w', stv w 5 (.pointer (some ⟨b, 0, none⟩)) x.val = some w' ∧ w'.heap[b]? = some (.cells x.arr 39 (0, 0)) ∧ Kept (fun j => j = b) w w' :=
  ⟨_, box_store h (by simp) (by simp) (ins_one x), put_same (blk_lt h), (Kept.refl (fun j => j = b) w).put (b := b) (fun _ => rfl) _⟩
theorem kept_new {S : Nat → Prop} {a b c : World} (h : Kept none' a b) (k : Kept S b c) (hs : ∀ i, S i → a.heap.size ≤ i) : Kept none' a c := h.then k fun i hi hS => by have := hs i hS; omega
theorem insv (x : Ins) : x.val = .agg x.arr := rfl

set_option maxHeartbeats 4000000 in
theorem text_ret {b o c : Nat} {xs : List Ins} (w : World) (hg : GlobA w) (h : CodeAt w b o xs) (hw : AllWf xs) (hn : xs.length ≤ 1000000) (hc : xs.length ≤ c) (h0 : 0 < xs.length) :
    Ret Tryz.prog 12 [.slice (some ⟨b, o, none⟩) xs.length c] w fun v w' => v = (if shapeOk xs = true then .tuple #[.string (us (textL xs)), .int .i64 0] else .tuple #[.string (us []), .int .i64 22]) ∧ Kept none' w w' := by
  refine ret_of_W Tryz.func12 rfl ok_asm_Text ?_
  simp only [c_asm_Text, W_seq, W_set]
  refine ok_intro (.string ⟨#[]⟩) (by simp) ?_
  refine ok_intro (.int .i64 0) (by simp) ?_
  try simp only [W_seq]
  refine W_calm (by simp) (ret_of_T (inShape_T h hw hn hc h0)) ?_
  intro w1 hk1
  try simp only [W_seq]
  refine W_cond (t := !shapeOk xs) (by simp) ?_ ?_
  · intro hs
    have hs : shapeOk xs = false := by simpa using hs
    rw [hs]
    simp [nil_us]
    exact hk1
  intro hs
  have hs : shapeOk xs = true := by simpa using hs
  rw [if_pos hs]
  obtain ⟨_, h256, hall⟩ := (shapeOk_iff xs).1 hs
  have htl := textL_len xs hw
  have htl2 : (textL xs).length ≤ 32000 := Nat.le_trans htl (by omega)
  simp only [W_skip, W_seq]
  refine W_new' (cs := #[.pointer none, .slice none 0 0]) (by simp; rfl) rfl ?_
  have hwb : WB (w1.alloc (.cells #[.pointer none, .slice none 0 0] 56)) w1.heap.size w1.heap.size [] := Lib.fresh_isBuilder 56 5 w1
  have hka : Kept none' w (w1.alloc (.cells #[.pointer none, .slice none 0 0] 56)) := hk1.alloc _
  have hsz : w1.heap.size ≤ (w1.alloc (.cells #[.pointer none, .slice none 0 0] 56)).heap.size := by simp
  have hB0 : w.heap.size ≤ w1.heap.size := hk1.size
  generalize w1.alloc (.cells #[.pointer none, .slice none 0 0] 56) = w2 at hwb hka hsz
  generalize w1.heap.size = B at hwb hsz hB0
  try simp only [W_seq]
  simp only [W_set, W_seq, W_block]
  refine ok_intro (.slice (some ⟨b, o, none⟩) xs.length c) (by simp) ?_
  refine ok_intro (.int .i64 xs.length) (by simp) ?_
  refine ok_intro (.int .i64 0) (by simp) ?_
  refine W_loop (fun env w' => ∃ (i : Nat) (s : Str), env = [.slice (some ⟨b, o, none⟩) xs.length c, undef, undef, undef, .pointer (some ⟨B, 0, none⟩), .int .i64 i, .int .i64 xs.length, .slice (some ⟨b, o, none⟩) xs.length c, undef, undef, undef, undef, undef, undef, undef, undef, undef] ∧ i ≤ xs.length ∧ textL xs = s ++ textL (xs.drop i) ∧ WB w' B B s ∧ Kept none' w w' ∧ B ≤ w'.heap.size) (fun env _ => xs.length - natAt env 5) ?_ ?_
  · exact ⟨0, [], by simp, by omega, by simp, hwb, hka, hsz⟩
  rintro env w3 ⟨i, s, rfl, hi, htx, hwb3, hk3, hB3⟩
  by_cases hgo : i < xs.length
  · have hgi : xs[i]? = some xs[i] := List.getElem?_eq_getElem hgo
    have hd : xs.drop i = xs[i] :: xs.drop (i + 1) := List.drop_eq_getElem_cons hgo
    have hsh := hall i _ hgi
    have hxw := hw _ (List.mem_of_getElem? hgi)
    have hx := wrow_calm hk3 (h i _ hgi)
    rw [hd, textL_cons] at htx
    have hal : kindOf xs[i] ≠ 10 → aloneOk (xs[i] :: xs.drop (i + 1)) = true := by
      intro h10
      unfold shapeAt at hsh
      rw [if_neg h10, hd] at hsh
      exact hsh
    have hnx : ∀ y, (xs.drop (i + 1)).head? = some y → xs[i + 1]? = some y := by
      intro y hy
      rw [List.head?_drop] at hy
      exact hy
    generalize xs[i] = x at *
    have hgo' : (i : Int) < xs.length := by omega
    have e1 : IntKind.i64.wrap ((i : Int) + 1) = ((i + 1 : Nat) : Int) := i64w (by omega) (by omega)
    simp only [W_seq]
    refine W_yes (by simp [hgo']) ?_
    simp only [W_skip, W_seq, W_block, W_set]
    refine ok_intro x.val (by simp [hgo', hx]) ?_
    try simp only [W_seq]
    refine W_new' (cs := Ins.zero.arr) (by simp; rfl) rfl ?_
    have hbx := hp_new w3 (.cells Ins.zero.arr 39)
    have hk4 : Kept none' w3 (w3.alloc (.cells Ins.zero.arr 39)) := (Kept.refl _ _).alloc _
    generalize hw4 : w3.alloc (.cells Ins.zero.arr 39) = w4 at hbx hk4
    generalize hbx0 : w3.heap.size = bx at hbx
    simp only [W_set, W_seq]
    refine ok_intro (.int .i64 i) (by simp) ?_
    try simp only [W_seq]
    obtain ⟨w5, hst, hbx5, hk5⟩ := ins_box (x := x) hbx
    refine W_store (by simp) (by simp) hst (stab_nil _ _ _) ?_
    have hk35 : Kept none' w3 w5 := kept_new hk4 hk5 fun i hi => by omega
    try simp only [W_seq]
    have hrx5 := wrow_box hbx5 (n := 5) (by simp)
    refine W_calm (by simp [hrx5]) (ret_of_T (akind_T w5 hxw)) ?_
    intro w6 hk6
    try simp only [W_seq]
    by_cases h10 : kindOf x = 10
    · refine W_yes (by simp [h10]) ?_
      rw [if_pos h10] at htx
      simp [e1, -Int.natCast_add]
      refine ⟨⟨i + 1, rfl, by omega, s, by simpa using htx, wb_calm hwb3 (hk35.trans hk6), hk3.trans (hk35.trans hk6), by have := (hk35.trans hk6).size; omega⟩, by simp [natAt]; omega⟩
    rw [if_neg h10] at htx
    have hal := hal h10
    refine W_no (by simp [h10]) ?_
    simp only [W_skip, W_seq]
    refine W_new' (cs := Ins.zero.arr) (by simp; rfl) rfl ?_
    have hbn := hp_new w6 (.cells Ins.zero.arr 39)
    have hk7 : Kept none' w6 (w6.alloc (.cells Ins.zero.arr 39)) := (Kept.refl _ _).alloc _
    generalize hw7 : w6.alloc (.cells Ins.zero.arr 39) = w7 at hbn hk7
    generalize hbn0 : w6.heap.size = bn at hbn
    have hbx6 := hk6.has hbx5 (fun h => h)
    have hbx7 := hk7.has hbx6 (fun h => h)
    have hlt6 := blk_lt hbx6
    try simp only [W_seq]
    obtain ⟨w8, hst8, hbn8, hk8⟩ := ins_box (x := Ins.zero) hbn
    refine W_store (by simp) (by simp) hst8 (stab_nil _ _ _) ?_
    have hk68 : Kept none' w6 w8 := kept_new hk7 hk8 fun i hi => by omega
    have hbx8 : w8.heap[bx]? = _ := hk8.has hbx7 (by omega)
    have hrx8 := wrow_box hbx8 (n := 5) (by simp)
    try simp only [W_seq]
    refine W_calm (by simp [hrx8]) (ret_of_T (akind_T w8 hxw)) ?_
    intro w9 hk9
    try simp only [W_seq]
    have hbx9 := hk9.has hbx8 (fun h => h)
    have hbn9 := hk9.has hbn8 (fun h => h)
    have hk39 : Kept none' w3 w9 := (hk35.trans hk6).trans (hk68.trans hk9)
    have hnwf : (nextOf x (xs.drop (i + 1))).wf := by
      unfold nextOf
      split
      · cases hq : xs.drop (i + 1) with
        | nil => exact ⟨by decide, by decide, by decide, ⟨by decide, by decide⟩, ⟨by decide, by decide⟩⟩
        | cons y r' => exact hw y (List.mem_of_mem_drop (by rw [hq]; simp))
      · exact ⟨by decide, by decide, by decide, ⟨by decide, by decide⟩, ⟨by decide, by decide⟩⟩
    refine W_cut (fun env w' => Kept none' w3 w' ∧ w'.heap[bx]? = some (.cells x.arr 39 (0, 0)) ∧ w'.heap[bn]? = some (.cells (nextOf x (xs.drop (i + 1))).arr 39 (0, 0)) ∧ ∃ (x3 x10 x11 x13 : Value), env = [.slice (some ⟨b, o, none⟩) xs.length c, undef, undef, x3, .pointer (some ⟨B, 0, none⟩), .int .i64 i, .int .i64 xs.length, .slice (some ⟨b, o, none⟩) xs.length c, .pointer (some ⟨bx, 0, none⟩), .int .i64 i, x10, x11, .pointer (some ⟨bn, 0, none⟩), x13, undef, undef, undef]) ?_ ?_
    · refine W_cond (t := decide (kindOf x = 9)) (by simp) ?_ ?_
      · intro h9
        have h9 : kindOf x = 9 := of_decide_eq_true h9
        obtain ⟨y, r', hr', _⟩ := alone_wide hal h9
        have hy1 := hnx y (by rw [hr']; rfl)
        have hil1 := (List.getElem?_eq_some_iff.1 hy1).1
        have hy9 := wrow_calm (hk3.trans hk39) (h (i + 1) y hy1)
        obtain ⟨w10, hst10, hbn10, hk10⟩ := ins_box (x := y) hbn9
        have hil2 : (((i + 1 : Nat) : Int)) < xs.length := by omega
        refine W_store (by simp) (vv := y.val) (by simp [e1, hil2, hy9, -Int.natCast_add]) hst10 (stab_nil _ _ _) ?_
        have hno : nextOf x (xs.drop (i + 1)) = y := by unfold nextOf; rw [if_pos h9, hr']; rfl
        simp [hno]
        exact ⟨kept_new hk39 hk10 fun j hj => by have := hk35.size; have := hk6.size; omega, hk10.has hbx9 (by omega), hbn10⟩
      · intro h9
        have h9 : ¬ kindOf x = 9 := of_decide_eq_false h9
        have hno : nextOf x (xs.drop (i + 1)) = Ins.zero := by unfold nextOf; rw [if_neg h9]
        simp [hno]
        exact ⟨hk39, hbx9, hbn9⟩
    rintro env w10 ⟨hk310, hbx10, hbn10, x3, x10, x11, x13, rfl⟩
    generalize nextOf x (xs.drop (i + 1)) = y at *
    have hrx10 := wrow_box hbx10 (n := 5) (by simp)
    have hrn10 := wrow_box hbn10 (n := 5) (by simp)
    have hg10 := hg.calm (hk3.trans hk310)
    try simp only [W_seq]
    refine W_calmP (by simp [hrx10, hrn10]) (line_ret hxw hnwf w10 hg10 (fun h8 => alone_atom hal h8)) ?_
    rintro v w11 hk11 ⟨lb, rfl, hlb, hlbk⟩
    obtain ⟨hwl1, hwl2, hwl3⟩ := word_len (y := y) hxw
    obtain ⟨hjl, hll⟩ := lineT_len (y := y) hxw
    try simp only [W_seq]
    refine W_calm (by simp; rfl) (join_ret (c := (lineW x y).length) (lineW x y) w11 (str_at hlbk) (blk_lt hlbk) (by omega) (by omega) (by omega)) ?_
    intro w12 hk12
    have hcat : strBin .add (us (joinS (lineW x y))) ⟨#[10]⟩ = some (.string (us (lineT x y))) := us_cat _ [10] (by simp; omega)
    try simp only [W_seq]
    refine W_chkIn [.string (us (lineT x y))] (by simp [hcat]) ?_
    have hk312 := (hk310.trans hk11).trans hk12
    have hlen : s.length + (lineT x y).length ≤ 1000000 := by
      have := congrArg List.length htx
      simp at this
      omega
    have hB12 : B ≤ w12.heap.size := by have := hk312.size; omega
    refine W_call0 (by simp [hcat]) (write_ret (wb_calm hwb3 hk312) hlen hB12) ?_
    rintro v w13 ⟨hwb13, hk13⟩
    simp [e1, -Int.natCast_add]
    refine ⟨⟨i + 1, rfl, by omega, s ++ lineT x y, by rw [htx, List.append_assoc], hwb13, kept_new (hk3.trans hk312) hk13 fun j hj => by omega, by have := hk13.size; omega⟩, by simp [natAt]; omega⟩
  · have hil : i = xs.length := by omega
    subst hil
    have htx : textL xs = s := by rw [htx]; simp [textL]
    simp only [W_seq]
    refine W_no (by simp) ?_
    simp only [W_exit, Wx_exit_c, Wx_exit_post, Wx_exit_blk, if_true, W_seq]
    refine W_call0 (by simp) (str_ret hwb3 hB3) ?_
    rintro v w4 ⟨rfl, hk4⟩
    simp [htx]
    exact kept_new hk3 hk4 fun j hj => by omega
theorem text_T {w0 : World} (hg : GlobA w0) {b o c : Nat} {xs : List Ins} (h : CodeAt w0 b o xs) (hw : AllWf xs) (hn : xs.length ≤ 1000000) (hc : xs.length ≤ c) (h0 : 0 < xs.length) :
    T Tryz.prog w0 12 [.slice (some ⟨b, o, none⟩) xs.length c] = some (if shapeOk xs = true then .tuple #[.string (us (textL xs)), .int .i64 0] else .tuple #[.string (us []), .int .i64 22]) :=
  T_of_ret (by kernel_rfl) (by simp [h.lt h0]) (by split <;> simp) fun w hk => text_ret w (hg.calm hk) (h.calm hk) hw hn hc h0
end Go.Proofs.YtpannhipchnhaaaGreatDoor
