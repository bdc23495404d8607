/- Layer 20: words on the stack, and single steps; what VmPlaces' and VmAtomic's programs come to. -/
import Derived.Test.YtepbpapbkonhnaaVmN
set_option linter.unusedSimpArgs false
set_option linter.unusedVariables false
set_option maxRecDepth 8000
namespace Go.Proofs.Ytepbpapbkonhnaa
open Go.Eng

theorem vleN_congr {x y : Nat → Int} : ∀ n, (∀ j, j < n → x j = y j) → leN x n = leN y n
  | 0, _ => rfl
  | n + 1, h => by simp only [leN]; rw [vleN_congr n (fun j hj => h j (by omega)), h n (by omega)]
theorem vemod_split (x a : Int) (ha : 0 < a) : x % a + x / a % 256 * a = x % (a * 256) := by
  have h1 := Int.emod_nonneg x (Int.ne_of_gt ha)
  have h2 := Int.emod_lt_of_pos x ha
  have h3 : 0 ≤ x / a % 256 := Int.emod_nonneg _ (by omega)
  have h4 : x / a % 256 ≤ 255 := by omega
  have h5 : x / a % 256 * a ≤ 255 * a := Int.mul_le_mul_of_nonneg_right h4 (Int.le_of_lt ha)
  have h6 : 0 ≤ x / a % 256 * a := Int.mul_nonneg h3 (Int.le_of_lt ha)
  have e : x = (x % a + x / a % 256 * a) + (a * 256) * (x / a / 256) := by
    have e1 := Int.emod_add_mul_ediv x a
    have e2 := Int.emod_add_mul_ediv (x / a) 256
    have e3 : a * (x / a) = x / a % 256 * a + (a * 256) * (x / a / 256) := by
      rw [Int.mul_comm (x / a % 256) a, Int.mul_assoc, ← Int.mul_add, e2]
    omega
  have e4 : x % (a * 256) = (x % a + x / a % 256 * a) % (a * 256) := by
    conv => lhs; rw [e]
    rw [Int.add_mul_emod_self_left]
  rw [e4]
  exact (Int.emod_eq_of_lt (by omega) (by omega)).symm
theorem vleN_byteN (x : Int) : ∀ n, leN (byteN x) n = x % 256 ^ n
  | 0 => by simp [leN]
  | n + 1 => by
    have hp : (0 : Int) < 256 ^ n := Int.pow_pos (by omega)
    simp only [leN, byteN, vleN_byteN x n]
    rw [Int.pow_succ]
    exact vemod_split x _ hp

/-- Word q of the stack holds a number. -/
def WordN (m : RMem) (q : Nat) (x : Int) : Prop := (m.kept q).tag = 0 ∧ (∀ j, 8 * q ≤ j → j < 8 * q + 8 → m.written j = true) ∧ leN (fun j => m.stack (8 * q + j)) 8 = x
def wsave (m : RMem) (q : Nat) (x : Int) : RMem := mark (withBytes m (8 * q) (8 * q + 8) x) (8 * q) 8
theorem touched_word (q k : Nat) : touched (8 * q) (8 * q + 8) k = (k = q) := by
  unfold touched
  exact propext ⟨fun h => by omega, fun h => by omega⟩
theorem wsave_same (m : RMem) (q : Nat) (x : Int) (hx : 0 ≤ x) (hx2 : x < 18446744073709551616) : WordN (wsave m q x) q x := by
  refine ⟨?_, fun j h1 h2 => ?_, ?_⟩
  · show (if touched (8 * q) (8 * q + 8) q ∧ (m.kept q).tag ≠ 0 then RVal.zero else m.kept q).tag = 0
    by_cases h : (m.kept q).tag = 0
    · rw [if_neg (fun h' => h'.2 h)]; exact h
    · rw [if_pos ⟨by rw [touched_word], h⟩]; rfl
  · show (if 8 * q ≤ j ∧ j < 8 * q + 8 then true else _) = true
    rw [if_pos ⟨h1, h2⟩]
  · rw [vleN_congr (y := byteN x) 8 (fun j hj => ?_), vleN_byteN, show (256 : Int) ^ 8 = 18446744073709551616 from rfl, Int.emod_eq_of_lt hx hx2]
    show (if 8 * q ≤ 8 * q + j ∧ 8 * q + j < 8 * q + 8 then byteN x (8 * q + j - 8 * q) else _) = _
    rw [if_pos (by omega), Nat.add_sub_cancel_left]
theorem wsave_other {m : RMem} {q q' : Nat} {x y : Int} (hq : q' ≠ q) (h : WordN m q' y) : WordN (wsave m q x) q' y := by
  refine ⟨?_, fun j h1 h2 => ?_, ?_⟩
  · show (if touched (8 * q) (8 * q + 8) q' ∧ (m.kept q').tag ≠ 0 then RVal.zero else m.kept q').tag = 0
    rw [if_neg (fun h' => by rw [touched_word] at h'; exact hq h'.1)]; exact h.1
  · show (if 8 * q ≤ j ∧ j < 8 * q + 8 then true else if touched (8 * q) (8 * q + 8) (j / 8) ∧ _ then false else m.written j) = true
    rw [if_neg (by omega), if_neg (fun h' => by rw [touched_word] at h'; omega)]
    exact h.2.1 j h1 h2
  · rw [← h.2.2]
    refine vleN_congr 8 fun j hj => ?_
    show (if 8 * q ≤ 8 * q' + j ∧ 8 * q' + j < 8 * q + 8 then _ else m.stack (8 * q' + j)) = _
    rw [if_neg (by omega)]
theorem save_word (m : RMem) (q : Nat) (x : Int) (hq : q < 8) (s : Int) (hs : s = 8 * q - 64) : saveS m s 8 (num x) = (wsave m q x, 0) := by
  subst hs
  have hf : ((8 * q : Int) - 64 + 64).toNat = 8 * q := by omega
  unfold saveS
  rw [hf, if_pos ⟨by simp [sizeOk], by simp [num], by simp [num], by omega, by omega⟩, if_pos (show (num x).tag = 1 from rfl)]
  rfl
theorem load_word {m : RMem} {q : Nat} {x : Int} (h : WordN m q x) (hq : q < 8) (s : Int) (hs : s = 8 * q - 64) : loadS m s 8 = (num x, 0) := by
  subst hs
  have hf : ((8 * q : Int) - 64 + 64).toNat = 8 * q := by omega
  unfold loadS
  have hr : Ready m (8 * q) 8 := by
    intro j h1 h2
    unfold readyAt
    rw [h.2.1 j h1 h2, show j / 8 = q by omega, h.1]
    rfl
  rw [hf, if_pos ⟨by simp [sizeOk], by omega, by omega⟩, if_neg (fun h' => h'.2.2 (by rw [show 8 * q / 8 = q by omega]; exact h.1)), show (8 : Int).toNat = 8 from rfl, if_pos hr, h.2.2]
  rfl

theorem saveOf_word (m : RMem) {a : RVal} {off x : Int} (q : Nat) (hq : q < 8) (ha : a.tag = 3) (hs : IntKind.i64.wrap a.n + off = 8 * q - 64) : saveOf m a off 8 (num x) = (wsave m q x, 0) := by
  unfold saveOf
  rw [if_pos ha]
  exact save_word m q x hq _ hs
theorem loadOf_word {m : RMem} {a : RVal} {off x : Int} (q : Nat) (h : WordN m q x) (hq : q < 8) (ha : a.tag = 3) (hs : IntKind.i64.wrap a.n + off = 8 * q - 64) : loadOf m a off 8 = (num x, 0) := by
  unfold loadOf
  rw [if_neg (by omega), if_pos ha]
  exact load_word h hq _ hs

/-! Single steps. -/
def st (r : Nat → RVal) (p : Int) : VSt := ⟨r, p, false, 0⟩
theorem step_of {xs : List Ins} {c : Int} {us : List Int} {s : VSt} {m : RMem} {x : Ins} (h : xs[s.pos.toNat]? = some x) (hp : 0 ≤ s.pos) (hd : x.dst < 11) (hs : x.src < 11) : vstep xs c us s m = vstep1 c us s m x (partsOf x.op) := by
  unfold vstep
  rw [if_neg (by omega), h]
  simp only
  rw [if_neg (by omega)]
section
variable {xs : List Ins} {c : Int} {us : List Int} {s : VSt} {m m' : RMem} {x : Ins} {p : Parts} {A V : RVal} {p' : Int} (h : xs[s.pos.toNat]? = some x) (hp : 0 ≤ s.pos) (hlt : (x.dst < 11 ∧ x.src < 11)) (hpp : partsOf x.op = p) (hp' : IntKind.i64.wrap (s.pos + 1) = p')
include h hp hlt hpp hp'
theorem step_store (hk : p.kind = 7) (ha : s.r x.dst = A) (hv : secondOf s x p.reg = V) (hsv : saveOf m A (IntKind.i64.wrap x.off) p.size V = (m', 0)) :
    vstep xs c us s m = some ({ s with pos := p' }, m') := by
  rw [step_of h hp hlt.1 hlt.2, hpp]
  unfold vstep1
  rw [hk, hv]
  unfold saveStep
  rw [ha, hsv, hp']
  rfl
theorem step_load (hk : p.kind = 6) (hd : x.dst ≠ 10) (ha : s.r x.src = A) (hl : loadOf m A (IntKind.i64.wrap x.off) p.size = (V, 0)) :
    vstep xs c us s m = some ({ s with r := fset s.r x.dst V, pos := p' }, m) := by
  rw [step_of h hp hlt.1 hlt.2, hpp]
  unfold vstep1
  rw [hk]
  unfold loadStep setOf
  rw [ha, hl, hp', if_neg hd]
  rfl
theorem step_atomic {a b n : Int} (hk : p.kind = 8) (ha : s.r x.dst = A) (hb : s.r x.src = num b) (hl : loadOf m A (IntKind.i64.wrap x.off) p.size = (num a, 0)) (hn : atomN x.imm a b = some n)
    (hsv : saveOf m A (IntKind.i64.wrap x.off) p.size (num n) = (m', 0)) : vstep xs c us s m = some ({ s with pos := p' }, m') := by
  rw [step_of h hp hlt.1 hlt.2, hpp]
  unfold vstep1
  rw [hk]
  unfold atomicStep
  rw [ha, hb, hl]
  simp only [num] at hn ⊢
  rw [hn]
  unfold saveStep
  rw [ha]
  simp only [num] at hsv
  simp [hsv, hp']
end

/-! VmPlaces. -/
def placeCode (a b c n : Int) : List Ins := [⟨191, 6, 10, 0, 0⟩, ⟨7, 6, 0, 0, a⟩, ⟨23, 6, 0, 0, b⟩, ⟨7, 6, 0, 0, c⟩, ⟨122, 6, 0, 0, n⟩, ⟨121, 0, 10, -8, 0⟩, ⟨121, 7, 6, 0, 0⟩, ⟨93, 0, 7, 1, 0⟩, ⟨149, 0, 0, 0, 0⟩, ⟨5, 0, 0, -1, 0⟩]
def plc (n : Int) : RVal := ⟨3, n, 0, none⟩
theorem place_a (a b c n : Int) (ha : -1000 < a ∧ a < 1000) (hb : -1000 < b ∧ b < 1000) (hc : c = b - a - 8) (maps : Value) :
    runOf (placeCode a b c n) (fun _ => 0) 0 [] 40 maps = (IntKind.u64.wrap (IntKind.i64.wrap n), 8, 9, 0) := by
  unfold runOf
  generalize RMem.fresh (fun _ => 0) maps = m
  show vrun (placeCode a b c n) 0 [] 40 0 startSt m = _
  generalize hV : IntKind.u64.wrap (IntKind.i64.wrap n) = V
  have hV0 : 0 ≤ V := hV ▸ wrap_u64_nonneg _
  have hV1 : V < 18446744073709551616 := by rw [← hV, IntKind.wrap_u64]; omega
  have e0 : vstep (placeCode a b c n) 0 [] startSt m = some (st (fset startSt.r 6 (plc 0)) 1, m) := by kernel_rfl
  have e1 : vstep (placeCode a b c n) 0 [] (st (fset startSt.r 6 (plc 0)) 1) m = some (st (fset (fset startSt.r 6 (plc 0)) 6 (plc (IntKind.u64.wrap (0 + IntKind.u64.wrap (IntKind.i64.wrap a))))) 2, m) := by kernel_rfl
  rw [fset_fset] at e1
  generalize hA : IntKind.u64.wrap (0 + IntKind.u64.wrap (IntKind.i64.wrap a)) = A at e1
  have e2 : vstep (placeCode a b c n) 0 [] (st (fset startSt.r 6 (plc A)) 2) m = some (st (fset (fset startSt.r 6 (plc A)) 6 (plc (IntKind.u64.wrap (A + IntKind.u64.wrap (0 - IntKind.u64.wrap (IntKind.i64.wrap b)))))) 3, m) := by kernel_rfl
  rw [fset_fset] at e2
  generalize hB : IntKind.u64.wrap (A + IntKind.u64.wrap (0 - IntKind.u64.wrap (IntKind.i64.wrap b))) = B at e2
  have e3 : vstep (placeCode a b c n) 0 [] (st (fset startSt.r 6 (plc B)) 3) m = some (st (fset (fset startSt.r 6 (plc B)) 6 (plc (IntKind.u64.wrap (B + IntKind.u64.wrap (IntKind.i64.wrap c))))) 4, m) := by kernel_rfl
  rw [fset_fset] at e3
  have hC : IntKind.u64.wrap (B + IntKind.u64.wrap (IntKind.i64.wrap c)) = 18446744073709551608 := by
    rw [← hB, ← hA]
    simp only [IntKind.wrap_u64, IntKind.wrap_i64]
    omega
  rw [hC] at e3
  have e4 : vstep (placeCode a b c n) 0 [] (st (fset startSt.r 6 (plc 18446744073709551608)) 4) m = some (st (fset startSt.r 6 (plc 18446744073709551608)) 5, wsave m 7 V) :=
    step_store (x := ⟨122, 6, 0, 0, n⟩) (p := ⟨7, 0, 8, false, false⟩) (A := plc 18446744073709551608) (V := num V) rfl (of_decide_eq_true (by kernel_rfl)) (of_decide_eq_true (by kernel_rfl)) (by kernel_rfl) (by kernel_rfl) rfl rfl (by rw [← hV]; kernel_rfl) (saveOf_word m 7 (by omega) rfl (by kernel_rfl))
  have hw : WordN (wsave m 7 V) 7 V := wsave_same m 7 V hV0 hV1
  generalize wsave m 7 V = m1 at e4 hw
  have e5 : vstep (placeCode a b c n) 0 [] (st (fset startSt.r 6 (plc 18446744073709551608)) 5) m1 = some (st (fset (fset startSt.r 6 (plc 18446744073709551608)) 0 (num V)) 6, m1) :=
    step_load (x := ⟨121, 0, 10, -8, 0⟩) (p := ⟨6, 0, 8, false, false⟩) (A := plc 0) (V := num V) rfl (of_decide_eq_true (by kernel_rfl)) (of_decide_eq_true (by kernel_rfl)) (by kernel_rfl) (by kernel_rfl) rfl (of_decide_eq_true (by kernel_rfl)) (by kernel_rfl) (loadOf_word 7 hw (by omega) rfl (by kernel_rfl))
  have e6 : vstep (placeCode a b c n) 0 [] (st (fset (fset startSt.r 6 (plc 18446744073709551608)) 0 (num V)) 6) m1 = some (st (fset (fset (fset startSt.r 6 (plc 18446744073709551608)) 0 (num V)) 7 (num V)) 7, m1) :=
    step_load (x := ⟨121, 7, 6, 0, 0⟩) (p := ⟨6, 0, 8, false, false⟩) (A := plc 18446744073709551608) (V := num V) rfl (of_decide_eq_true (by kernel_rfl)) (of_decide_eq_true (by kernel_rfl)) (by kernel_rfl) (by kernel_rfl) rfl (of_decide_eq_true (by kernel_rfl)) (by kernel_rfl) (loadOf_word 7 hw (by omega) rfl (by kernel_rfl))
  have e7 : vstep (placeCode a b c n) 0 [] (st (fset (fset (fset startSt.r 6 (plc 18446744073709551608)) 0 (num V)) 7 (num V)) 7) m1 =
      some (jumpedOf (st (fset (fset (fset startSt.r 6 (plc 18446744073709551608)) 0 (num V)) 7 (num V)) 7) ⟨93, 0, 7, 1, 0⟩ (!decide (V = V)), m1) := by kernel_rfl
  have e7' : jumpedOf (st (fset (fset (fset startSt.r 6 (plc 18446744073709551608)) 0 (num V)) 7 (num V)) 7) ⟨93, 0, 7, 1, 0⟩ (!decide (V = V)) = st (fset (fset (fset startSt.r 6 (plc 18446744073709551608)) 0 (num V)) 7 (num V)) 8 := by
    simp; rfl
  rw [e7'] at e7
  have e8 : vstep (placeCode a b c n) 0 [] (st (fset (fset (fset startSt.r 6 (plc 18446744073709551608)) 0 (num V)) 7 (num V)) 8) m1 = some ({ st (fset (fset (fset startSt.r 6 (plc 18446744073709551608)) 0 (num V)) 7 (num V)) 8 with done := true }, m1) := by kernel_rfl
  rw [vrun_step e0 rfl, vrun_step e1 rfl, vrun_step e2 rfl, vrun_step e3 rfl, vrun_step e4 rfl, vrun_step e5 rfl, vrun_step e6 rfl, vrun_step e7 rfl, vrun_end e8 rfl]
  rfl
end Go.Proofs.Ytepbpapbkonhnaa
