/- Engine, part XV: what is known of symbols, as lists of rules. -/
import Derived.Test.YtkgpmjjleemdlaaGreatEngXU
set_option linter.unusedSimpArgs false
set_option linter.unusedVariables false
namespace Go.Eng
noncomputable section
def find1 (l : List (U1 × Value × Value)) (o : U1) (u : Value) : Option Value := match l with
  | [] => none
  | p :: r => match beqU1 p.1 o && beqV 3 p.2.1 u with
    | true => some p.2.2
    | false => find1 r o u
def find2 (l : List (U2 × Value × Value × Value)) (o : U2) (u v : Value) : Option Value := match l with
  | [] => none
  | p :: r => match beqU2 p.1 o && (beqV 3 p.2.1 u && beqV 3 p.2.2.1 v) with
    | true => some p.2.2.2
    | false => find2 r o u v
def findQ (l : List (Value × Value × Bool)) (u v : Value) : Option Bool := match l with
  | [] => none
  | p :: r => match beqV 3 p.1 u && beqV 3 p.2.1 v with
    | true => some p.2.2
    | false => findQ r u v
def Rule1 (θ : Nat → Value) (p : U1 × Value × Value) : Prop := isSy p.2.1 = true ∧ isSy p.2.2 = true ∧ p.1.ap (syV θ p.2.1) = some (syV θ p.2.2)
def Rule2 (θ : Nat → Value) (p : U2 × Value × Value × Value) : Prop := isSy p.2.1 = true ∧ isSy p.2.2.1 = true ∧ isSy p.2.2.2 = true ∧ p.1.ap (syV θ p.2.1) (syV θ p.2.2.1) = some (syV θ p.2.2.2)
def RuleE (θ : Nat → Value) (p : Value × Value × Bool) : Prop := isSy p.1 = true ∧ isSy p.2.1 = true ∧ ∃ k x y, syV θ p.1 = .int k x ∧ syV θ p.2.1 = .int k y ∧ p.2.2 = (x == y)
theorem find1_ok {θ : Nat → Value} {l : List (U1 × Value × Value)} (h : ∀ p ∈ l, Rule1 θ p) {o : U1} {u r : Value} (hf : find1 l o u = some r) : isSy u = true ∧ isSy r = true ∧ o.ap (syV θ u) = some (syV θ r) := by
  induction l with
  | nil => cases hf
  | cons p l ih =>
    unfold find1 at hf
    split at hf
    · rename_i hb
      simp only [Bool.and_eq_true] at hb
      obtain rfl := Option.some.inj hf
      have := h p List.mem_cons_self
      rw [← beqU1_eq hb.1, ← beqV_eq 3 _ _ hb.2]
      exact this
    · exact ih (fun p hp => h p (List.mem_cons_of_mem _ hp)) hf
theorem find2_ok {θ : Nat → Value} {l : List (U2 × Value × Value × Value)} (h : ∀ p ∈ l, Rule2 θ p) {o : U2} {u v r : Value} (hf : find2 l o u v = some r) : isSy u = true ∧ isSy v = true ∧ isSy r = true ∧ o.ap (syV θ u) (syV θ v) = some (syV θ r) := by
  induction l with
  | nil => cases hf
  | cons p l ih =>
    unfold find2 at hf
    split at hf
    · rename_i hb
      simp only [Bool.and_eq_true] at hb
      obtain rfl := Option.some.inj hf
      have := h p List.mem_cons_self
      rw [← beqU2_eq hb.1, ← beqV_eq 3 _ _ hb.2.1, ← beqV_eq 3 _ _ hb.2.2]
      exact this
    · exact ih (fun p hp => h p (List.mem_cons_of_mem _ hp)) hf
theorem findQ_ok {θ : Nat → Value} {l : List (Value × Value × Bool)} (h : ∀ p ∈ l, RuleE θ p) {u v : Value} {b : Bool} (hf : findQ l u v = some b) : isSy u = true ∧ isSy v = true ∧ ∃ k x y, syV θ u = .int k x ∧ syV θ v = .int k y ∧ b = (x == y) := by
  induction l with
  | nil => cases hf
  | cons p l ih =>
    unfold findQ at hf
    split at hf
    · rename_i hb
      simp only [Bool.and_eq_true] at hb
      obtain rfl := Option.some.inj hf
      have := h p List.mem_cons_self
      rw [← beqV_eq 3 _ _ hb.1, ← beqV_eq 3 _ _ hb.2]
      exact this
    · exact ih (fun p hp => h p (List.mem_cons_of_mem _ hp)) hf
/-- Symbols, from rules. -/
abbrev syOf (θ : Nat → Value) (hp : ∀ j, plainV (θ j) = true) (r1 : List (U1 × Value × Value)) (r2 : List (U2 × Value × Value × Value)) (re : List (Value × Value × Bool)) (h1 : ∀ p ∈ r1, Rule1 θ p) (h2 : ∀ p ∈ r2, Rule2 θ p) (he : ∀ p ∈ re, RuleE θ p) : Sy :=
  ⟨θ, fun j => plainT_of (hp j), find1 r1, find2 r2, fun _ _ _ _ => none, findQ re, fun _ _ => none, fun _ => none, fun _ => True, fun _ _ _ _ => trivial, fun _ _ _ h => find1_ok h1 h, fun _ _ _ _ h => find2_ok h2 h, fun _ _ _ _ _ h => (nomatch h), fun _ _ _ h => (nomatch h), fun _ _ h => (nomatch h), fun _ j b o s _ h => (by have := hp j; rw [h] at this; cases this), fun _ _ _ h => findQ_ok he h⟩

/-! Numbers that are wrapped. -/
theorem wrapU (k : IntKind) (M : Int) (hM : (2 : Int) ^ k.bits = M) (hs : k.signed = false) (x : Int) : k.wrap x = x % M := by
  simp only [IntKind.wrap, hs, hM, Bool.false_and, Bool.false_eq_true, if_false]
theorem wrapS (k : IntKind) (M H : Int) (hM : (2 : Int) ^ k.bits = M) (hH : (2 : Int) ^ (k.bits - 1) = H) (hs : k.signed = true) (x : Int) : k.wrap x = if x % M ≥ H then x % M - M else x % M := by
  simp only [IntKind.wrap, hs, hM, hH, Bool.true_and, decide_eq_true_eq]
theorem w_u8 (x : Int) : IntKind.u8.wrap x = x % 256 := wrapU .u8 256 (by decide) rfl x
theorem w_u16 (x : Int) : IntKind.u16.wrap x = x % 65536 := wrapU .u16 65536 (by decide) rfl x
theorem w_u32 (x : Int) : IntKind.u32.wrap x = x % 4294967296 := wrapU .u32 4294967296 (by decide) rfl x
theorem w_u64 (x : Int) : IntKind.u64.wrap x = x % 18446744073709551616 := wrapU .u64 18446744073709551616 (by decide) rfl x
theorem w_i8 (x : Int) : -128 ≤ IntKind.i8.wrap x ∧ IntKind.i8.wrap x < 128 ∧ (x - IntKind.i8.wrap x) % 256 = 0 := by
  rw [wrapS .i8 256 128 (by decide) (by decide) rfl]; split <;> omega
theorem w_i16 (x : Int) : -32768 ≤ IntKind.i16.wrap x ∧ IntKind.i16.wrap x < 32768 ∧ (x - IntKind.i16.wrap x) % 65536 = 0 := by
  rw [wrapS .i16 65536 32768 (by decide) (by decide) rfl]; split <;> omega
theorem w_i32 (x : Int) : -2147483648 ≤ IntKind.i32.wrap x ∧ IntKind.i32.wrap x < 2147483648 ∧ (x - IntKind.i32.wrap x) % 4294967296 = 0 := by
  rw [wrapS .i32 4294967296 2147483648 (by decide) (by decide) rfl]; split <;> omega
theorem w_i64 (x : Int) : -9223372036854775808 ≤ IntKind.i64.wrap x ∧ IntKind.i64.wrap x < 9223372036854775808 ∧ (x - IntKind.i64.wrap x) % 18446744073709551616 = 0 := by
  rw [wrapS .i64 18446744073709551616 9223372036854775808 (by decide) (by decide) rfl]; split <;> omega
theorem bv64 {a : Int} (h0 : 0 ≤ a) (h1 : a < 18446744073709551616) : ((BitVec.ofInt 64 a).toNat : Int) = a := by
  rw [BitVec.toNat_ofInt]
  have : a % (2 ^ 64 : Nat) = a := Int.emod_eq_of_lt h0 (by simpa using h1)
  rw [this]; omega
theorem b_and0 (a : Int) : IntKind.u64.wrap ((BitVec.ofInt 64 a &&& BitVec.ofInt 64 0).toNat) = 0 := by simp [w_u64]
theorem b_or0 {a : Int} (h0 : 0 ≤ a) (h1 : a < 18446744073709551616) : IntKind.u64.wrap ((BitVec.ofInt 64 a ||| BitVec.ofInt 64 0).toNat) = a := by
  rw [show BitVec.ofInt 64 0 = 0#64 from rfl, BitVec.or_zero, w_u64, bv64 h0 h1]; omega
theorem b_oro {a : Int} (h0 : 0 ≤ a) (h1 : a < 18446744073709551616) : IntKind.u64.wrap ((BitVec.ofInt 64 a ||| BitVec.ofInt 64 a).toNat) = a := by
  rw [BitVec.or_self, w_u64, bv64 h0 h1]; omega
theorem b_xoro (a : Int) : IntKind.u64.wrap ((BitVec.ofInt 64 a ^^^ BitVec.ofInt 64 a).toNat) = 0 := by
  rw [BitVec.xor_self, w_u64]; rfl
theorem b_andNot0 {a : Int} (h0 : 0 ≤ a) (h1 : a < 18446744073709551616) : IntKind.u64.wrap ((BitVec.ofInt 64 a &&& ~~~BitVec.ofInt 64 0).toNat) = a := by
  rw [show ~~~BitVec.ofInt 64 0 = BitVec.allOnes 64 from rfl, BitVec.and_allOnes, w_u64, bv64 h0 h1]; omega
theorem and9 {a b : Int} (h : (a - b) % 16 = 0) : BitVec.ofInt 64 9 &&& BitVec.ofInt 64 a = BitVec.ofInt 64 9 &&& BitVec.ofInt 64 b := by
  have key : ∀ c : Int, (BitVec.ofInt 64 9 &&& BitVec.ofInt 64 c).toNat = 9 &&& (c % 16).toNat := fun c => by
    rw [BitVec.toNat_and, show (BitVec.ofInt 64 9).toNat = 9 from rfl, BitVec.toNat_ofInt]
    rw [show (9 : Nat) = 9 &&& (2 ^ 4 - 1) from rfl, Nat.and_assoc, Nat.and_comm (2 ^ 4 - 1) _, Nat.and_two_pow_sub_one_eq_mod, Nat.and_assoc, Nat.and_comm (2 ^ 4 - 1) _, Nat.and_two_pow_sub_one_eq_mod]
    congr 1
    have e1 : (2 : Nat) ^ 4 = 16 := rfl
    have e2 : ((2 ^ 64 : Nat) : Int) = 18446744073709551616 := rfl
    rw [e1, e2]
    omega
  apply BitVec.eq_of_toNat_eq
  rw [key, key]
  congr 2
  omega
theorem and9_cases (n : Int) : BitVec.ofInt 64 9 &&& BitVec.ofInt 64 n = 0 ∨ BitVec.ofInt 64 9 &&& BitVec.ofInt 64 n = 1 ∨ BitVec.ofInt 64 9 &&& BitVec.ofInt 64 n = 8 ∨ BitVec.ofInt 64 9 &&& BitVec.ofInt 64 n = 9 := by
  rw [and9 (a := n) (b := n % 16) (by omega)]
  have h0 : 0 ≤ n % 16 := by omega
  have h1 : n % 16 < 16 := by omega
  generalize n % 16 = r at h0 h1
  have : r = 0 ∨ r = 1 ∨ r = 2 ∨ r = 3 ∨ r = 4 ∨ r = 5 ∨ r = 6 ∨ r = 7 ∨ r = 8 ∨ r = 9 ∨ r = 10 ∨ r = 11 ∨ r = 12 ∨ r = 13 ∨ r = 14 ∨ r = 15 := by omega
  rcases this with rfl | rfl | rfl | rfl | rfl | rfl | rfl | rfl | rfl | rfl | rfl | rfl | rfl | rfl | rfl | rfl <;> decide
theorem and9_rule {n a z : Int} {v : BitVec 64} (h : BitVec.ofInt 64 9 &&& BitVec.ofInt 64 n = v) (ha : (a - n) % 16 = 0) (hz : (v.toNat : Int) = z) : IntKind.u64.wrap ((BitVec.ofInt 64 9 &&& BitVec.ofInt 64 a).toNat) = z := by
  rw [and9 ha, h, w_u64, hz]
  have := v.isLt
  omega
end
end Go.Eng
