/- Layer 19, part E: numbers as bytes. -/
import Derived.Test.YthfchnaocbkofaaRegD
set_option linter.unusedSimpArgs false
set_option linter.unusedVariables false
set_option maxRecDepth 8000
namespace Go.Proofs.Ythfchnaocbkofaa
open Go.Eng

/-- The number of bytes, the lowest first. -/
def leN (x : Nat → Int) : Nat → Int
  | 0 => 0
  | n + 1 => leN x n + x n * 256 ^ n

theorem leN_bound (x : Nat → Int) (hx : ∀ j, 0 ≤ x j ∧ x j ≤ 255) : ∀ n, 0 ≤ leN x n ∧ leN x n < 256 ^ n
  | 0 => by simp [leN]
  | n + 1 => by
    have h := leN_bound x hx n
    have h2 := hx n
    have hp : (0 : Int) < 256 ^ n := Int.pow_pos (by omega)
    simp only [leN, Int.pow_succ]
    constructor
    · have := Int.mul_nonneg h2.1 (Int.le_of_lt hp); omega
    · have : x n * 256 ^ n ≤ 255 * 256 ^ n := Int.mul_le_mul_of_nonneg_right h2.2 (Int.le_of_lt hp)
      omega

theorem pow_256 (n : Nat) : (2 : Int) ^ (8 * n) = 256 ^ n := by rw [Int.pow_mul]; rfl

/-- Or of two numbers without a common bit. -/
theorem or_add (a c : Int) (n : Nat) (hn : n < 8) (ha0 : 0 ≤ a) (ha : a < 256 ^ n) (hc0 : 0 ≤ c) (hc : c ≤ 255) :
    bitOr .u64 a (c * 256 ^ n) = a + c * 256 ^ n := by
  unfold bitOr
  obtain ⟨a, rfl⟩ := Int.eq_ofNat_of_zero_le ha0
  obtain ⟨c, rfl⟩ := Int.eq_ofNat_of_zero_le hc0
  have h1 : (a : Nat) < 256 ^ n := by exact_mod_cast ha
  have hc' : c ≤ 255 := by omega
  have e : ((c : Int) * 256 ^ n) = ((c * 256 ^ n : Nat) : Int) := by push_cast; rfl
  rw [e]
  have hpow : 256 ^ n ≤ 256 ^ 7 := Nat.pow_le_pow_right (by omega) (by omega)
  have hlt2 : c * 256 ^ n ≤ 255 * 256 ^ 7 := Nat.mul_le_mul hc' hpow
  have hsum : a + c * 256 ^ n < 2 ^ 64 := by
    have : (256 : Nat) ^ 7 = 72057594037927936 := by decide
    omega
  have b1 : (BitVec.ofInt IntKind.u64.bits ((a : Nat) : Int)).toNat = a := by
    rw [BitVec.ofInt_natCast, BitVec.toNat_ofNat]
    exact Nat.mod_eq_of_lt (show a < 2 ^ 64 by omega)
  have b2 : (BitVec.ofInt IntKind.u64.bits ((c * 256 ^ n : Nat) : Int)).toNat = c * 256 ^ n := by
    rw [BitVec.ofInt_natCast, BitVec.toNat_ofNat]
    exact Nat.mod_eq_of_lt (show c * 256 ^ n < 2 ^ 64 by omega)
  rw [BitVec.toNat_or, b1, b2]
  have h256 : (256 : Nat) ^ n = 2 ^ (8 * n) := by rw [Nat.pow_mul]
  have hor : a ||| c * 256 ^ n = a + c * 256 ^ n := by
    rw [h256] at h1 ⊢
    rw [Nat.or_comm, ← Nat.shiftLeft_eq, ← Nat.shiftLeft_add_eq_or_of_lt h1]
    omega
  rw [hor, u64w (by omega) (by have : (2 : Nat) ^ 64 = 18446744073709551616 := by decide
                               omega)]
  push_cast
  rfl

theorem little_ret (b o n c : Nat) (x : Nat → Int) (w : World) (hn : n ≤ 8) (hx : ∀ j, 0 ≤ x j ∧ x j ≤ 255) (hc : ∀ j, j < n → wcell w b (o + j) = some (.int .u8 (x j))) :
    Ret Try.prog 30 [.slice (some ⟨b, o, none⟩) n c] w fun v w' => w' = w ∧ v = .int .u64 (leN x n) := by
  refine ret_of_W Try.func30 rfl ok_region_little ?_
  simp [c_region_little]
  refine W_loop (fun env w' => w' = w ∧ ∃ i : Nat, env = [undef, undef, .int .u64 (leN x i), .int .i64 i, .int .i64 n, .slice (some ⟨b, o, none⟩) n c, undef, undef] ∧ i ≤ n)
    (fun env _ => n - natAt env 3) ?_ ?_
  · exact ⟨rfl, 0, by simp [leN], by omega⟩
  · rintro env w' ⟨rfl, i, rfl, h1⟩
    by_cases hi : i < n
    · simp
      refine W_yes (by simp; omega) ?_
      have e2 : IntKind.i64.wrap ((i : Int) + 1) = ((i + 1 : Nat) : Int) := i64w (by omega) (by omega)
      have e3 : IntKind.i64.wrap (8 * (i : Int)) = 8 * (i : Int) := i64w (by omega) (by omega)
      have hxi := hx i
      have hb := leN_bound x hx i
      have e4 : IntKind.u64.wrap (x i) = x i := u64w (by omega) (by omega)
      have e5 : min (8 * (i : Int)).toNat IntKind.u64.bits = 8 * i := by
        have : IntKind.u64.bits = 64 := rfl
        omega
      have e6 : IntKind.u64.wrap (x i * 256 ^ i) = x i * 256 ^ i := by
        have h2 := leN_bound x hx (i + 1)
        simp only [leN] at h2
        have : (256 : Int) ^ (i + 1) ≤ 256 ^ 8 := by exact_mod_cast Nat.pow_le_pow_right (n := 256) (by omega) (show i + 1 ≤ 8 by omega)
        have hp : (0 : Int) < 256 ^ i := Int.pow_pos (by omega)
        have := Int.mul_nonneg hxi.1 (Int.le_of_lt hp)
        have h8 : (256 : Int) ^ 8 = 18446744073709551616 := by decide
        exact u64w (by omega) (by omega)
      simp [hi, hc i hi, e3, e4]
      rw [intBin_shl _ _ _ _ (by omega), e5, pow_256, e6]
      simp
      rw [or_add _ _ _ (by omega) hb.1 hb.2 hxi.1 hxi.2]
      refine ⟨⟨i + 1, ⟨by simp [leN], e2⟩, by omega⟩, by simp [natAt, e2]; omega⟩
    · simp
      refine W_no (by simp; omega) ?_
      have : i = n := by omega
      subst this
      simp
end Go.Proofs.Ythfchnaocbkofaa
