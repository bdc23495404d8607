/- Layer 19, part N: a number on the stack (plain laws); size64. -/
import Derived.Test.YthfchnaocbkofaaRegM
set_option linter.unusedSimpArgs false
set_option linter.unusedVariables false
set_option maxRecDepth 8000
namespace Go.Proofs.Ythfchnaocbkofaa
open Go.Eng

theorem leN_congr {x y : Nat → Int} : ∀ n, (∀ j, j < n → x j = y j) → leN x n = leN y n
  | 0, _ => rfl
  | n + 1, h => by simp only [leN]; rw [leN_congr n (fun j hj => h j (by omega)), h n (by omega)]

theorem emod_split (x a : Int) (ha : 0 < a) : x % a + x / a % 256 * a = x % (a * 256) := by
  have h1 := Int.emod_nonneg x (Int.ne_of_gt ha)
  have h2 := Int.emod_lt_of_pos x ha
  have h3 : 0 ≤ x / a % 256 := Int.emod_nonneg _ (by omega)
  have h4 : x / a % 256 ≤ 255 := by omega
  have h5 : x / a % 256 * a ≤ 255 * a := Int.mul_le_mul_of_nonneg_right h4 (Int.le_of_lt ha)
  have h6 : 0 ≤ x / a % 256 * a := Int.mul_nonneg h3 (Int.le_of_lt ha)
  have e : x = (x % a + x / a % 256 * a) + (a * 256) * (x / a / 256) := by
    have e1 := Int.emod_add_mul_ediv x a
    have e2 := Int.emod_add_mul_ediv (x / a) 256
    have e3 : a * (x / a) = x / a % 256 * a + (a * 256) * (x / a / 256) := by
      rw [Int.mul_comm (x / a % 256) a, Int.mul_assoc, ← Int.mul_add, e2]
    omega
  have e4 : x % (a * 256) = (x % a + x / a % 256 * a) % (a * 256) := by
    conv => lhs; rw [e]
    rw [Int.add_mul_emod_self_left]
  rw [e4]
  exact (Int.emod_eq_of_lt (by omega) (by omega)).symm

theorem leN_byteN (x : Int) : ∀ n, leN (byteN x) n = x % 256 ^ n
  | 0 => by simp [leN]
  | n + 1 => by
    have hp : (0 : Int) < 256 ^ n := Int.pow_pos (by omega)
    simp only [leN, byteN, leN_byteN x n]
    rw [Int.pow_succ]
    exact emod_split x _ hp

/-- The memory behind a number's save. -/
def numMem (c : Nat → Int) (maps : Value) (o k : Nat) (x : Int) : RMem := mark (withBytes (RMem.fresh c maps) o (o + k) x) o k

theorem num_kept (c : Nat → Int) (maps : Value) (o k : Nat) (x : Int) (q : Nat) : (numMem c maps o k x).kept q = RVal.zero := by
  simp only [numMem, mark, marked, clear, withBytes, RMem.fresh]
  simp [RVal.zero]
theorem num_written (c : Nat → Int) (maps : Value) (o k : Nat) (x : Int) (q : Nat) : (numMem c maps o k x).written q = decide (o ≤ q ∧ q < o + k) := by
  simp only [numMem, mark, marked, clear, withBytes, RMem.fresh]
  by_cases h : o ≤ q ∧ q < o + k <;> simp [h, RVal.zero]
theorem num_stack (c : Nat → Int) (maps : Value) (o k : Nat) (x : Int) (j : Nat) (hj : j < k) : (numMem c maps o k x).stack (o + j) = byteN x j := by
  simp only [numMem, mark, marked, clear, withBytes]
  rw [if_pos (by omega), show o + j - o = j from by omega]
theorem num_ready (c : Nat → Int) (maps : Value) (o k : Nat) (x : Int) (f n : Nat) (h1 : o ≤ f) (h2 : f + n ≤ o + k) : Ready (numMem c maps o k x) f n := by
  intro j g1 g2
  simp only [readyAt, num_kept, num_written]
  simp [RVal.zero]
  omega
theorem num_ok (c : Nat → Int) (maps : Value) (o k : Nat) (x : Int) (hc : ∀ i, 0 ≤ c i ∧ c i ≤ 255) : BytesOk (numMem c maps o k x) := bytesOk_mark (bytesOk_withBytes (bytesOk_fresh _ _ hc) _ _ _) _ _

theorem num_save (c : Nat → Int) (maps : Value) (o k : Nat) (x : Int) (hs : sizeOk k) (ho : o + k ≤ 64) : saveS (RMem.fresh c maps) (o - 64) k ⟨1, x, 0, none⟩ = (numMem c maps o k x, 0) := by
  have hf : ((o : Int) - 64 + 64).toNat = o := by omega
  unfold saveS
  rw [hf, if_pos ⟨hs, by simp, by simp, by omega, by omega⟩, if_pos rfl]
  rfl

theorem num_load (c : Nat → Int) (maps : Value) (o k : Nat) (x : Int) (hx : 0 ≤ x) (hs : sizeOk k) (ho : o + k ≤ 64) :
    loadS (numMem c maps o k x) (o - 64) k = (⟨1, x % 256 ^ k, 0, none⟩, 0) := by
  have hf : ((o : Int) - 64 + 64).toNat = o := by omega
  unfold loadS
  rw [hf, if_pos ⟨hs, by omega, by omega⟩, if_neg (fun h => h.2.2 (by rw [num_kept]; rfl)), if_pos (by simpa using num_ready c maps o k x o k (by omega) (by omega))]
  simp only [Int.toNat_natCast]
  rw [leN_congr (y := byteN x) k (fun j hj => num_stack c maps o k x j hj), leN_byteN x]
theorem num_load1 (c : Nat → Int) (maps : Value) (o k : Nat) (x : Int) (i : Nat) (hi : i < k) (ho : o + k ≤ 64) :
    loadS (numMem c maps o k x) (o - 64 + i) 1 = (⟨1, byteN x i, 0, none⟩, 0) := by
  have hf : ((o : Int) - 64 + i + 64).toNat = o + i := by omega
  unfold loadS
  rw [hf, if_pos ⟨by simp [sizeOk], by omega, by omega⟩, if_neg (by omega), show (1 : Int).toNat = 1 from rfl, if_pos (num_ready c maps o k x (o + i) 1 (by omega) (by omega))]
  have h1 : leN (fun j => (numMem c maps o k x).stack (o + i + j)) 1 = byteN x i := by
    simp only [leN]
    rw [Nat.add_zero, num_stack c maps o k x i hi]
    simp
  exact congrArg (fun z => ((⟨1, z, 0, none⟩ : RVal), (0 : Int))) h1
theorem num_bytes (c : Nat → Int) (maps : Value) (o k : Nat) (x : Int) (ho : o + k ≤ 64) : bytesOkS (numMem c maps o k x) (o - 64) k = true := by
  have hf : ((o : Int) - 64 + 64).toNat = o := by omega
  unfold bytesOkS
  rw [decide_eq_true_eq, hf]
  exact ⟨by omega, by omega, by omega, by simpa using num_ready c maps o k x o k (by omega) (by omega)⟩

end Go.Proofs.Ythfchnaocbkofaa
