/- Engine, part XT: what is read of arguments that are taken modulo. -/
import Derived.Test.YtkgpmjjleemdlaaGreatEngXS
set_option linter.unusedSimpArgs false
set_option linter.unusedVariables false
set_option linter.unusedSectionVars false
namespace Go.Eng
/-- int(uint64(x) % m). -/
abbrev pMod (i : Nat) (m : Int) : Ex := .conv .i64 (.bin .rem (.conv .u64 (.var i)) (.const (.int .u64 m)))
/-- x % m, of bytes. -/
abbrev pMod8 (i : Nat) (m : Int) : Ex := .bin .rem (.var i) (.const (.int .u8 m))
theorem ev_var {env : Env} {i : Nat} {v : Value} (h : env[i]? = some v) (hv : isUndef v = false) (w : World) : (Ex.var i).ev env w = some v := by
  simp only [Ex.ev, h, Option.bind_some, varV, hv]; rfl
/-- What is left of x modulo m. -/
def res64 (n : Int) (m : Nat) : Nat := ((n % 18446744073709551616) % m).toNat
theorem res64_lt (n : Int) {m : Nat} (hm : 0 < m) : res64 n m < m := by
  have h4 : (n % 18446744073709551616) % (m : Int) < m := Int.emod_lt_of_pos _ (by omega)
  have h3 : 0 ≤ (n % 18446744073709551616) % (m : Int) := Int.emod_nonneg _ (by omega)
  unfold res64; omega
theorem ev_pMod {env : Env} {i : Nat} {n : Int} {m : Nat} (h : env[i]? = some (.int .i64 n)) (hm : 0 < m) (hm2 : m < 9223372036854775808) (w : World) : (pMod i (m : Int)).ev env w = some (.int .i64 (Int.ofNat (res64 n m))) := by
  have h1 : IntKind.u64.wrap n = n % 18446744073709551616 := by
    simp [IntKind.wrap, IntKind.bits, IntKind.signed]
  have h0 : 0 ≤ n % 18446744073709551616 := Int.emod_nonneg _ (by decide)
  have h2 : (n % 18446744073709551616).tmod (m : Int) = (n % 18446744073709551616) % m := Int.tmod_eq_emod_of_nonneg h0
  have h3 : 0 ≤ (n % 18446744073709551616) % (m : Int) := Int.emod_nonneg _ (by omega)
  have h4 : (n % 18446744073709551616) % (m : Int) < m := Int.emod_lt_of_pos _ (by omega)
  have h5 : IntKind.i64.wrap ((n % 18446744073709551616) % (m : Int)) = (n % 18446744073709551616) % (m : Int) := by
    generalize (n % 18446744073709551616) % (m : Int) = x at h3 h4
    have e : x % 2 ^ 64 = x := Int.emod_eq_of_lt h3 (by omega)
    simp only [IntKind.wrap, IntKind.bits, IntKind.signed, e]
    rw [if_neg]
    simp; omega
  have hne : (m : Int) ≠ 0 := by omega
  simp only [Ex.ev, h, Option.bind_some, varV, isUndef, U1.ap, convV, U2.ap, binV, intBin, h1, h2, hne, ne_eq, not_false_eq_true, and_self, if_true, h5]
  simp only [Bool.false_eq_true, if_false, Option.bind_some, convV, binV, intBin, h1, h2, hne, ne_eq, not_false_eq_true, and_self, if_true, h5, res64]
  congr 2
  exact (Int.toNat_of_nonneg h3).symm
theorem ev_pMod8 {env : Env} {i : Nat} {n : Int} {m : Nat} (h : env[i]? = some (.int .u8 n)) (h0 : 0 ≤ n) (hm : 0 < m) (w : World) : (pMod8 i (m : Int)).ev env w = some (.int .u8 (Int.ofNat (n % m).toNat)) := by
  have h2 : n.tmod (m : Int) = n % m := Int.tmod_eq_emod_of_nonneg h0
  have h3 : 0 ≤ n % (m : Int) := Int.emod_nonneg _ (by omega)
  have hne : (m : Int) ≠ 0 := by omega
  simp only [Ex.ev, h, Option.bind_some, varV, isUndef, U2.ap, binV, intBin, h2, hne, ne_eq, not_false_eq_true, and_self, if_true]
  simp only [Bool.false_eq_true, if_false, Option.bind_some, binV, intBin, h2, hne, ne_eq, not_false_eq_true, and_self, if_true]
  congr 2
  exact (Int.toNat_of_nonneg h3).symm
end Go.Eng
