/- Layer 23: the reference's words. -/
import Derived.Test.YtpannhipchnhaaaGreatDoorAs7
set_option linter.unusedSimpArgs false
set_option linter.unusedVariables false
set_option maxRecDepth 8000
namespace Go.Proofs.YtpannhipchnhaaaGreatDoor
open Go.Eng

theorem t_mod (a b : Nat) : (a : Int).tmod (b : Int) = ((a % b : Nat) : Int) := (Int.ofNat_tmod a b).symm
theorem t_div (a b : Nat) : (a : Int).tdiv (b : Int) = ((a / b : Nat) : Int) := (Int.ofNat_tdiv a b).symm
set_option maxHeartbeats 4000000 in
theorem rOf_T (w0 : World) {op : Nat} (ho : op < 256) : T Tryz.prog w0 27 [.int .u8 op] = some (partsOf op).val :=
  T_of (by kernel_rfl) Tryz.func27 rfl ok_tipstaffref04_Of (by simp) (by simp) fun B hB => by
    have m8 : (op : Int).tmod 8 = ((op % 8 : Nat) : Int) := t_mod op 8
    have d16 : (op : Int).tdiv 16 = ((op / 16 : Nat) : Int) := t_div op 16
    have d8 : (op : Int).tdiv 8 = ((op / 8 : Nat) : Int) := t_div op 8
    have d32 : (op : Int).tdiv 32 = ((op / 32 : Nat) : Int) := t_div op 32
    have w8 : IntKind.u8.wrap ((op / 8 : Nat) : Int) = ((op / 8 : Nat) : Int) := u8w (by omega) (by omega)
    have w16 : IntKind.u8.wrap ((op / 16 : Nat) : Int) = ((op / 16 : Nat) : Int) := u8w (by omega) (by omega)
    have w32 : IntKind.u8.wrap ((op / 32 : Nat) : Int) = ((op / 32 : Nat) : Int) := u8w (by omega) (by omega)
    have m82 : ((op / 8 : Nat) : Int).tmod 2 = ((op / 8 % 2 : Nat) : Int) := t_mod (op / 8) 2
    have m84 : ((op / 8 : Nat) : Int).tmod 4 = ((op / 8 % 4 : Nat) : Int) := t_mod (op / 8) 4
    have v8 : IntKind.i64.wrap ((op % 8 : Nat) : Int) = ((op % 8 : Nat) : Int) := i64w (by omega) (by omega)
    have v16 : IntKind.i64.wrap ((op / 16 : Nat) : Int) = ((op / 16 : Nat) : Int) := i64w (by omega) (by omega)
    have v32 : IntKind.i64.wrap ((op / 32 : Nat) : Int) = ((op / 32 : Nat) : Int) := i64w (by omega) (by omega)
    have c1 : op / 16 = op / 32 * 2 + op / 16 % 2 := by omega
    unfold partsOf partsAlu partsJump partsMem
    have hl : op % 8 < 8 := by omega
    have hr : op / 8 % 2 < 2 := by omega
    have hk : op / 8 % 4 < 4 := by omega
    have hq : op / 16 < 16 := by omega
    have hz : op = 24 → op % 8 = 0 := by omega
    generalize op % 8 = lo at *
    generalize hq16 : op / 16 = q at *
    generalize op / 32 = t at *
    generalize op / 8 % 2 = r at *
    generalize op / 8 % 4 = k at *
    generalize op / 8 = e at *
    have hlo : lo = 0 ∨ lo = 1 ∨ lo = 2 ∨ lo = 3 ∨ lo = 4 ∨ lo = 5 ∨ lo = 6 ∨ lo = 7 := by omega
    have hrr : r = 0 ∨ r = 1 := by omega
    have hkk : k = 0 ∨ k = 1 ∨ k = 2 ∨ k = 3 := by omega
    have i1 : IntKind.i64.wrap 1 = 1 := by decide +kernel
    have i2 : IntKind.i64.wrap 2 = 2 := by decide +kernel
    have i3 : IntKind.i64.wrap 3 = 3 := by decide +kernel
    have i4 : IntKind.i64.wrap 4 = 4 := by decide +kernel
    have i5 : IntKind.i64.wrap 5 = 5 := by decide +kernel
    have i6 : IntKind.i64.wrap 6 = 6 := by decide +kernel
    have i7 : IntKind.i64.wrap 7 = 7 := by decide +kernel
    have iq : 4 ≤ q → IntKind.i64.wrap ((q : Int) - 4) = ((q - 4 : Nat) : Int) := fun h => by rw [i64w (by omega) (by omega)]; omega
    rcases hlo with rfl | rfl | rfl | rfl | rfl | rfl | rfl | rfl
    · by_cases h1 : op = 24
      · subst h1
        simp [c_tipstaffref04_Of, C_cond_eq]
        rfl
      · by_cases h2 : op = 0
        · subst h2
          simp [c_tipstaffref04_Of, C_cond_eq]
          rfl
        · simp [c_tipstaffref04_Of, C_cond_eq, m8, d16, d8, w8, w16, m82, v8, v16, h1, h2, ci_eq, ci_lt, -Int.natCast_ediv, -Int.natCast_emod]
          rfl
    · rcases hkk with rfl | rfl | rfl | rfl <;> by_cases h3 : t = 3 <;> by_cases h6 : t = 6 <;> simp [c_tipstaffref04_Of, C_cond_eq, m8, d16, d8, d32, w8, w16, w32, m82, m84, v8, v16, v32, i1, i2, i3, i4, i5, i6, i7, h3, h6, ci_eq, ci_lt, pickV_bool, sizeAt, -Int.natCast_ediv, -Int.natCast_emod] <;> first | rfl | (exfalso; omega) | trace_state
    · rcases hkk with rfl | rfl | rfl | rfl <;> by_cases h3 : t = 3 <;> by_cases h6 : t = 6 <;> simp [c_tipstaffref04_Of, C_cond_eq, m8, d16, d8, d32, w8, w16, w32, m82, m84, v8, v16, v32, i1, i2, i3, i4, i5, i6, i7, h3, h6, ci_eq, ci_lt, pickV_bool, sizeAt, -Int.natCast_ediv, -Int.natCast_emod] <;> first | rfl | (exfalso; omega) | trace_state
    · rcases hkk with rfl | rfl | rfl | rfl <;> by_cases h3 : t = 3 <;> by_cases h6 : t = 6 <;> simp [c_tipstaffref04_Of, C_cond_eq, m8, d16, d8, d32, w8, w16, w32, m82, m84, v8, v16, v32, i1, i2, i3, i4, i5, i6, i7, h3, h6, ci_eq, ci_lt, pickV_bool, sizeAt, -Int.natCast_ediv, -Int.natCast_emod] <;> first | rfl | (exfalso; omega) | trace_state
    · rcases hrr with rfl | rfl <;> by_cases h12 : 12 < q <;> by_cases h8 : q = 8 <;> simp [c_tipstaffref04_Of, C_cond_eq, m8, d16, d8, w8, w16, m82, v8, v16, i1, i2, i3, i4, i5, i6, i7, h12, h8, ci_eq, ci_lt, -Int.natCast_ediv, -Int.natCast_emod] <;> first | rfl | trace_state
    · rcases hrr with rfl | rfl <;> by_cases h0 : q = 0 <;> by_cases h8 : q = 8 <;> by_cases h9 : q = 9 <;> by_cases h13 : 13 < q <;> simp [c_tipstaffref04_Of, C_cond_eq, m8, d16, d8, w8, w16, m82, v8, v16, i1, i2, i3, i4, i5, i6, i7, h0, h8, h9, h13, ci_eq, ci_lt, -Int.natCast_ediv, -Int.natCast_emod] <;> first | rfl | trace_state
    · rcases hrr with rfl | rfl <;> by_cases h0 : q = 0 <;> by_cases h8 : q = 8 <;> by_cases h9 : q = 9 <;> by_cases h13 : 13 < q <;> simp [c_tipstaffref04_Of, C_cond_eq, m8, d16, d8, w8, w16, m82, v8, v16, i1, i2, i3, i4, i5, i6, i7, h0, h8, h9, h13, ci_eq, ci_lt, -Int.natCast_ediv, -Int.natCast_emod] <;> first | rfl | trace_state
    · rcases hrr with rfl | rfl <;> by_cases h12 : 12 < q <;> by_cases h8 : q = 8 <;> simp [c_tipstaffref04_Of, C_cond_eq, m8, d16, d8, w8, w16, m82, v8, v16, i1, i2, i3, i4, i5, i6, i7, h12, h8, ci_eq, ci_lt, -Int.natCast_ediv, -Int.natCast_emod] <;> first | rfl | trace_state
end Go.Proofs.YtpannhipchnhaaaGreatDoor
