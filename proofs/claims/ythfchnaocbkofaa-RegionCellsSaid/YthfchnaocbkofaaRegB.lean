/- Layer 19, part B: views, readiness, marks. -/
import Derived.Test.YthfchnaocbkofaaRegA
set_option linter.unusedSimpArgs false
set_option linter.unusedVariables false
namespace Go.Proofs.Ythfchnaocbkofaa
open Go.Eng

/-- Where a region's bytes lie: nothing, or a slice, and how far below its first place nought is. -/
def regionOf (b : Nat) (w : World) (a : RVal) : Value × Int :=
  if a.tag = 2 then (.slice (some ⟨b, 0, none⟩) 32 32, 0)
  else if a.tag = 3 then (.slice (some ⟨b, 32, none⟩) 64 64, 64)
  else (.slice none 0 0, 0)

theorem bytes_stack (b : Nat) (a : RVal) (w : World) (ha : a.tag = 3) : Ret Try.prog 47 [.pointer (some ⟨b, 0, none⟩), a.val] w
    fun v w' => v = .tuple #[.slice (some ⟨b, 32, none⟩) 64 64, .int .i64 64] ∧ Kept none' w w' := by
  refine ret_of_W Try.func47 rfl ok_region_Memory_bytes ?_
  simp [c_region_Memory_bytes, ha]
  refine W_no (by simp) ?_
  simp
  refine W_yes (by simp) ?_
  simp
  exact (Kept.refl _ _).alloc _

theorem bytes_ctx (b : Nat) (a : RVal) (w : World) (ha : a.tag = 2) : Ret Try.prog 47 [.pointer (some ⟨b, 0, none⟩), a.val] w
    fun v w' => v = .tuple #[.slice (some ⟨b, 0, none⟩) 32 32, .int .i64 0] ∧ Kept none' w w' := by
  refine ret_of_W Try.func47 rfl ok_region_Memory_bytes ?_
  simp [c_region_Memory_bytes, ha]
  refine W_yes (by simp) ?_
  simp
  exact (Kept.refl _ _).alloc _

/-- View of the stack or the context: the place is that of the value and the offset together. -/
theorem view_ret (len below base : Nat) (b : Nat) (a : RVal) (off n : Int) (w : World) (hl : len ≤ 64) (hb : below ≤ 64) (ho1 : -9223372036854775808 ≤ off) (ho2 : off ≤ 9223372036854775807) (hn0 : 0 ≤ n) (hn : n ≤ 140737488351232)
    (hbytes : ∀ w, Ret Try.prog 47 [.pointer (some ⟨b, 0, none⟩), a.val] w
      fun v w' => v = .tuple #[.slice (some ⟨b, base, none⟩) len len, .int .i64 below] ∧ Kept none' w w') :
    Ret Try.prog 27 [.pointer (some ⟨b, 0, none⟩), a.val, .int .i64 off, .int .i64 n] w fun v w' => Kept none' w w' ∧
      (if -(below : Int) ≤ IntKind.i64.wrap a.n + off ∧ IntKind.i64.wrap a.n + off + n ≤ len - below then
        ∃ f : Nat, (f : Int) = IntKind.i64.wrap a.n + off + below ∧
          v = .tuple #[.slice (some (if len = f then ⟨b, base, none⟩ else ⟨b, base + f, none⟩)) n.toNat (len - f), .int .i64 f, .bool true]
       else v = .tuple #[.slice none 0 0, .int .i64 0, .bool false]) := by
  refine ret_of_W Try.func27 rfl ok_region_Memory_view ?_
  have k1 := i64_lo a.n
  have k2 := i64_hi a.n
  simp [c_region_Memory_view]
  refine W_no (by simp) ?_
  simp
  refine W_call0 (by simp) (hbytes _) ?_
  rintro v w1 ⟨rfl, hk⟩
  have h7 := hk.has (hp_new w _) (fun h => h)
  simp
  refine W_call0 (by simp [wcell_of h7]) (plus_ret (IntKind.i64.wrap a.n) off _) ?_
  rintro v w2 ⟨rfl, rfl⟩
  have hkk : Kept none' w w2 := ((Kept.refl _ _).alloc _).trans (hk.mono fun _ _ h => h)
  simp
  generalize hN : IntKind.i64.wrap a.n = N at *
  by_cases hin : -(below : Int) ≤ N + off ∧ N + off + n ≤ len - below
  · have e1 : IntKind.i64.wrap (N + off) = N + off := i64w (by omega) (by omega)
    have e2 : IntKind.i64.wrap (len - below) = (len : Int) - below := i64w (by omega) (by omega)
    have e3 : IntKind.i64.wrap ((len : Int) - below - n) = (len : Int) - below - n := i64w (by omega) (by omega)
    have e4 : IntKind.i64.wrap (-(below : Int)) = -(below : Int) := i64w (by omega) (by omega)
    have e5 : IntKind.i64.wrap (N + off + below) = N + off + below := i64w (by omega) (by omega)
    have e6 : IntKind.i64.wrap (N + off + below + n) = N + off + below + n := i64w (by omega) (by omega)
    have hok : (decide (N < 0) != decide (off < 0) || (decide (N + off < 0) == decide (N < 0))) = true := by
      by_cases h1 : N < 0 <;> by_cases h2 : off < 0 <;> simp [h1, h2] <;> omega
    refine W_no ?_ ?_
    · simp [e1, e2, e3, e4]
      omega
    simp [e1, e5, e6]
    have hf : ∃ f : Nat, (f : Int) = N + off + below := ⟨(N + off + below).toNat, by omega⟩
    obtain ⟨f, hf⟩ := hf
    rw [← hf]
    simp
    rw [if_pos (by omega)]
    simp
    exact ⟨hkk, hin, f, rfl, ⟨rfl, by omega, rfl⟩, rfl⟩
  · refine W_yes ?_ ?_
    · simp
      simp (disch := omega) only [i64w]
      by_cases h1 : N + off < -9223372036854775808
      · refine .inl (.inl ?_)
        have := IntKind.wrap_i64 (N + off)
        omega
      · by_cases h2 : 9223372036854775807 < N + off
        · refine .inl (.inl ?_)
          have := IntKind.wrap_i64 (N + off)
          omega
        · simp (disch := omega) only [i64w]
          omega
    simp
    exact ⟨hkk, fun h1 => by omega⟩

theorem view_stack (b : Nat) (a : RVal) (off n : Int) (w : World) (ha : a.tag = 3) (ho1 : -9223372036854775808 ≤ off) (ho2 : off ≤ 9223372036854775807) (hn0 : 0 ≤ n) (hn : n ≤ 140737488351232) :
    Ret Try.prog 27 [.pointer (some ⟨b, 0, none⟩), a.val, .int .i64 off, .int .i64 n] w fun v w' => Kept none' w w' ∧
      (if -64 ≤ IntKind.i64.wrap a.n + off ∧ IntKind.i64.wrap a.n + off + n ≤ 0 then
        ∃ f : Nat, (f : Int) = IntKind.i64.wrap a.n + off + 64 ∧
          v = .tuple #[.slice (some (if 64 = f then ⟨b, 32, none⟩ else ⟨b, 32 + f, none⟩)) n.toNat (64 - f), .int .i64 f, .bool true]
       else v = .tuple #[.slice none 0 0, .int .i64 0, .bool false]) :=
  view_ret 64 64 32 b a off n w (by omega) (by omega) ho1 ho2 hn0 hn (fun w => bytes_stack b a w ha)

theorem view_ctx (b : Nat) (a : RVal) (off n : Int) (w : World) (ha : a.tag = 2) (ho1 : -9223372036854775808 ≤ off) (ho2 : off ≤ 9223372036854775807) (hn0 : 0 ≤ n) (hn : n ≤ 140737488351232) :
    Ret Try.prog 27 [.pointer (some ⟨b, 0, none⟩), a.val, .int .i64 off, .int .i64 n] w fun v w' => Kept none' w w' ∧
      (if 0 ≤ IntKind.i64.wrap a.n + off ∧ IntKind.i64.wrap a.n + off + n ≤ 32 then
        ∃ f : Nat, (f : Int) = IntKind.i64.wrap a.n + off ∧
          v = .tuple #[.slice (some (if 32 = f then ⟨b, 0, none⟩ else ⟨b, 0 + f, none⟩)) n.toNat (32 - f), .int .i64 f, .bool true]
       else v = .tuple #[.slice none 0 0, .int .i64 0, .bool false]) := by
  have h := view_ret 32 0 0 b a off n w (by omega) (by omega) ho1 ho2 hn0 hn (fun w => bytes_ctx b a w ha)
  simpa using h
end Go.Proofs.Ythfchnaocbkofaa
