/- Symbols (gensy.py). -/
import Derived.Test.YtmpgfgemnhbkhaaGreatDoorEngXW
import Derived.Test.YtmpgfgemnhbkhaaGreatDoorEngXN
import Derived.Test.YtmpgfgemnhbkhaaGreatDoorXgttab
set_option maxRecDepth 100000
set_option linter.unusedVariables false
namespace Go.Proofs.YtmpgfgemnhbkhaaGreatDoor
open Go Go.Eng
namespace gfr_c_0
abbrev H (p : Nat → Int) : Prop := (-9223372036854775808 ≤ p 0 ∧ p 0 ≤ 9223372036854775807) ∧ ((p 0 % 18446744073709551616) % 3 = 0)
def t0 (p : Nat → Int) : Int := p 0
def t1 (p : Nat → Int) : Int := (IntKind.u64.wrap (p 0))
def θ (p : Nat → Int) : Nat → Value := fun j => match j with
  | 0 => .int .i64 (t0 p)
  | 1 => .int .u64 (t1 p)
  | _ => .bool false
theorem plain (p : Nat → Int) : ∀ j, plainV (θ p j) = true := by intro j; unfold θ; split <;> rfl
theorem fs (p : Nat → Int) : (t1 p = (p 0) % 18446744073709551616) := w_u64 _
def r1 : List (U1 × Value × Value) := [((.conv .u64), (.chan (some 0)), (.chan (some 1)))]
theorem hr1 (p : Nat → Int) (h : H p) : ∀ x ∈ r1, Rule1 (θ p) x := by
  obtain ⟨⟨a0, b0⟩, hc0⟩ := h
  obtain f1 := fs p
  intro x hx
  simp only [r1, List.mem_cons, List.not_mem_nil, or_false] at hx
  rcases hx with rfl
  · exact ⟨rfl, rfl, congrArg (fun z => some (Value.int .u64 z)) (show IntKind.u64.wrap (p 0) = (t1 p) from ((w_u64 _).trans (by omega)))⟩
def r2 : List (U2 × Value × Value × Value) := [((.bin .rem), (.chan (some 1)), (.int .u64 3), (.int .u64 0))]
theorem hr2 (p : Nat → Int) (h : H p) : ∀ x ∈ r2, Rule2 (θ p) x := by
  obtain ⟨⟨a0, b0⟩, hc0⟩ := h
  obtain f1 := fs p
  intro x hx
  simp only [r2, List.mem_cons, List.not_mem_nil, or_false] at hx
  rcases hx with rfl
  · exact ⟨rfl, rfl, rfl, by show intBin .rem .u64 (t1 p) .u64 (3) = some (.int .u64 (0)); rw [show intBin .rem .u64 (t1 p) .u64 (3) = if IntKind.u64 = IntKind.u64 ∧ (3) ≠ 0 then some (.int .u64 (Int.tmod (t1 p) (3))) else none from rfl, if_pos ⟨rfl, by omega⟩, Int.tmod_eq_emod_of_nonneg (by omega)]; exact congrArg (fun z => some (Value.int .u64 z)) (by omega)⟩
def re : List (Value × Value × Bool) := []
theorem hre (p : Nat → Int) (h : H p) : ∀ x ∈ re, RuleE (θ p) x := fun x hx => nomatch hx
abbrev sy (p : Nat → Int) (h : H p) : Sy := syOf (θ p) (plain p) r1 r2 re (hr1 p h) (hr2 p h) (hre p h)
end gfr_c_0
namespace gfr_c_1
abbrev H (p : Nat → Int) : Prop := (-9223372036854775808 ≤ p 0 ∧ p 0 ≤ 9223372036854775807) ∧ ((p 0 % 18446744073709551616) % 3 = 1)
def t0 (p : Nat → Int) : Int := p 0
def t1 (p : Nat → Int) : Int := (IntKind.u64.wrap (p 0))
def θ (p : Nat → Int) : Nat → Value := fun j => match j with
  | 0 => .int .i64 (t0 p)
  | 1 => .int .u64 (t1 p)
  | _ => .bool false
theorem plain (p : Nat → Int) : ∀ j, plainV (θ p j) = true := by intro j; unfold θ; split <;> rfl
theorem fs (p : Nat → Int) : (t1 p = (p 0) % 18446744073709551616) := w_u64 _
def r1 : List (U1 × Value × Value) := [((.conv .u64), (.chan (some 0)), (.chan (some 1)))]
theorem hr1 (p : Nat → Int) (h : H p) : ∀ x ∈ r1, Rule1 (θ p) x := by
  obtain ⟨⟨a0, b0⟩, hc0⟩ := h
  obtain f1 := fs p
  intro x hx
  simp only [r1, List.mem_cons, List.not_mem_nil, or_false] at hx
  rcases hx with rfl
  · exact ⟨rfl, rfl, congrArg (fun z => some (Value.int .u64 z)) (show IntKind.u64.wrap (p 0) = (t1 p) from ((w_u64 _).trans (by omega)))⟩
def r2 : List (U2 × Value × Value × Value) := [((.bin .rem), (.chan (some 1)), (.int .u64 3), (.int .u64 1))]
theorem hr2 (p : Nat → Int) (h : H p) : ∀ x ∈ r2, Rule2 (θ p) x := by
  obtain ⟨⟨a0, b0⟩, hc0⟩ := h
  obtain f1 := fs p
  intro x hx
  simp only [r2, List.mem_cons, List.not_mem_nil, or_false] at hx
  rcases hx with rfl
  · exact ⟨rfl, rfl, rfl, by show intBin .rem .u64 (t1 p) .u64 (3) = some (.int .u64 (1)); rw [show intBin .rem .u64 (t1 p) .u64 (3) = if IntKind.u64 = IntKind.u64 ∧ (3) ≠ 0 then some (.int .u64 (Int.tmod (t1 p) (3))) else none from rfl, if_pos ⟨rfl, by omega⟩, Int.tmod_eq_emod_of_nonneg (by omega)]; exact congrArg (fun z => some (Value.int .u64 z)) (by omega)⟩
def re : List (Value × Value × Bool) := []
theorem hre (p : Nat → Int) (h : H p) : ∀ x ∈ re, RuleE (θ p) x := fun x hx => nomatch hx
abbrev sy (p : Nat → Int) (h : H p) : Sy := syOf (θ p) (plain p) r1 r2 re (hr1 p h) (hr2 p h) (hre p h)
end gfr_c_1
namespace gfr_c_2
abbrev H (p : Nat → Int) : Prop := (-9223372036854775808 ≤ p 0 ∧ p 0 ≤ 9223372036854775807) ∧ ((p 0 % 18446744073709551616) % 3 = 2)
def t0 (p : Nat → Int) : Int := p 0
def t1 (p : Nat → Int) : Int := (IntKind.u64.wrap (p 0))
def θ (p : Nat → Int) : Nat → Value := fun j => match j with
  | 0 => .int .i64 (t0 p)
  | 1 => .int .u64 (t1 p)
  | _ => .bool false
theorem plain (p : Nat → Int) : ∀ j, plainV (θ p j) = true := by intro j; unfold θ; split <;> rfl
theorem fs (p : Nat → Int) : (t1 p = (p 0) % 18446744073709551616) := w_u64 _
def r1 : List (U1 × Value × Value) := [((.conv .u64), (.chan (some 0)), (.chan (some 1)))]
theorem hr1 (p : Nat → Int) (h : H p) : ∀ x ∈ r1, Rule1 (θ p) x := by
  obtain ⟨⟨a0, b0⟩, hc0⟩ := h
  obtain f1 := fs p
  intro x hx
  simp only [r1, List.mem_cons, List.not_mem_nil, or_false] at hx
  rcases hx with rfl
  · exact ⟨rfl, rfl, congrArg (fun z => some (Value.int .u64 z)) (show IntKind.u64.wrap (p 0) = (t1 p) from ((w_u64 _).trans (by omega)))⟩
def r2 : List (U2 × Value × Value × Value) := [((.bin .rem), (.chan (some 1)), (.int .u64 3), (.int .u64 2))]
theorem hr2 (p : Nat → Int) (h : H p) : ∀ x ∈ r2, Rule2 (θ p) x := by
  obtain ⟨⟨a0, b0⟩, hc0⟩ := h
  obtain f1 := fs p
  intro x hx
  simp only [r2, List.mem_cons, List.not_mem_nil, or_false] at hx
  rcases hx with rfl
  · exact ⟨rfl, rfl, rfl, by show intBin .rem .u64 (t1 p) .u64 (3) = some (.int .u64 (2)); rw [show intBin .rem .u64 (t1 p) .u64 (3) = if IntKind.u64 = IntKind.u64 ∧ (3) ≠ 0 then some (.int .u64 (Int.tmod (t1 p) (3))) else none from rfl, if_pos ⟨rfl, by omega⟩, Int.tmod_eq_emod_of_nonneg (by omega)]; exact congrArg (fun z => some (Value.int .u64 z)) (by omega)⟩
def re : List (Value × Value × Bool) := []
theorem hre (p : Nat → Int) (h : H p) : ∀ x ∈ re, RuleE (θ p) x := fun x hx => nomatch hx
abbrev sy (p : Nat → Int) (h : H p) : Sy := syOf (θ p) (plain p) r1 r2 re (hr1 p h) (hr2 p h) (hre p h)
end gfr_c_2
end Go.Proofs.YtmpgfgemnhbkhaaGreatDoor
