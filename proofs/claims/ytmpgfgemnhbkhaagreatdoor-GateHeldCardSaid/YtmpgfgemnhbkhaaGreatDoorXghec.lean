/- GateHeld: symbols (mkheld.py). -/
import Derived.Test.YtmpgfgemnhbkhaaGreatDoorEngXY
import Derived.Test.YtmpgfgemnhbkhaaGreatDoorEngXN
import Derived.Test.YtmpgfgemnhbkhaaGreatDoorXghtab
set_option maxRecDepth 100000
set_option linter.unusedVariables false
namespace Go.Proofs.YtmpgfgemnhbkhaaGreatDoor
open Go Go.Eng
namespace ghe_o_0
abbrev H (p : Nat → Int) : Prop := (-9223372036854775808 ≤ p 0 ∧ p 0 ≤ 9223372036854775807) ∧ ((p 0 % 18446744073709551616) % 3 = 0)
def t0 (p : Nat → Int) : Int := p 0
def t1 (p : Nat → Int) : Int := (IntKind.u64.wrap (p 0))
def θ (p : Nat → Int) : Nat → Value := fun j => match j with
  | 0 => .int .i64 (t0 p)
  | 1 => .int .u64 (t1 p)
  | _ => .bool false
theorem plain (p : Nat → Int) : ∀ j, plainV (θ p j) = true := by intro j; unfold θ; split <;> rfl
theorem fs (p : Nat → Int) : (t1 p = (p 0) % 18446744073709551616) := w_u64 _
def r1 : List (U1 × Value × Value) := [((.conv .u64), (.chan (some 0)), (.chan (some 1)))]
theorem hr1 (p : Nat → Int) (h : H p) : ∀ x ∈ r1, Rule1 (θ p) x := by
  obtain ⟨⟨a0, b0⟩, hc0⟩ := h
  obtain f1 := fs p
  intro x hx
  simp only [r1, List.mem_cons, List.not_mem_nil, or_false] at hx
  rcases hx with rfl
  · exact ⟨rfl, rfl, congrArg (fun z => some (Value.int .u64 z)) (show IntKind.u64.wrap (p 0) = (t1 p) from ((w_u64 _).trans (by omega)))⟩
def r2 : List (U2 × Value × Value × Value) := [((.bin .rem), (.chan (some 1)), (.int .u64 3), (.int .u64 0))]
theorem hr2 (p : Nat → Int) (h : H p) : ∀ x ∈ r2, Rule2 (θ p) x := by
  obtain ⟨⟨a0, b0⟩, hc0⟩ := h
  obtain f1 := fs p
  intro x hx
  simp only [r2, List.mem_cons, List.not_mem_nil, or_false] at hx
  rcases hx with rfl
  · exact ⟨rfl, rfl, rfl, by show intBin .rem .u64 (t1 p) .u64 (3) = some (.int .u64 (0)); rw [show intBin .rem .u64 (t1 p) .u64 (3) = if IntKind.u64 = IntKind.u64 ∧ (3) ≠ 0 then some (.int .u64 (Int.tmod (t1 p) (3))) else none from rfl, if_pos ⟨rfl, by omega⟩, Int.tmod_eq_emod_of_nonneg (by omega)]; exact congrArg (fun z => some (Value.int .u64 z)) (by omega)⟩
def re : List (Value × Value × Bool) := []
theorem hre (p : Nat → Int) (h : H p) : ∀ x ∈ re, RuleE (θ p) x := fun x hx => nomatch hx
noncomputable abbrev sy (p : Nat → Int) (h : H p) : Sy := syOf (θ p) (plain p) r1 r2 re (hr1 p h) (hr2 p h) (hre p h)
abbrev R : RowS := (.int .i64 1, [.chan (some 0)])
noncomputable abbrev syR (p : Nat → Int) (h : H p) (D : List RowD) (hf : Fits (θ p) [R] D) : Sy := syRows (θ p) (plain p) r1 r2 re (hr1 p h) (hr2 p h) (hre p h) rfl rfl rfl [R] D hf
end ghe_o_0
namespace ghe_o_1
abbrev H (p : Nat → Int) : Prop := (-9223372036854775808 ≤ p 0 ∧ p 0 ≤ 9223372036854775807) ∧ ((p 0 % 18446744073709551616) % 3 = 1)
def t0 (p : Nat → Int) : Int := p 0
def t1 (p : Nat → Int) : Int := (IntKind.u64.wrap (p 0))
def θ (p : Nat → Int) : Nat → Value := fun j => match j with
  | 0 => .int .i64 (t0 p)
  | 1 => .int .u64 (t1 p)
  | _ => .bool false
theorem plain (p : Nat → Int) : ∀ j, plainV (θ p j) = true := by intro j; unfold θ; split <;> rfl
theorem fs (p : Nat → Int) : (t1 p = (p 0) % 18446744073709551616) := w_u64 _
def r1 : List (U1 × Value × Value) := [((.conv .u64), (.chan (some 0)), (.chan (some 1)))]
theorem hr1 (p : Nat → Int) (h : H p) : ∀ x ∈ r1, Rule1 (θ p) x := by
  obtain ⟨⟨a0, b0⟩, hc0⟩ := h
  obtain f1 := fs p
  intro x hx
  simp only [r1, List.mem_cons, List.not_mem_nil, or_false] at hx
  rcases hx with rfl
  · exact ⟨rfl, rfl, congrArg (fun z => some (Value.int .u64 z)) (show IntKind.u64.wrap (p 0) = (t1 p) from ((w_u64 _).trans (by omega)))⟩
def r2 : List (U2 × Value × Value × Value) := [((.bin .rem), (.chan (some 1)), (.int .u64 3), (.int .u64 1))]
theorem hr2 (p : Nat → Int) (h : H p) : ∀ x ∈ r2, Rule2 (θ p) x := by
  obtain ⟨⟨a0, b0⟩, hc0⟩ := h
  obtain f1 := fs p
  intro x hx
  simp only [r2, List.mem_cons, List.not_mem_nil, or_false] at hx
  rcases hx with rfl
  · exact ⟨rfl, rfl, rfl, by show intBin .rem .u64 (t1 p) .u64 (3) = some (.int .u64 (1)); rw [show intBin .rem .u64 (t1 p) .u64 (3) = if IntKind.u64 = IntKind.u64 ∧ (3) ≠ 0 then some (.int .u64 (Int.tmod (t1 p) (3))) else none from rfl, if_pos ⟨rfl, by omega⟩, Int.tmod_eq_emod_of_nonneg (by omega)]; exact congrArg (fun z => some (Value.int .u64 z)) (by omega)⟩
def re : List (Value × Value × Bool) := []
theorem hre (p : Nat → Int) (h : H p) : ∀ x ∈ re, RuleE (θ p) x := fun x hx => nomatch hx
noncomputable abbrev sy (p : Nat → Int) (h : H p) : Sy := syOf (θ p) (plain p) r1 r2 re (hr1 p h) (hr2 p h) (hre p h)
abbrev R : RowS := (.int .i64 1, [.chan (some 0)])
noncomputable abbrev syR (p : Nat → Int) (h : H p) (D : List RowD) (hf : Fits (θ p) [R] D) : Sy := syRows (θ p) (plain p) r1 r2 re (hr1 p h) (hr2 p h) (hre p h) rfl rfl rfl [R] D hf
end ghe_o_1
namespace ghe_o_2
abbrev H (p : Nat → Int) : Prop := (-9223372036854775808 ≤ p 0 ∧ p 0 ≤ 9223372036854775807) ∧ ((p 0 % 18446744073709551616) % 3 = 2)
def t0 (p : Nat → Int) : Int := p 0
def t1 (p : Nat → Int) : Int := (IntKind.u64.wrap (p 0))
def θ (p : Nat → Int) : Nat → Value := fun j => match j with
  | 0 => .int .i64 (t0 p)
  | 1 => .int .u64 (t1 p)
  | _ => .bool false
theorem plain (p : Nat → Int) : ∀ j, plainV (θ p j) = true := by intro j; unfold θ; split <;> rfl
theorem fs (p : Nat → Int) : (t1 p = (p 0) % 18446744073709551616) := w_u64 _
def r1 : List (U1 × Value × Value) := [((.conv .u64), (.chan (some 0)), (.chan (some 1)))]
theorem hr1 (p : Nat → Int) (h : H p) : ∀ x ∈ r1, Rule1 (θ p) x := by
  obtain ⟨⟨a0, b0⟩, hc0⟩ := h
  obtain f1 := fs p
  intro x hx
  simp only [r1, List.mem_cons, List.not_mem_nil, or_false] at hx
  rcases hx with rfl
  · exact ⟨rfl, rfl, congrArg (fun z => some (Value.int .u64 z)) (show IntKind.u64.wrap (p 0) = (t1 p) from ((w_u64 _).trans (by omega)))⟩
def r2 : List (U2 × Value × Value × Value) := [((.bin .rem), (.chan (some 1)), (.int .u64 3), (.int .u64 2))]
theorem hr2 (p : Nat → Int) (h : H p) : ∀ x ∈ r2, Rule2 (θ p) x := by
  obtain ⟨⟨a0, b0⟩, hc0⟩ := h
  obtain f1 := fs p
  intro x hx
  simp only [r2, List.mem_cons, List.not_mem_nil, or_false] at hx
  rcases hx with rfl
  · exact ⟨rfl, rfl, rfl, by show intBin .rem .u64 (t1 p) .u64 (3) = some (.int .u64 (2)); rw [show intBin .rem .u64 (t1 p) .u64 (3) = if IntKind.u64 = IntKind.u64 ∧ (3) ≠ 0 then some (.int .u64 (Int.tmod (t1 p) (3))) else none from rfl, if_pos ⟨rfl, by omega⟩, Int.tmod_eq_emod_of_nonneg (by omega)]; exact congrArg (fun z => some (Value.int .u64 z)) (by omega)⟩
def re : List (Value × Value × Bool) := []
theorem hre (p : Nat → Int) (h : H p) : ∀ x ∈ re, RuleE (θ p) x := fun x hx => nomatch hx
noncomputable abbrev sy (p : Nat → Int) (h : H p) : Sy := syOf (θ p) (plain p) r1 r2 re (hr1 p h) (hr2 p h) (hre p h)
abbrev R : RowS := (.int .i64 1, [.chan (some 0)])
noncomputable abbrev syR (p : Nat → Int) (h : H p) (D : List RowD) (hf : Fits (θ p) [R] D) : Sy := syRows (θ p) (plain p) r1 r2 re (hr1 p h) (hr2 p h) (hre p h) rfl rfl rfl [R] D hf
end ghe_o_2
namespace ghe_w_0_0
abbrev H (p : Nat → Int) : Prop := (-9223372036854775808 ≤ p 0 ∧ p 0 ≤ 9223372036854775807) ∧ (-9223372036854775808 ≤ p 1 ∧ p 1 ≤ 9223372036854775807) ∧ ((p 0 % 18446744073709551616) % 3 = 0) ∧ ((p 1 % 18446744073709551616) % 2 = 0)
def t0 (p : Nat → Int) : Int := p 0
def t1 (p : Nat → Int) : Int := p 1
def t2 (p : Nat → Int) : Int := (IntKind.u64.wrap (p 0))
def t3 (p : Nat → Int) : Int := (IntKind.u64.wrap (p 1))
def θ (p : Nat → Int) : Nat → Value := fun j => match j with
  | 0 => .int .i64 (t0 p)
  | 1 => .int .i64 (t1 p)
  | 2 => .int .u64 (t2 p)
  | 3 => .int .u64 (t3 p)
  | _ => .bool false
theorem plain (p : Nat → Int) : ∀ j, plainV (θ p j) = true := by intro j; unfold θ; split <;> rfl
theorem fs (p : Nat → Int) : (t2 p = (p 0) % 18446744073709551616) ∧ (t3 p = (p 1) % 18446744073709551616) := ⟨w_u64 _, w_u64 _⟩
def r1 : List (U1 × Value × Value) := [((.conv .u64), (.chan (some 0)), (.chan (some 2))), ((.conv .u64), (.chan (some 1)), (.chan (some 3)))]
theorem hr1 (p : Nat → Int) (h : H p) : ∀ x ∈ r1, Rule1 (θ p) x := by
  obtain ⟨⟨a0, b0⟩, ⟨a1, b1⟩, hc0, hc1⟩ := h
  obtain ⟨f2, f3⟩ := fs p
  intro x hx
  simp only [r1, List.mem_cons, List.not_mem_nil, or_false] at hx
  rcases hx with rfl | rfl
  · exact ⟨rfl, rfl, congrArg (fun z => some (Value.int .u64 z)) (show IntKind.u64.wrap (p 0) = (t2 p) from ((w_u64 _).trans (by omega)))⟩
  · exact ⟨rfl, rfl, congrArg (fun z => some (Value.int .u64 z)) (show IntKind.u64.wrap (p 1) = (t3 p) from ((w_u64 _).trans (by omega)))⟩
def r2 : List (U2 × Value × Value × Value) := [((.bin .rem), (.chan (some 2)), (.int .u64 3), (.int .u64 0)), ((.bin .rem), (.chan (some 3)), (.int .u64 2), (.int .u64 0))]
theorem hr2 (p : Nat → Int) (h : H p) : ∀ x ∈ r2, Rule2 (θ p) x := by
  obtain ⟨⟨a0, b0⟩, ⟨a1, b1⟩, hc0, hc1⟩ := h
  obtain ⟨f2, f3⟩ := fs p
  intro x hx
  simp only [r2, List.mem_cons, List.not_mem_nil, or_false] at hx
  rcases hx with rfl | rfl
  · exact ⟨rfl, rfl, rfl, by show intBin .rem .u64 (t2 p) .u64 (3) = some (.int .u64 (0)); rw [show intBin .rem .u64 (t2 p) .u64 (3) = if IntKind.u64 = IntKind.u64 ∧ (3) ≠ 0 then some (.int .u64 (Int.tmod (t2 p) (3))) else none from rfl, if_pos ⟨rfl, by omega⟩, Int.tmod_eq_emod_of_nonneg (by omega)]; exact congrArg (fun z => some (Value.int .u64 z)) (by omega)⟩
  · exact ⟨rfl, rfl, rfl, by show intBin .rem .u64 (t3 p) .u64 (2) = some (.int .u64 (0)); rw [show intBin .rem .u64 (t3 p) .u64 (2) = if IntKind.u64 = IntKind.u64 ∧ (2) ≠ 0 then some (.int .u64 (Int.tmod (t3 p) (2))) else none from rfl, if_pos ⟨rfl, by omega⟩, Int.tmod_eq_emod_of_nonneg (by omega)]; exact congrArg (fun z => some (Value.int .u64 z)) (by omega)⟩
def re : List (Value × Value × Bool) := []
theorem hre (p : Nat → Int) (h : H p) : ∀ x ∈ re, RuleE (θ p) x := fun x hx => nomatch hx
noncomputable abbrev sy (p : Nat → Int) (h : H p) : Sy := syOf (θ p) (plain p) r1 r2 re (hr1 p h) (hr2 p h) (hre p h)
abbrev R : RowS := (.int .i64 2, [.chan (some 0), .chan (some 1)])
noncomputable abbrev syR (p : Nat → Int) (h : H p) (D : List RowD) (hf : Fits (θ p) [R] D) : Sy := syRows (θ p) (plain p) r1 r2 re (hr1 p h) (hr2 p h) (hre p h) rfl rfl rfl [R] D hf
end ghe_w_0_0
namespace ghe_w_0_1
abbrev H (p : Nat → Int) : Prop := (-9223372036854775808 ≤ p 0 ∧ p 0 ≤ 9223372036854775807) ∧ (-9223372036854775808 ≤ p 1 ∧ p 1 ≤ 9223372036854775807) ∧ ((p 0 % 18446744073709551616) % 3 = 0) ∧ ((p 1 % 18446744073709551616) % 2 = 1)
def t0 (p : Nat → Int) : Int := p 0
def t1 (p : Nat → Int) : Int := p 1
def t2 (p : Nat → Int) : Int := (IntKind.u64.wrap (p 0))
def t3 (p : Nat → Int) : Int := (IntKind.u64.wrap (p 1))
def θ (p : Nat → Int) : Nat → Value := fun j => match j with
  | 0 => .int .i64 (t0 p)
  | 1 => .int .i64 (t1 p)
  | 2 => .int .u64 (t2 p)
  | 3 => .int .u64 (t3 p)
  | _ => .bool false
theorem plain (p : Nat → Int) : ∀ j, plainV (θ p j) = true := by intro j; unfold θ; split <;> rfl
theorem fs (p : Nat → Int) : (t2 p = (p 0) % 18446744073709551616) ∧ (t3 p = (p 1) % 18446744073709551616) := ⟨w_u64 _, w_u64 _⟩
def r1 : List (U1 × Value × Value) := [((.conv .u64), (.chan (some 0)), (.chan (some 2))), ((.conv .u64), (.chan (some 1)), (.chan (some 3)))]
theorem hr1 (p : Nat → Int) (h : H p) : ∀ x ∈ r1, Rule1 (θ p) x := by
  obtain ⟨⟨a0, b0⟩, ⟨a1, b1⟩, hc0, hc1⟩ := h
  obtain ⟨f2, f3⟩ := fs p
  intro x hx
  simp only [r1, List.mem_cons, List.not_mem_nil, or_false] at hx
  rcases hx with rfl | rfl
  · exact ⟨rfl, rfl, congrArg (fun z => some (Value.int .u64 z)) (show IntKind.u64.wrap (p 0) = (t2 p) from ((w_u64 _).trans (by omega)))⟩
  · exact ⟨rfl, rfl, congrArg (fun z => some (Value.int .u64 z)) (show IntKind.u64.wrap (p 1) = (t3 p) from ((w_u64 _).trans (by omega)))⟩
def r2 : List (U2 × Value × Value × Value) := [((.bin .rem), (.chan (some 2)), (.int .u64 3), (.int .u64 0)), ((.bin .rem), (.chan (some 3)), (.int .u64 2), (.int .u64 1))]
theorem hr2 (p : Nat → Int) (h : H p) : ∀ x ∈ r2, Rule2 (θ p) x := by
  obtain ⟨⟨a0, b0⟩, ⟨a1, b1⟩, hc0, hc1⟩ := h
  obtain ⟨f2, f3⟩ := fs p
  intro x hx
  simp only [r2, List.mem_cons, List.not_mem_nil, or_false] at hx
  rcases hx with rfl | rfl
  · exact ⟨rfl, rfl, rfl, by show intBin .rem .u64 (t2 p) .u64 (3) = some (.int .u64 (0)); rw [show intBin .rem .u64 (t2 p) .u64 (3) = if IntKind.u64 = IntKind.u64 ∧ (3) ≠ 0 then some (.int .u64 (Int.tmod (t2 p) (3))) else none from rfl, if_pos ⟨rfl, by omega⟩, Int.tmod_eq_emod_of_nonneg (by omega)]; exact congrArg (fun z => some (Value.int .u64 z)) (by omega)⟩
  · exact ⟨rfl, rfl, rfl, by show intBin .rem .u64 (t3 p) .u64 (2) = some (.int .u64 (1)); rw [show intBin .rem .u64 (t3 p) .u64 (2) = if IntKind.u64 = IntKind.u64 ∧ (2) ≠ 0 then some (.int .u64 (Int.tmod (t3 p) (2))) else none from rfl, if_pos ⟨rfl, by omega⟩, Int.tmod_eq_emod_of_nonneg (by omega)]; exact congrArg (fun z => some (Value.int .u64 z)) (by omega)⟩
def re : List (Value × Value × Bool) := []
theorem hre (p : Nat → Int) (h : H p) : ∀ x ∈ re, RuleE (θ p) x := fun x hx => nomatch hx
noncomputable abbrev sy (p : Nat → Int) (h : H p) : Sy := syOf (θ p) (plain p) r1 r2 re (hr1 p h) (hr2 p h) (hre p h)
abbrev R : RowS := (.int .i64 2, [.chan (some 0), .chan (some 1)])
noncomputable abbrev syR (p : Nat → Int) (h : H p) (D : List RowD) (hf : Fits (θ p) [R] D) : Sy := syRows (θ p) (plain p) r1 r2 re (hr1 p h) (hr2 p h) (hre p h) rfl rfl rfl [R] D hf
end ghe_w_0_1
namespace ghe_w_1_0
abbrev H (p : Nat → Int) : Prop := (-9223372036854775808 ≤ p 0 ∧ p 0 ≤ 9223372036854775807) ∧ (-9223372036854775808 ≤ p 1 ∧ p 1 ≤ 9223372036854775807) ∧ ((p 0 % 18446744073709551616) % 3 = 1) ∧ ((p 1 % 18446744073709551616) % 2 = 0)
def t0 (p : Nat → Int) : Int := p 0
def t1 (p : Nat → Int) : Int := p 1
def t2 (p : Nat → Int) : Int := (IntKind.u64.wrap (p 0))
def t3 (p : Nat → Int) : Int := (IntKind.u64.wrap (p 1))
def θ (p : Nat → Int) : Nat → Value := fun j => match j with
  | 0 => .int .i64 (t0 p)
  | 1 => .int .i64 (t1 p)
  | 2 => .int .u64 (t2 p)
  | 3 => .int .u64 (t3 p)
  | _ => .bool false
theorem plain (p : Nat → Int) : ∀ j, plainV (θ p j) = true := by intro j; unfold θ; split <;> rfl
theorem fs (p : Nat → Int) : (t2 p = (p 0) % 18446744073709551616) ∧ (t3 p = (p 1) % 18446744073709551616) := ⟨w_u64 _, w_u64 _⟩
def r1 : List (U1 × Value × Value) := [((.conv .u64), (.chan (some 0)), (.chan (some 2))), ((.conv .u64), (.chan (some 1)), (.chan (some 3)))]
theorem hr1 (p : Nat → Int) (h : H p) : ∀ x ∈ r1, Rule1 (θ p) x := by
  obtain ⟨⟨a0, b0⟩, ⟨a1, b1⟩, hc0, hc1⟩ := h
  obtain ⟨f2, f3⟩ := fs p
  intro x hx
  simp only [r1, List.mem_cons, List.not_mem_nil, or_false] at hx
  rcases hx with rfl | rfl
  · exact ⟨rfl, rfl, congrArg (fun z => some (Value.int .u64 z)) (show IntKind.u64.wrap (p 0) = (t2 p) from ((w_u64 _).trans (by omega)))⟩
  · exact ⟨rfl, rfl, congrArg (fun z => some (Value.int .u64 z)) (show IntKind.u64.wrap (p 1) = (t3 p) from ((w_u64 _).trans (by omega)))⟩
def r2 : List (U2 × Value × Value × Value) := [((.bin .rem), (.chan (some 2)), (.int .u64 3), (.int .u64 1)), ((.bin .rem), (.chan (some 3)), (.int .u64 2), (.int .u64 0))]
theorem hr2 (p : Nat → Int) (h : H p) : ∀ x ∈ r2, Rule2 (θ p) x := by
  obtain ⟨⟨a0, b0⟩, ⟨a1, b1⟩, hc0, hc1⟩ := h
  obtain ⟨f2, f3⟩ := fs p
  intro x hx
  simp only [r2, List.mem_cons, List.not_mem_nil, or_false] at hx
  rcases hx with rfl | rfl
  · exact ⟨rfl, rfl, rfl, by show intBin .rem .u64 (t2 p) .u64 (3) = some (.int .u64 (1)); rw [show intBin .rem .u64 (t2 p) .u64 (3) = if IntKind.u64 = IntKind.u64 ∧ (3) ≠ 0 then some (.int .u64 (Int.tmod (t2 p) (3))) else none from rfl, if_pos ⟨rfl, by omega⟩, Int.tmod_eq_emod_of_nonneg (by omega)]; exact congrArg (fun z => some (Value.int .u64 z)) (by omega)⟩
  · exact ⟨rfl, rfl, rfl, by show intBin .rem .u64 (t3 p) .u64 (2) = some (.int .u64 (0)); rw [show intBin .rem .u64 (t3 p) .u64 (2) = if IntKind.u64 = IntKind.u64 ∧ (2) ≠ 0 then some (.int .u64 (Int.tmod (t3 p) (2))) else none from rfl, if_pos ⟨rfl, by omega⟩, Int.tmod_eq_emod_of_nonneg (by omega)]; exact congrArg (fun z => some (Value.int .u64 z)) (by omega)⟩
def re : List (Value × Value × Bool) := []
theorem hre (p : Nat → Int) (h : H p) : ∀ x ∈ re, RuleE (θ p) x := fun x hx => nomatch hx
noncomputable abbrev sy (p : Nat → Int) (h : H p) : Sy := syOf (θ p) (plain p) r1 r2 re (hr1 p h) (hr2 p h) (hre p h)
abbrev R : RowS := (.int .i64 2, [.chan (some 0), .chan (some 1)])
noncomputable abbrev syR (p : Nat → Int) (h : H p) (D : List RowD) (hf : Fits (θ p) [R] D) : Sy := syRows (θ p) (plain p) r1 r2 re (hr1 p h) (hr2 p h) (hre p h) rfl rfl rfl [R] D hf
end ghe_w_1_0
namespace ghe_w_1_1
abbrev H (p : Nat → Int) : Prop := (-9223372036854775808 ≤ p 0 ∧ p 0 ≤ 9223372036854775807) ∧ (-9223372036854775808 ≤ p 1 ∧ p 1 ≤ 9223372036854775807) ∧ ((p 0 % 18446744073709551616) % 3 = 1) ∧ ((p 1 % 18446744073709551616) % 2 = 1)
def t0 (p : Nat → Int) : Int := p 0
def t1 (p : Nat → Int) : Int := p 1
def t2 (p : Nat → Int) : Int := (IntKind.u64.wrap (p 0))
def t3 (p : Nat → Int) : Int := (IntKind.u64.wrap (p 1))
def θ (p : Nat → Int) : Nat → Value := fun j => match j with
  | 0 => .int .i64 (t0 p)
  | 1 => .int .i64 (t1 p)
  | 2 => .int .u64 (t2 p)
  | 3 => .int .u64 (t3 p)
  | _ => .bool false
theorem plain (p : Nat → Int) : ∀ j, plainV (θ p j) = true := by intro j; unfold θ; split <;> rfl
theorem fs (p : Nat → Int) : (t2 p = (p 0) % 18446744073709551616) ∧ (t3 p = (p 1) % 18446744073709551616) := ⟨w_u64 _, w_u64 _⟩
def r1 : List (U1 × Value × Value) := [((.conv .u64), (.chan (some 0)), (.chan (some 2))), ((.conv .u64), (.chan (some 1)), (.chan (some 3)))]
theorem hr1 (p : Nat → Int) (h : H p) : ∀ x ∈ r1, Rule1 (θ p) x := by
  obtain ⟨⟨a0, b0⟩, ⟨a1, b1⟩, hc0, hc1⟩ := h
  obtain ⟨f2, f3⟩ := fs p
  intro x hx
  simp only [r1, List.mem_cons, List.not_mem_nil, or_false] at hx
  rcases hx with rfl | rfl
  · exact ⟨rfl, rfl, congrArg (fun z => some (Value.int .u64 z)) (show IntKind.u64.wrap (p 0) = (t2 p) from ((w_u64 _).trans (by omega)))⟩
  · exact ⟨rfl, rfl, congrArg (fun z => some (Value.int .u64 z)) (show IntKind.u64.wrap (p 1) = (t3 p) from ((w_u64 _).trans (by omega)))⟩
def r2 : List (U2 × Value × Value × Value) := [((.bin .rem), (.chan (some 2)), (.int .u64 3), (.int .u64 1)), ((.bin .rem), (.chan (some 3)), (.int .u64 2), (.int .u64 1))]
theorem hr2 (p : Nat → Int) (h : H p) : ∀ x ∈ r2, Rule2 (θ p) x := by
  obtain ⟨⟨a0, b0⟩, ⟨a1, b1⟩, hc0, hc1⟩ := h
  obtain ⟨f2, f3⟩ := fs p
  intro x hx
  simp only [r2, List.mem_cons, List.not_mem_nil, or_false] at hx
  rcases hx with rfl | rfl
  · exact ⟨rfl, rfl, rfl, by show intBin .rem .u64 (t2 p) .u64 (3) = some (.int .u64 (1)); rw [show intBin .rem .u64 (t2 p) .u64 (3) = if IntKind.u64 = IntKind.u64 ∧ (3) ≠ 0 then some (.int .u64 (Int.tmod (t2 p) (3))) else none from rfl, if_pos ⟨rfl, by omega⟩, Int.tmod_eq_emod_of_nonneg (by omega)]; exact congrArg (fun z => some (Value.int .u64 z)) (by omega)⟩
  · exact ⟨rfl, rfl, rfl, by show intBin .rem .u64 (t3 p) .u64 (2) = some (.int .u64 (1)); rw [show intBin .rem .u64 (t3 p) .u64 (2) = if IntKind.u64 = IntKind.u64 ∧ (2) ≠ 0 then some (.int .u64 (Int.tmod (t3 p) (2))) else none from rfl, if_pos ⟨rfl, by omega⟩, Int.tmod_eq_emod_of_nonneg (by omega)]; exact congrArg (fun z => some (Value.int .u64 z)) (by omega)⟩
def re : List (Value × Value × Bool) := []
theorem hre (p : Nat → Int) (h : H p) : ∀ x ∈ re, RuleE (θ p) x := fun x hx => nomatch hx
noncomputable abbrev sy (p : Nat → Int) (h : H p) : Sy := syOf (θ p) (plain p) r1 r2 re (hr1 p h) (hr2 p h) (hre p h)
abbrev R : RowS := (.int .i64 2, [.chan (some 0), .chan (some 1)])
noncomputable abbrev syR (p : Nat → Int) (h : H p) (D : List RowD) (hf : Fits (θ p) [R] D) : Sy := syRows (θ p) (plain p) r1 r2 re (hr1 p h) (hr2 p h) (hre p h) rfl rfl rfl [R] D hf
end ghe_w_1_1
namespace ghe_w_2_0
abbrev H (p : Nat → Int) : Prop := (-9223372036854775808 ≤ p 0 ∧ p 0 ≤ 9223372036854775807) ∧ (-9223372036854775808 ≤ p 1 ∧ p 1 ≤ 9223372036854775807) ∧ ((p 0 % 18446744073709551616) % 3 = 2) ∧ ((p 1 % 18446744073709551616) % 2 = 0)
def t0 (p : Nat → Int) : Int := p 0
def t1 (p : Nat → Int) : Int := p 1
def t2 (p : Nat → Int) : Int := (IntKind.u64.wrap (p 0))
def t3 (p : Nat → Int) : Int := (IntKind.u64.wrap (p 1))
def θ (p : Nat → Int) : Nat → Value := fun j => match j with
  | 0 => .int .i64 (t0 p)
  | 1 => .int .i64 (t1 p)
  | 2 => .int .u64 (t2 p)
  | 3 => .int .u64 (t3 p)
  | _ => .bool false
theorem plain (p : Nat → Int) : ∀ j, plainV (θ p j) = true := by intro j; unfold θ; split <;> rfl
theorem fs (p : Nat → Int) : (t2 p = (p 0) % 18446744073709551616) ∧ (t3 p = (p 1) % 18446744073709551616) := ⟨w_u64 _, w_u64 _⟩
def r1 : List (U1 × Value × Value) := [((.conv .u64), (.chan (some 0)), (.chan (some 2))), ((.conv .u64), (.chan (some 1)), (.chan (some 3)))]
theorem hr1 (p : Nat → Int) (h : H p) : ∀ x ∈ r1, Rule1 (θ p) x := by
  obtain ⟨⟨a0, b0⟩, ⟨a1, b1⟩, hc0, hc1⟩ := h
  obtain ⟨f2, f3⟩ := fs p
  intro x hx
  simp only [r1, List.mem_cons, List.not_mem_nil, or_false] at hx
  rcases hx with rfl | rfl
  · exact ⟨rfl, rfl, congrArg (fun z => some (Value.int .u64 z)) (show IntKind.u64.wrap (p 0) = (t2 p) from ((w_u64 _).trans (by omega)))⟩
  · exact ⟨rfl, rfl, congrArg (fun z => some (Value.int .u64 z)) (show IntKind.u64.wrap (p 1) = (t3 p) from ((w_u64 _).trans (by omega)))⟩
def r2 : List (U2 × Value × Value × Value) := [((.bin .rem), (.chan (some 2)), (.int .u64 3), (.int .u64 2)), ((.bin .rem), (.chan (some 3)), (.int .u64 2), (.int .u64 0))]
theorem hr2 (p : Nat → Int) (h : H p) : ∀ x ∈ r2, Rule2 (θ p) x := by
  obtain ⟨⟨a0, b0⟩, ⟨a1, b1⟩, hc0, hc1⟩ := h
  obtain ⟨f2, f3⟩ := fs p
  intro x hx
  simp only [r2, List.mem_cons, List.not_mem_nil, or_false] at hx
  rcases hx with rfl | rfl
  · exact ⟨rfl, rfl, rfl, by show intBin .rem .u64 (t2 p) .u64 (3) = some (.int .u64 (2)); rw [show intBin .rem .u64 (t2 p) .u64 (3) = if IntKind.u64 = IntKind.u64 ∧ (3) ≠ 0 then some (.int .u64 (Int.tmod (t2 p) (3))) else none from rfl, if_pos ⟨rfl, by omega⟩, Int.tmod_eq_emod_of_nonneg (by omega)]; exact congrArg (fun z => some (Value.int .u64 z)) (by omega)⟩
  · exact ⟨rfl, rfl, rfl, by show intBin .rem .u64 (t3 p) .u64 (2) = some (.int .u64 (0)); rw [show intBin .rem .u64 (t3 p) .u64 (2) = if IntKind.u64 = IntKind.u64 ∧ (2) ≠ 0 then some (.int .u64 (Int.tmod (t3 p) (2))) else none from rfl, if_pos ⟨rfl, by omega⟩, Int.tmod_eq_emod_of_nonneg (by omega)]; exact congrArg (fun z => some (Value.int .u64 z)) (by omega)⟩
def re : List (Value × Value × Bool) := []
theorem hre (p : Nat → Int) (h : H p) : ∀ x ∈ re, RuleE (θ p) x := fun x hx => nomatch hx
noncomputable abbrev sy (p : Nat → Int) (h : H p) : Sy := syOf (θ p) (plain p) r1 r2 re (hr1 p h) (hr2 p h) (hre p h)
abbrev R : RowS := (.int .i64 2, [.chan (some 0), .chan (some 1)])
noncomputable abbrev syR (p : Nat → Int) (h : H p) (D : List RowD) (hf : Fits (θ p) [R] D) : Sy := syRows (θ p) (plain p) r1 r2 re (hr1 p h) (hr2 p h) (hre p h) rfl rfl rfl [R] D hf
end ghe_w_2_0
namespace ghe_w_2_1
abbrev H (p : Nat → Int) : Prop := (-9223372036854775808 ≤ p 0 ∧ p 0 ≤ 9223372036854775807) ∧ (-9223372036854775808 ≤ p 1 ∧ p 1 ≤ 9223372036854775807) ∧ ((p 0 % 18446744073709551616) % 3 = 2) ∧ ((p 1 % 18446744073709551616) % 2 = 1)
def t0 (p : Nat → Int) : Int := p 0
def t1 (p : Nat → Int) : Int := p 1
def t2 (p : Nat → Int) : Int := (IntKind.u64.wrap (p 0))
def t3 (p : Nat → Int) : Int := (IntKind.u64.wrap (p 1))
def θ (p : Nat → Int) : Nat → Value := fun j => match j with
  | 0 => .int .i64 (t0 p)
  | 1 => .int .i64 (t1 p)
  | 2 => .int .u64 (t2 p)
  | 3 => .int .u64 (t3 p)
  | _ => .bool false
theorem plain (p : Nat → Int) : ∀ j, plainV (θ p j) = true := by intro j; unfold θ; split <;> rfl
theorem fs (p : Nat → Int) : (t2 p = (p 0) % 18446744073709551616) ∧ (t3 p = (p 1) % 18446744073709551616) := ⟨w_u64 _, w_u64 _⟩
def r1 : List (U1 × Value × Value) := [((.conv .u64), (.chan (some 0)), (.chan (some 2))), ((.conv .u64), (.chan (some 1)), (.chan (some 3)))]
theorem hr1 (p : Nat → Int) (h : H p) : ∀ x ∈ r1, Rule1 (θ p) x := by
  obtain ⟨⟨a0, b0⟩, ⟨a1, b1⟩, hc0, hc1⟩ := h
  obtain ⟨f2, f3⟩ := fs p
  intro x hx
  simp only [r1, List.mem_cons, List.not_mem_nil, or_false] at hx
  rcases hx with rfl | rfl
  · exact ⟨rfl, rfl, congrArg (fun z => some (Value.int .u64 z)) (show IntKind.u64.wrap (p 0) = (t2 p) from ((w_u64 _).trans (by omega)))⟩
  · exact ⟨rfl, rfl, congrArg (fun z => some (Value.int .u64 z)) (show IntKind.u64.wrap (p 1) = (t3 p) from ((w_u64 _).trans (by omega)))⟩
def r2 : List (U2 × Value × Value × Value) := [((.bin .rem), (.chan (some 2)), (.int .u64 3), (.int .u64 2)), ((.bin .rem), (.chan (some 3)), (.int .u64 2), (.int .u64 1))]
theorem hr2 (p : Nat → Int) (h : H p) : ∀ x ∈ r2, Rule2 (θ p) x := by
  obtain ⟨⟨a0, b0⟩, ⟨a1, b1⟩, hc0, hc1⟩ := h
  obtain ⟨f2, f3⟩ := fs p
  intro x hx
  simp only [r2, List.mem_cons, List.not_mem_nil, or_false] at hx
  rcases hx with rfl | rfl
  · exact ⟨rfl, rfl, rfl, by show intBin .rem .u64 (t2 p) .u64 (3) = some (.int .u64 (2)); rw [show intBin .rem .u64 (t2 p) .u64 (3) = if IntKind.u64 = IntKind.u64 ∧ (3) ≠ 0 then some (.int .u64 (Int.tmod (t2 p) (3))) else none from rfl, if_pos ⟨rfl, by omega⟩, Int.tmod_eq_emod_of_nonneg (by omega)]; exact congrArg (fun z => some (Value.int .u64 z)) (by omega)⟩
  · exact ⟨rfl, rfl, rfl, by show intBin .rem .u64 (t3 p) .u64 (2) = some (.int .u64 (1)); rw [show intBin .rem .u64 (t3 p) .u64 (2) = if IntKind.u64 = IntKind.u64 ∧ (2) ≠ 0 then some (.int .u64 (Int.tmod (t3 p) (2))) else none from rfl, if_pos ⟨rfl, by omega⟩, Int.tmod_eq_emod_of_nonneg (by omega)]; exact congrArg (fun z => some (Value.int .u64 z)) (by omega)⟩
def re : List (Value × Value × Bool) := []
theorem hre (p : Nat → Int) (h : H p) : ∀ x ∈ re, RuleE (θ p) x := fun x hx => nomatch hx
noncomputable abbrev sy (p : Nat → Int) (h : H p) : Sy := syOf (θ p) (plain p) r1 r2 re (hr1 p h) (hr2 p h) (hre p h)
abbrev R : RowS := (.int .i64 2, [.chan (some 0), .chan (some 1)])
noncomputable abbrev syR (p : Nat → Int) (h : H p) (D : List RowD) (hf : Fits (θ p) [R] D) : Sy := syRows (θ p) (plain p) r1 r2 re (hr1 p h) (hr2 p h) (hre p h) rfl rfl rfl [R] D hf
end ghe_w_2_1
namespace ghe_m_0_0
abbrev H (p : Nat → Int) : Prop := (-9223372036854775808 ≤ p 0 ∧ p 0 ≤ 9223372036854775807) ∧ (-9223372036854775808 ≤ p 1 ∧ p 1 ≤ 9223372036854775807) ∧ (-9223372036854775808 ≤ p 2 ∧ p 2 ≤ 9223372036854775807) ∧ (-9223372036854775808 ≤ p 3 ∧ p 3 ≤ 9223372036854775807) ∧ ((p 0 % 18446744073709551616) % 3 = 0) ∧ ((p 1 % 18446744073709551616) % 2 = 0) ∧ (3 ≤ p 3)
def t0 (p : Nat → Int) : Int := p 0
def t1 (p : Nat → Int) : Int := p 1
def t2 (p : Nat → Int) : Int := p 2
def t3 (p : Nat → Int) : Int := p 3
def t4 (p : Nat → Int) : Int := (IntKind.u64.wrap (p 0))
def t5 (p : Nat → Int) : Int := (IntKind.u64.wrap (p 1))
def t6 (p : Nat → Int) : Int := (IntKind.u64.wrap (p 2))
def θ (p : Nat → Int) : Nat → Value := fun j => match j with
  | 0 => .int .i64 (t0 p)
  | 1 => .int .i64 (t1 p)
  | 2 => .int .i64 (t2 p)
  | 3 => .int .i64 (t3 p)
  | 4 => .int .u64 (t4 p)
  | 5 => .int .u64 (t5 p)
  | 6 => .int .u64 (t6 p)
  | _ => .bool false
theorem plain (p : Nat → Int) : ∀ j, plainV (θ p j) = true := by intro j; unfold θ; split <;> rfl
theorem fs (p : Nat → Int) : (t4 p = (p 0) % 18446744073709551616) ∧ (t5 p = (p 1) % 18446744073709551616) ∧ (t6 p = (p 2) % 18446744073709551616) := ⟨w_u64 _, w_u64 _, w_u64 _⟩
def r1 : List (U1 × Value × Value) := [((.conv .u64), (.chan (some 0)), (.chan (some 4))), ((.conv .u64), (.chan (some 1)), (.chan (some 5))), ((.conv .u64), (.chan (some 2)), (.chan (some 6)))]
theorem hr1 (p : Nat → Int) (h : H p) : ∀ x ∈ r1, Rule1 (θ p) x := by
  obtain ⟨⟨a0, b0⟩, ⟨a1, b1⟩, ⟨a2, b2⟩, ⟨a3, b3⟩, hc0, hc1, hc2⟩ := h
  obtain ⟨f4, f5, f6⟩ := fs p
  intro x hx
  simp only [r1, List.mem_cons, List.not_mem_nil, or_false] at hx
  rcases hx with rfl | rfl | rfl
  · exact ⟨rfl, rfl, congrArg (fun z => some (Value.int .u64 z)) (show IntKind.u64.wrap (p 0) = (t4 p) from ((w_u64 _).trans (by omega)))⟩
  · exact ⟨rfl, rfl, congrArg (fun z => some (Value.int .u64 z)) (show IntKind.u64.wrap (p 1) = (t5 p) from ((w_u64 _).trans (by omega)))⟩
  · exact ⟨rfl, rfl, congrArg (fun z => some (Value.int .u64 z)) (show IntKind.u64.wrap (p 2) = (t6 p) from ((w_u64 _).trans (by omega)))⟩
def r2 : List (U2 × Value × Value × Value) := [((.bin .lss), (.int .i64 0), (.chan (some 3)), (.bool true)), ((.bin .rem), (.chan (some 4)), (.int .u64 3), (.int .u64 0)), ((.bin .lss), (.int .i64 1), (.chan (some 3)), (.bool true)), ((.bin .rem), (.chan (some 5)), (.int .u64 2), (.int .u64 0)), ((.bin .lss), (.int .i64 2), (.chan (some 3)), (.bool true)), ((.bin .rem), (.chan (some 6)), (.int .u64 1), (.int .u64 0))]
theorem hr2 (p : Nat → Int) (h : H p) : ∀ x ∈ r2, Rule2 (θ p) x := by
  obtain ⟨⟨a0, b0⟩, ⟨a1, b1⟩, ⟨a2, b2⟩, ⟨a3, b3⟩, hc0, hc1, hc2⟩ := h
  obtain ⟨f4, f5, f6⟩ := fs p
  intro x hx
  simp only [r2, List.mem_cons, List.not_mem_nil, or_false] at hx
  rcases hx with rfl | rfl | rfl | rfl | rfl | rfl
  · exact ⟨rfl, rfl, rfl, congrArg (fun z => some (Value.bool z)) (decide_eq_true (show ((0) < (p 3)) from by omega))⟩
  · exact ⟨rfl, rfl, rfl, by show intBin .rem .u64 (t4 p) .u64 (3) = some (.int .u64 (0)); rw [show intBin .rem .u64 (t4 p) .u64 (3) = if IntKind.u64 = IntKind.u64 ∧ (3) ≠ 0 then some (.int .u64 (Int.tmod (t4 p) (3))) else none from rfl, if_pos ⟨rfl, by omega⟩, Int.tmod_eq_emod_of_nonneg (by omega)]; exact congrArg (fun z => some (Value.int .u64 z)) (by omega)⟩
  · exact ⟨rfl, rfl, rfl, congrArg (fun z => some (Value.bool z)) (decide_eq_true (show ((1) < (p 3)) from by omega))⟩
  · exact ⟨rfl, rfl, rfl, by show intBin .rem .u64 (t5 p) .u64 (2) = some (.int .u64 (0)); rw [show intBin .rem .u64 (t5 p) .u64 (2) = if IntKind.u64 = IntKind.u64 ∧ (2) ≠ 0 then some (.int .u64 (Int.tmod (t5 p) (2))) else none from rfl, if_pos ⟨rfl, by omega⟩, Int.tmod_eq_emod_of_nonneg (by omega)]; exact congrArg (fun z => some (Value.int .u64 z)) (by omega)⟩
  · exact ⟨rfl, rfl, rfl, congrArg (fun z => some (Value.bool z)) (decide_eq_true (show ((2) < (p 3)) from by omega))⟩
  · exact ⟨rfl, rfl, rfl, by show intBin .rem .u64 (t6 p) .u64 (1) = some (.int .u64 (0)); rw [show intBin .rem .u64 (t6 p) .u64 (1) = if IntKind.u64 = IntKind.u64 ∧ (1) ≠ 0 then some (.int .u64 (Int.tmod (t6 p) (1))) else none from rfl, if_pos ⟨rfl, by omega⟩, Int.tmod_eq_emod_of_nonneg (by omega)]; exact congrArg (fun z => some (Value.int .u64 z)) (by omega)⟩
def re : List (Value × Value × Bool) := []
theorem hre (p : Nat → Int) (h : H p) : ∀ x ∈ re, RuleE (θ p) x := fun x hx => nomatch hx
noncomputable abbrev sy (p : Nat → Int) (h : H p) : Sy := syOf (θ p) (plain p) r1 r2 re (hr1 p h) (hr2 p h) (hre p h)
abbrev R : RowS := (.chan (some 3), [.chan (some 0), .chan (some 1), .chan (some 2)])
noncomputable abbrev syR (p : Nat → Int) (h : H p) (D : List RowD) (hf : Fits (θ p) [R] D) : Sy := syRows (θ p) (plain p) r1 r2 re (hr1 p h) (hr2 p h) (hre p h) rfl rfl rfl [R] D hf
end ghe_m_0_0
namespace ghe_m_0_1
abbrev H (p : Nat → Int) : Prop := (-9223372036854775808 ≤ p 0 ∧ p 0 ≤ 9223372036854775807) ∧ (-9223372036854775808 ≤ p 1 ∧ p 1 ≤ 9223372036854775807) ∧ (-9223372036854775808 ≤ p 2 ∧ p 2 ≤ 9223372036854775807) ∧ (-9223372036854775808 ≤ p 3 ∧ p 3 ≤ 9223372036854775807) ∧ ((p 0 % 18446744073709551616) % 3 = 0) ∧ ((p 1 % 18446744073709551616) % 2 = 1) ∧ (3 ≤ p 3)
def t0 (p : Nat → Int) : Int := p 0
def t1 (p : Nat → Int) : Int := p 1
def t2 (p : Nat → Int) : Int := p 2
def t3 (p : Nat → Int) : Int := p 3
def t4 (p : Nat → Int) : Int := (IntKind.u64.wrap (p 0))
def t5 (p : Nat → Int) : Int := (IntKind.u64.wrap (p 1))
def t6 (p : Nat → Int) : Int := (IntKind.u64.wrap (p 2))
def θ (p : Nat → Int) : Nat → Value := fun j => match j with
  | 0 => .int .i64 (t0 p)
  | 1 => .int .i64 (t1 p)
  | 2 => .int .i64 (t2 p)
  | 3 => .int .i64 (t3 p)
  | 4 => .int .u64 (t4 p)
  | 5 => .int .u64 (t5 p)
  | 6 => .int .u64 (t6 p)
  | _ => .bool false
theorem plain (p : Nat → Int) : ∀ j, plainV (θ p j) = true := by intro j; unfold θ; split <;> rfl
theorem fs (p : Nat → Int) : (t4 p = (p 0) % 18446744073709551616) ∧ (t5 p = (p 1) % 18446744073709551616) ∧ (t6 p = (p 2) % 18446744073709551616) := ⟨w_u64 _, w_u64 _, w_u64 _⟩
def r1 : List (U1 × Value × Value) := [((.conv .u64), (.chan (some 0)), (.chan (some 4))), ((.conv .u64), (.chan (some 1)), (.chan (some 5))), ((.conv .u64), (.chan (some 2)), (.chan (some 6)))]
theorem hr1 (p : Nat → Int) (h : H p) : ∀ x ∈ r1, Rule1 (θ p) x := by
  obtain ⟨⟨a0, b0⟩, ⟨a1, b1⟩, ⟨a2, b2⟩, ⟨a3, b3⟩, hc0, hc1, hc2⟩ := h
  obtain ⟨f4, f5, f6⟩ := fs p
  intro x hx
  simp only [r1, List.mem_cons, List.not_mem_nil, or_false] at hx
  rcases hx with rfl | rfl | rfl
  · exact ⟨rfl, rfl, congrArg (fun z => some (Value.int .u64 z)) (show IntKind.u64.wrap (p 0) = (t4 p) from ((w_u64 _).trans (by omega)))⟩
  · exact ⟨rfl, rfl, congrArg (fun z => some (Value.int .u64 z)) (show IntKind.u64.wrap (p 1) = (t5 p) from ((w_u64 _).trans (by omega)))⟩
  · exact ⟨rfl, rfl, congrArg (fun z => some (Value.int .u64 z)) (show IntKind.u64.wrap (p 2) = (t6 p) from ((w_u64 _).trans (by omega)))⟩
def r2 : List (U2 × Value × Value × Value) := [((.bin .lss), (.int .i64 0), (.chan (some 3)), (.bool true)), ((.bin .rem), (.chan (some 4)), (.int .u64 3), (.int .u64 0)), ((.bin .lss), (.int .i64 1), (.chan (some 3)), (.bool true)), ((.bin .rem), (.chan (some 5)), (.int .u64 2), (.int .u64 1)), ((.bin .lss), (.int .i64 2), (.chan (some 3)), (.bool true)), ((.bin .rem), (.chan (some 6)), (.int .u64 1), (.int .u64 0))]
theorem hr2 (p : Nat → Int) (h : H p) : ∀ x ∈ r2, Rule2 (θ p) x := by
  obtain ⟨⟨a0, b0⟩, ⟨a1, b1⟩, ⟨a2, b2⟩, ⟨a3, b3⟩, hc0, hc1, hc2⟩ := h
  obtain ⟨f4, f5, f6⟩ := fs p
  intro x hx
  simp only [r2, List.mem_cons, List.not_mem_nil, or_false] at hx
  rcases hx with rfl | rfl | rfl | rfl | rfl | rfl
  · exact ⟨rfl, rfl, rfl, congrArg (fun z => some (Value.bool z)) (decide_eq_true (show ((0) < (p 3)) from by omega))⟩
  · exact ⟨rfl, rfl, rfl, by show intBin .rem .u64 (t4 p) .u64 (3) = some (.int .u64 (0)); rw [show intBin .rem .u64 (t4 p) .u64 (3) = if IntKind.u64 = IntKind.u64 ∧ (3) ≠ 0 then some (.int .u64 (Int.tmod (t4 p) (3))) else none from rfl, if_pos ⟨rfl, by omega⟩, Int.tmod_eq_emod_of_nonneg (by omega)]; exact congrArg (fun z => some (Value.int .u64 z)) (by omega)⟩
  · exact ⟨rfl, rfl, rfl, congrArg (fun z => some (Value.bool z)) (decide_eq_true (show ((1) < (p 3)) from by omega))⟩
  · exact ⟨rfl, rfl, rfl, by show intBin .rem .u64 (t5 p) .u64 (2) = some (.int .u64 (1)); rw [show intBin .rem .u64 (t5 p) .u64 (2) = if IntKind.u64 = IntKind.u64 ∧ (2) ≠ 0 then some (.int .u64 (Int.tmod (t5 p) (2))) else none from rfl, if_pos ⟨rfl, by omega⟩, Int.tmod_eq_emod_of_nonneg (by omega)]; exact congrArg (fun z => some (Value.int .u64 z)) (by omega)⟩
  · exact ⟨rfl, rfl, rfl, congrArg (fun z => some (Value.bool z)) (decide_eq_true (show ((2) < (p 3)) from by omega))⟩
  · exact ⟨rfl, rfl, rfl, by show intBin .rem .u64 (t6 p) .u64 (1) = some (.int .u64 (0)); rw [show intBin .rem .u64 (t6 p) .u64 (1) = if IntKind.u64 = IntKind.u64 ∧ (1) ≠ 0 then some (.int .u64 (Int.tmod (t6 p) (1))) else none from rfl, if_pos ⟨rfl, by omega⟩, Int.tmod_eq_emod_of_nonneg (by omega)]; exact congrArg (fun z => some (Value.int .u64 z)) (by omega)⟩
def re : List (Value × Value × Bool) := []
theorem hre (p : Nat → Int) (h : H p) : ∀ x ∈ re, RuleE (θ p) x := fun x hx => nomatch hx
noncomputable abbrev sy (p : Nat → Int) (h : H p) : Sy := syOf (θ p) (plain p) r1 r2 re (hr1 p h) (hr2 p h) (hre p h)
abbrev R : RowS := (.chan (some 3), [.chan (some 0), .chan (some 1), .chan (some 2)])
noncomputable abbrev syR (p : Nat → Int) (h : H p) (D : List RowD) (hf : Fits (θ p) [R] D) : Sy := syRows (θ p) (plain p) r1 r2 re (hr1 p h) (hr2 p h) (hre p h) rfl rfl rfl [R] D hf
end ghe_m_0_1
namespace ghe_m_1_0
abbrev H (p : Nat → Int) : Prop := (-9223372036854775808 ≤ p 0 ∧ p 0 ≤ 9223372036854775807) ∧ (-9223372036854775808 ≤ p 1 ∧ p 1 ≤ 9223372036854775807) ∧ (-9223372036854775808 ≤ p 2 ∧ p 2 ≤ 9223372036854775807) ∧ (-9223372036854775808 ≤ p 3 ∧ p 3 ≤ 9223372036854775807) ∧ ((p 0 % 18446744073709551616) % 3 = 1) ∧ ((p 1 % 18446744073709551616) % 2 = 0) ∧ (3 ≤ p 3)
def t0 (p : Nat → Int) : Int := p 0
def t1 (p : Nat → Int) : Int := p 1
def t2 (p : Nat → Int) : Int := p 2
def t3 (p : Nat → Int) : Int := p 3
def t4 (p : Nat → Int) : Int := (IntKind.u64.wrap (p 0))
def t5 (p : Nat → Int) : Int := (IntKind.u64.wrap (p 1))
def t6 (p : Nat → Int) : Int := (IntKind.u64.wrap (p 2))
def θ (p : Nat → Int) : Nat → Value := fun j => match j with
  | 0 => .int .i64 (t0 p)
  | 1 => .int .i64 (t1 p)
  | 2 => .int .i64 (t2 p)
  | 3 => .int .i64 (t3 p)
  | 4 => .int .u64 (t4 p)
  | 5 => .int .u64 (t5 p)
  | 6 => .int .u64 (t6 p)
  | _ => .bool false
theorem plain (p : Nat → Int) : ∀ j, plainV (θ p j) = true := by intro j; unfold θ; split <;> rfl
theorem fs (p : Nat → Int) : (t4 p = (p 0) % 18446744073709551616) ∧ (t5 p = (p 1) % 18446744073709551616) ∧ (t6 p = (p 2) % 18446744073709551616) := ⟨w_u64 _, w_u64 _, w_u64 _⟩
def r1 : List (U1 × Value × Value) := [((.conv .u64), (.chan (some 0)), (.chan (some 4))), ((.conv .u64), (.chan (some 1)), (.chan (some 5))), ((.conv .u64), (.chan (some 2)), (.chan (some 6)))]
theorem hr1 (p : Nat → Int) (h : H p) : ∀ x ∈ r1, Rule1 (θ p) x := by
  obtain ⟨⟨a0, b0⟩, ⟨a1, b1⟩, ⟨a2, b2⟩, ⟨a3, b3⟩, hc0, hc1, hc2⟩ := h
  obtain ⟨f4, f5, f6⟩ := fs p
  intro x hx
  simp only [r1, List.mem_cons, List.not_mem_nil, or_false] at hx
  rcases hx with rfl | rfl | rfl
  · exact ⟨rfl, rfl, congrArg (fun z => some (Value.int .u64 z)) (show IntKind.u64.wrap (p 0) = (t4 p) from ((w_u64 _).trans (by omega)))⟩
  · exact ⟨rfl, rfl, congrArg (fun z => some (Value.int .u64 z)) (show IntKind.u64.wrap (p 1) = (t5 p) from ((w_u64 _).trans (by omega)))⟩
  · exact ⟨rfl, rfl, congrArg (fun z => some (Value.int .u64 z)) (show IntKind.u64.wrap (p 2) = (t6 p) from ((w_u64 _).trans (by omega)))⟩
def r2 : List (U2 × Value × Value × Value) := [((.bin .lss), (.int .i64 0), (.chan (some 3)), (.bool true)), ((.bin .rem), (.chan (some 4)), (.int .u64 3), (.int .u64 1)), ((.bin .lss), (.int .i64 1), (.chan (some 3)), (.bool true)), ((.bin .rem), (.chan (some 5)), (.int .u64 2), (.int .u64 0)), ((.bin .lss), (.int .i64 2), (.chan (some 3)), (.bool true)), ((.bin .rem), (.chan (some 6)), (.int .u64 1), (.int .u64 0))]
theorem hr2 (p : Nat → Int) (h : H p) : ∀ x ∈ r2, Rule2 (θ p) x := by
  obtain ⟨⟨a0, b0⟩, ⟨a1, b1⟩, ⟨a2, b2⟩, ⟨a3, b3⟩, hc0, hc1, hc2⟩ := h
  obtain ⟨f4, f5, f6⟩ := fs p
  intro x hx
  simp only [r2, List.mem_cons, List.not_mem_nil, or_false] at hx
  rcases hx with rfl | rfl | rfl | rfl | rfl | rfl
  · exact ⟨rfl, rfl, rfl, congrArg (fun z => some (Value.bool z)) (decide_eq_true (show ((0) < (p 3)) from by omega))⟩
  · exact ⟨rfl, rfl, rfl, by show intBin .rem .u64 (t4 p) .u64 (3) = some (.int .u64 (1)); rw [show intBin .rem .u64 (t4 p) .u64 (3) = if IntKind.u64 = IntKind.u64 ∧ (3) ≠ 0 then some (.int .u64 (Int.tmod (t4 p) (3))) else none from rfl, if_pos ⟨rfl, by omega⟩, Int.tmod_eq_emod_of_nonneg (by omega)]; exact congrArg (fun z => some (Value.int .u64 z)) (by omega)⟩
  · exact ⟨rfl, rfl, rfl, congrArg (fun z => some (Value.bool z)) (decide_eq_true (show ((1) < (p 3)) from by omega))⟩
  · exact ⟨rfl, rfl, rfl, by show intBin .rem .u64 (t5 p) .u64 (2) = some (.int .u64 (0)); rw [show intBin .rem .u64 (t5 p) .u64 (2) = if IntKind.u64 = IntKind.u64 ∧ (2) ≠ 0 then some (.int .u64 (Int.tmod (t5 p) (2))) else none from rfl, if_pos ⟨rfl, by omega⟩, Int.tmod_eq_emod_of_nonneg (by omega)]; exact congrArg (fun z => some (Value.int .u64 z)) (by omega)⟩
  · exact ⟨rfl, rfl, rfl, congrArg (fun z => some (Value.bool z)) (decide_eq_true (show ((2) < (p 3)) from by omega))⟩
  · exact ⟨rfl, rfl, rfl, by show intBin .rem .u64 (t6 p) .u64 (1) = some (.int .u64 (0)); rw [show intBin .rem .u64 (t6 p) .u64 (1) = if IntKind.u64 = IntKind.u64 ∧ (1) ≠ 0 then some (.int .u64 (Int.tmod (t6 p) (1))) else none from rfl, if_pos ⟨rfl, by omega⟩, Int.tmod_eq_emod_of_nonneg (by omega)]; exact congrArg (fun z => some (Value.int .u64 z)) (by omega)⟩
def re : List (Value × Value × Bool) := []
theorem hre (p : Nat → Int) (h : H p) : ∀ x ∈ re, RuleE (θ p) x := fun x hx => nomatch hx
noncomputable abbrev sy (p : Nat → Int) (h : H p) : Sy := syOf (θ p) (plain p) r1 r2 re (hr1 p h) (hr2 p h) (hre p h)
abbrev R : RowS := (.chan (some 3), [.chan (some 0), .chan (some 1), .chan (some 2)])
noncomputable abbrev syR (p : Nat → Int) (h : H p) (D : List RowD) (hf : Fits (θ p) [R] D) : Sy := syRows (θ p) (plain p) r1 r2 re (hr1 p h) (hr2 p h) (hre p h) rfl rfl rfl [R] D hf
end ghe_m_1_0
namespace ghe_m_1_1
abbrev H (p : Nat → Int) : Prop := (-9223372036854775808 ≤ p 0 ∧ p 0 ≤ 9223372036854775807) ∧ (-9223372036854775808 ≤ p 1 ∧ p 1 ≤ 9223372036854775807) ∧ (-9223372036854775808 ≤ p 2 ∧ p 2 ≤ 9223372036854775807) ∧ (-9223372036854775808 ≤ p 3 ∧ p 3 ≤ 9223372036854775807) ∧ ((p 0 % 18446744073709551616) % 3 = 1) ∧ ((p 1 % 18446744073709551616) % 2 = 1) ∧ (3 ≤ p 3)
def t0 (p : Nat → Int) : Int := p 0
def t1 (p : Nat → Int) : Int := p 1
def t2 (p : Nat → Int) : Int := p 2
def t3 (p : Nat → Int) : Int := p 3
def t4 (p : Nat → Int) : Int := (IntKind.u64.wrap (p 0))
def t5 (p : Nat → Int) : Int := (IntKind.u64.wrap (p 1))
def t6 (p : Nat → Int) : Int := (IntKind.u64.wrap (p 2))
def θ (p : Nat → Int) : Nat → Value := fun j => match j with
  | 0 => .int .i64 (t0 p)
  | 1 => .int .i64 (t1 p)
  | 2 => .int .i64 (t2 p)
  | 3 => .int .i64 (t3 p)
  | 4 => .int .u64 (t4 p)
  | 5 => .int .u64 (t5 p)
  | 6 => .int .u64 (t6 p)
  | _ => .bool false
theorem plain (p : Nat → Int) : ∀ j, plainV (θ p j) = true := by intro j; unfold θ; split <;> rfl
theorem fs (p : Nat → Int) : (t4 p = (p 0) % 18446744073709551616) ∧ (t5 p = (p 1) % 18446744073709551616) ∧ (t6 p = (p 2) % 18446744073709551616) := ⟨w_u64 _, w_u64 _, w_u64 _⟩
def r1 : List (U1 × Value × Value) := [((.conv .u64), (.chan (some 0)), (.chan (some 4))), ((.conv .u64), (.chan (some 1)), (.chan (some 5))), ((.conv .u64), (.chan (some 2)), (.chan (some 6)))]
theorem hr1 (p : Nat → Int) (h : H p) : ∀ x ∈ r1, Rule1 (θ p) x := by
  obtain ⟨⟨a0, b0⟩, ⟨a1, b1⟩, ⟨a2, b2⟩, ⟨a3, b3⟩, hc0, hc1, hc2⟩ := h
  obtain ⟨f4, f5, f6⟩ := fs p
  intro x hx
  simp only [r1, List.mem_cons, List.not_mem_nil, or_false] at hx
  rcases hx with rfl | rfl | rfl
  · exact ⟨rfl, rfl, congrArg (fun z => some (Value.int .u64 z)) (show IntKind.u64.wrap (p 0) = (t4 p) from ((w_u64 _).trans (by omega)))⟩
  · exact ⟨rfl, rfl, congrArg (fun z => some (Value.int .u64 z)) (show IntKind.u64.wrap (p 1) = (t5 p) from ((w_u64 _).trans (by omega)))⟩
  · exact ⟨rfl, rfl, congrArg (fun z => some (Value.int .u64 z)) (show IntKind.u64.wrap (p 2) = (t6 p) from ((w_u64 _).trans (by omega)))⟩
def r2 : List (U2 × Value × Value × Value) := [((.bin .lss), (.int .i64 0), (.chan (some 3)), (.bool true)), ((.bin .rem), (.chan (some 4)), (.int .u64 3), (.int .u64 1)), ((.bin .lss), (.int .i64 1), (.chan (some 3)), (.bool true)), ((.bin .rem), (.chan (some 5)), (.int .u64 2), (.int .u64 1)), ((.bin .lss), (.int .i64 2), (.chan (some 3)), (.bool true)), ((.bin .rem), (.chan (some 6)), (.int .u64 1), (.int .u64 0))]
theorem hr2 (p : Nat → Int) (h : H p) : ∀ x ∈ r2, Rule2 (θ p) x := by
  obtain ⟨⟨a0, b0⟩, ⟨a1, b1⟩, ⟨a2, b2⟩, ⟨a3, b3⟩, hc0, hc1, hc2⟩ := h
  obtain ⟨f4, f5, f6⟩ := fs p
  intro x hx
  simp only [r2, List.mem_cons, List.not_mem_nil, or_false] at hx
  rcases hx with rfl | rfl | rfl | rfl | rfl | rfl
  · exact ⟨rfl, rfl, rfl, congrArg (fun z => some (Value.bool z)) (decide_eq_true (show ((0) < (p 3)) from by omega))⟩
  · exact ⟨rfl, rfl, rfl, by show intBin .rem .u64 (t4 p) .u64 (3) = some (.int .u64 (1)); rw [show intBin .rem .u64 (t4 p) .u64 (3) = if IntKind.u64 = IntKind.u64 ∧ (3) ≠ 0 then some (.int .u64 (Int.tmod (t4 p) (3))) else none from rfl, if_pos ⟨rfl, by omega⟩, Int.tmod_eq_emod_of_nonneg (by omega)]; exact congrArg (fun z => some (Value.int .u64 z)) (by omega)⟩
  · exact ⟨rfl, rfl, rfl, congrArg (fun z => some (Value.bool z)) (decide_eq_true (show ((1) < (p 3)) from by omega))⟩
  · exact ⟨rfl, rfl, rfl, by show intBin .rem .u64 (t5 p) .u64 (2) = some (.int .u64 (1)); rw [show intBin .rem .u64 (t5 p) .u64 (2) = if IntKind.u64 = IntKind.u64 ∧ (2) ≠ 0 then some (.int .u64 (Int.tmod (t5 p) (2))) else none from rfl, if_pos ⟨rfl, by omega⟩, Int.tmod_eq_emod_of_nonneg (by omega)]; exact congrArg (fun z => some (Value.int .u64 z)) (by omega)⟩
  · exact ⟨rfl, rfl, rfl, congrArg (fun z => some (Value.bool z)) (decide_eq_true (show ((2) < (p 3)) from by omega))⟩
  · exact ⟨rfl, rfl, rfl, by show intBin .rem .u64 (t6 p) .u64 (1) = some (.int .u64 (0)); rw [show intBin .rem .u64 (t6 p) .u64 (1) = if IntKind.u64 = IntKind.u64 ∧ (1) ≠ 0 then some (.int .u64 (Int.tmod (t6 p) (1))) else none from rfl, if_pos ⟨rfl, by omega⟩, Int.tmod_eq_emod_of_nonneg (by omega)]; exact congrArg (fun z => some (Value.int .u64 z)) (by omega)⟩
def re : List (Value × Value × Bool) := []
theorem hre (p : Nat → Int) (h : H p) : ∀ x ∈ re, RuleE (θ p) x := fun x hx => nomatch hx
noncomputable abbrev sy (p : Nat → Int) (h : H p) : Sy := syOf (θ p) (plain p) r1 r2 re (hr1 p h) (hr2 p h) (hre p h)
abbrev R : RowS := (.chan (some 3), [.chan (some 0), .chan (some 1), .chan (some 2)])
noncomputable abbrev syR (p : Nat → Int) (h : H p) (D : List RowD) (hf : Fits (θ p) [R] D) : Sy := syRows (θ p) (plain p) r1 r2 re (hr1 p h) (hr2 p h) (hre p h) rfl rfl rfl [R] D hf
end ghe_m_1_1
namespace ghe_m_2_0
abbrev H (p : Nat → Int) : Prop := (-9223372036854775808 ≤ p 0 ∧ p 0 ≤ 9223372036854775807) ∧ (-9223372036854775808 ≤ p 1 ∧ p 1 ≤ 9223372036854775807) ∧ (-9223372036854775808 ≤ p 2 ∧ p 2 ≤ 9223372036854775807) ∧ (-9223372036854775808 ≤ p 3 ∧ p 3 ≤ 9223372036854775807) ∧ ((p 0 % 18446744073709551616) % 3 = 2) ∧ ((p 1 % 18446744073709551616) % 2 = 0) ∧ (3 ≤ p 3)
def t0 (p : Nat → Int) : Int := p 0
def t1 (p : Nat → Int) : Int := p 1
def t2 (p : Nat → Int) : Int := p 2
def t3 (p : Nat → Int) : Int := p 3
def t4 (p : Nat → Int) : Int := (IntKind.u64.wrap (p 0))
def t5 (p : Nat → Int) : Int := (IntKind.u64.wrap (p 1))
def t6 (p : Nat → Int) : Int := (IntKind.u64.wrap (p 2))
def θ (p : Nat → Int) : Nat → Value := fun j => match j with
  | 0 => .int .i64 (t0 p)
  | 1 => .int .i64 (t1 p)
  | 2 => .int .i64 (t2 p)
  | 3 => .int .i64 (t3 p)
  | 4 => .int .u64 (t4 p)
  | 5 => .int .u64 (t5 p)
  | 6 => .int .u64 (t6 p)
  | _ => .bool false
theorem plain (p : Nat → Int) : ∀ j, plainV (θ p j) = true := by intro j; unfold θ; split <;> rfl
theorem fs (p : Nat → Int) : (t4 p = (p 0) % 18446744073709551616) ∧ (t5 p = (p 1) % 18446744073709551616) ∧ (t6 p = (p 2) % 18446744073709551616) := ⟨w_u64 _, w_u64 _, w_u64 _⟩
def r1 : List (U1 × Value × Value) := [((.conv .u64), (.chan (some 0)), (.chan (some 4))), ((.conv .u64), (.chan (some 1)), (.chan (some 5))), ((.conv .u64), (.chan (some 2)), (.chan (some 6)))]
theorem hr1 (p : Nat → Int) (h : H p) : ∀ x ∈ r1, Rule1 (θ p) x := by
  obtain ⟨⟨a0, b0⟩, ⟨a1, b1⟩, ⟨a2, b2⟩, ⟨a3, b3⟩, hc0, hc1, hc2⟩ := h
  obtain ⟨f4, f5, f6⟩ := fs p
  intro x hx
  simp only [r1, List.mem_cons, List.not_mem_nil, or_false] at hx
  rcases hx with rfl | rfl | rfl
  · exact ⟨rfl, rfl, congrArg (fun z => some (Value.int .u64 z)) (show IntKind.u64.wrap (p 0) = (t4 p) from ((w_u64 _).trans (by omega)))⟩
  · exact ⟨rfl, rfl, congrArg (fun z => some (Value.int .u64 z)) (show IntKind.u64.wrap (p 1) = (t5 p) from ((w_u64 _).trans (by omega)))⟩
  · exact ⟨rfl, rfl, congrArg (fun z => some (Value.int .u64 z)) (show IntKind.u64.wrap (p 2) = (t6 p) from ((w_u64 _).trans (by omega)))⟩
def r2 : List (U2 × Value × Value × Value) := [((.bin .lss), (.int .i64 0), (.chan (some 3)), (.bool true)), ((.bin .rem), (.chan (some 4)), (.int .u64 3), (.int .u64 2)), ((.bin .lss), (.int .i64 1), (.chan (some 3)), (.bool true)), ((.bin .rem), (.chan (some 5)), (.int .u64 2), (.int .u64 0)), ((.bin .lss), (.int .i64 2), (.chan (some 3)), (.bool true)), ((.bin .rem), (.chan (some 6)), (.int .u64 1), (.int .u64 0))]
theorem hr2 (p : Nat → Int) (h : H p) : ∀ x ∈ r2, Rule2 (θ p) x := by
  obtain ⟨⟨a0, b0⟩, ⟨a1, b1⟩, ⟨a2, b2⟩, ⟨a3, b3⟩, hc0, hc1, hc2⟩ := h
  obtain ⟨f4, f5, f6⟩ := fs p
  intro x hx
  simp only [r2, List.mem_cons, List.not_mem_nil, or_false] at hx
  rcases hx with rfl | rfl | rfl | rfl | rfl | rfl
  · exact ⟨rfl, rfl, rfl, congrArg (fun z => some (Value.bool z)) (decide_eq_true (show ((0) < (p 3)) from by omega))⟩
  · exact ⟨rfl, rfl, rfl, by show intBin .rem .u64 (t4 p) .u64 (3) = some (.int .u64 (2)); rw [show intBin .rem .u64 (t4 p) .u64 (3) = if IntKind.u64 = IntKind.u64 ∧ (3) ≠ 0 then some (.int .u64 (Int.tmod (t4 p) (3))) else none from rfl, if_pos ⟨rfl, by omega⟩, Int.tmod_eq_emod_of_nonneg (by omega)]; exact congrArg (fun z => some (Value.int .u64 z)) (by omega)⟩
  · exact ⟨rfl, rfl, rfl, congrArg (fun z => some (Value.bool z)) (decide_eq_true (show ((1) < (p 3)) from by omega))⟩
  · exact ⟨rfl, rfl, rfl, by show intBin .rem .u64 (t5 p) .u64 (2) = some (.int .u64 (0)); rw [show intBin .rem .u64 (t5 p) .u64 (2) = if IntKind.u64 = IntKind.u64 ∧ (2) ≠ 0 then some (.int .u64 (Int.tmod (t5 p) (2))) else none from rfl, if_pos ⟨rfl, by omega⟩, Int.tmod_eq_emod_of_nonneg (by omega)]; exact congrArg (fun z => some (Value.int .u64 z)) (by omega)⟩
  · exact ⟨rfl, rfl, rfl, congrArg (fun z => some (Value.bool z)) (decide_eq_true (show ((2) < (p 3)) from by omega))⟩
  · exact ⟨rfl, rfl, rfl, by show intBin .rem .u64 (t6 p) .u64 (1) = some (.int .u64 (0)); rw [show intBin .rem .u64 (t6 p) .u64 (1) = if IntKind.u64 = IntKind.u64 ∧ (1) ≠ 0 then some (.int .u64 (Int.tmod (t6 p) (1))) else none from rfl, if_pos ⟨rfl, by omega⟩, Int.tmod_eq_emod_of_nonneg (by omega)]; exact congrArg (fun z => some (Value.int .u64 z)) (by omega)⟩
def re : List (Value × Value × Bool) := []
theorem hre (p : Nat → Int) (h : H p) : ∀ x ∈ re, RuleE (θ p) x := fun x hx => nomatch hx
noncomputable abbrev sy (p : Nat → Int) (h : H p) : Sy := syOf (θ p) (plain p) r1 r2 re (hr1 p h) (hr2 p h) (hre p h)
abbrev R : RowS := (.chan (some 3), [.chan (some 0), .chan (some 1), .chan (some 2)])
noncomputable abbrev syR (p : Nat → Int) (h : H p) (D : List RowD) (hf : Fits (θ p) [R] D) : Sy := syRows (θ p) (plain p) r1 r2 re (hr1 p h) (hr2 p h) (hre p h) rfl rfl rfl [R] D hf
end ghe_m_2_0
namespace ghe_m_2_1
abbrev H (p : Nat → Int) : Prop := (-9223372036854775808 ≤ p 0 ∧ p 0 ≤ 9223372036854775807) ∧ (-9223372036854775808 ≤ p 1 ∧ p 1 ≤ 9223372036854775807) ∧ (-9223372036854775808 ≤ p 2 ∧ p 2 ≤ 9223372036854775807) ∧ (-9223372036854775808 ≤ p 3 ∧ p 3 ≤ 9223372036854775807) ∧ ((p 0 % 18446744073709551616) % 3 = 2) ∧ ((p 1 % 18446744073709551616) % 2 = 1) ∧ (3 ≤ p 3)
def t0 (p : Nat → Int) : Int := p 0
def t1 (p : Nat → Int) : Int := p 1
def t2 (p : Nat → Int) : Int := p 2
def t3 (p : Nat → Int) : Int := p 3
def t4 (p : Nat → Int) : Int := (IntKind.u64.wrap (p 0))
def t5 (p : Nat → Int) : Int := (IntKind.u64.wrap (p 1))
def t6 (p : Nat → Int) : Int := (IntKind.u64.wrap (p 2))
def θ (p : Nat → Int) : Nat → Value := fun j => match j with
  | 0 => .int .i64 (t0 p)
  | 1 => .int .i64 (t1 p)
  | 2 => .int .i64 (t2 p)
  | 3 => .int .i64 (t3 p)
  | 4 => .int .u64 (t4 p)
  | 5 => .int .u64 (t5 p)
  | 6 => .int .u64 (t6 p)
  | _ => .bool false
theorem plain (p : Nat → Int) : ∀ j, plainV (θ p j) = true := by intro j; unfold θ; split <;> rfl
theorem fs (p : Nat → Int) : (t4 p = (p 0) % 18446744073709551616) ∧ (t5 p = (p 1) % 18446744073709551616) ∧ (t6 p = (p 2) % 18446744073709551616) := ⟨w_u64 _, w_u64 _, w_u64 _⟩
def r1 : List (U1 × Value × Value) := [((.conv .u64), (.chan (some 0)), (.chan (some 4))), ((.conv .u64), (.chan (some 1)), (.chan (some 5))), ((.conv .u64), (.chan (some 2)), (.chan (some 6)))]
theorem hr1 (p : Nat → Int) (h : H p) : ∀ x ∈ r1, Rule1 (θ p) x := by
  obtain ⟨⟨a0, b0⟩, ⟨a1, b1⟩, ⟨a2, b2⟩, ⟨a3, b3⟩, hc0, hc1, hc2⟩ := h
  obtain ⟨f4, f5, f6⟩ := fs p
  intro x hx
  simp only [r1, List.mem_cons, List.not_mem_nil, or_false] at hx
  rcases hx with rfl | rfl | rfl
  · exact ⟨rfl, rfl, congrArg (fun z => some (Value.int .u64 z)) (show IntKind.u64.wrap (p 0) = (t4 p) from ((w_u64 _).trans (by omega)))⟩
  · exact ⟨rfl, rfl, congrArg (fun z => some (Value.int .u64 z)) (show IntKind.u64.wrap (p 1) = (t5 p) from ((w_u64 _).trans (by omega)))⟩
  · exact ⟨rfl, rfl, congrArg (fun z => some (Value.int .u64 z)) (show IntKind.u64.wrap (p 2) = (t6 p) from ((w_u64 _).trans (by omega)))⟩
def r2 : List (U2 × Value × Value × Value) := [((.bin .lss), (.int .i64 0), (.chan (some 3)), (.bool true)), ((.bin .rem), (.chan (some 4)), (.int .u64 3), (.int .u64 2)), ((.bin .lss), (.int .i64 1), (.chan (some 3)), (.bool true)), ((.bin .rem), (.chan (some 5)), (.int .u64 2), (.int .u64 1)), ((.bin .lss), (.int .i64 2), (.chan (some 3)), (.bool true)), ((.bin .rem), (.chan (some 6)), (.int .u64 1), (.int .u64 0))]
theorem hr2 (p : Nat → Int) (h : H p) : ∀ x ∈ r2, Rule2 (θ p) x := by
  obtain ⟨⟨a0, b0⟩, ⟨a1, b1⟩, ⟨a2, b2⟩, ⟨a3, b3⟩, hc0, hc1, hc2⟩ := h
  obtain ⟨f4, f5, f6⟩ := fs p
  intro x hx
  simp only [r2, List.mem_cons, List.not_mem_nil, or_false] at hx
  rcases hx with rfl | rfl | rfl | rfl | rfl | rfl
  · exact ⟨rfl, rfl, rfl, congrArg (fun z => some (Value.bool z)) (decide_eq_true (show ((0) < (p 3)) from by omega))⟩
  · exact ⟨rfl, rfl, rfl, by show intBin .rem .u64 (t4 p) .u64 (3) = some (.int .u64 (2)); rw [show intBin .rem .u64 (t4 p) .u64 (3) = if IntKind.u64 = IntKind.u64 ∧ (3) ≠ 0 then some (.int .u64 (Int.tmod (t4 p) (3))) else none from rfl, if_pos ⟨rfl, by omega⟩, Int.tmod_eq_emod_of_nonneg (by omega)]; exact congrArg (fun z => some (Value.int .u64 z)) (by omega)⟩
  · exact ⟨rfl, rfl, rfl, congrArg (fun z => some (Value.bool z)) (decide_eq_true (show ((1) < (p 3)) from by omega))⟩
  · exact ⟨rfl, rfl, rfl, by show intBin .rem .u64 (t5 p) .u64 (2) = some (.int .u64 (1)); rw [show intBin .rem .u64 (t5 p) .u64 (2) = if IntKind.u64 = IntKind.u64 ∧ (2) ≠ 0 then some (.int .u64 (Int.tmod (t5 p) (2))) else none from rfl, if_pos ⟨rfl, by omega⟩, Int.tmod_eq_emod_of_nonneg (by omega)]; exact congrArg (fun z => some (Value.int .u64 z)) (by omega)⟩
  · exact ⟨rfl, rfl, rfl, congrArg (fun z => some (Value.bool z)) (decide_eq_true (show ((2) < (p 3)) from by omega))⟩
  · exact ⟨rfl, rfl, rfl, by show intBin .rem .u64 (t6 p) .u64 (1) = some (.int .u64 (0)); rw [show intBin .rem .u64 (t6 p) .u64 (1) = if IntKind.u64 = IntKind.u64 ∧ (1) ≠ 0 then some (.int .u64 (Int.tmod (t6 p) (1))) else none from rfl, if_pos ⟨rfl, by omega⟩, Int.tmod_eq_emod_of_nonneg (by omega)]; exact congrArg (fun z => some (Value.int .u64 z)) (by omega)⟩
def re : List (Value × Value × Bool) := []
theorem hre (p : Nat → Int) (h : H p) : ∀ x ∈ re, RuleE (θ p) x := fun x hx => nomatch hx
noncomputable abbrev sy (p : Nat → Int) (h : H p) : Sy := syOf (θ p) (plain p) r1 r2 re (hr1 p h) (hr2 p h) (hre p h)
abbrev R : RowS := (.chan (some 3), [.chan (some 0), .chan (some 1), .chan (some 2)])
noncomputable abbrev syR (p : Nat → Int) (h : H p) (D : List RowD) (hf : Fits (θ p) [R] D) : Sy := syRows (θ p) (plain p) r1 r2 re (hr1 p h) (hr2 p h) (hre p h) rfl rfl rfl [R] D hf
end ghe_m_2_1
namespace ghe_e
def θ : Nat → Value := fun _ => .bool false
abbrev R : RowS := (.int .i64 0, [])
noncomputable abbrev syR (D : List RowD) (hf : Fits θ [R] D) : Sy := syRows θ (fun _ => rfl) [] [] [] (fun x hx => nomatch hx) (fun x hx => nomatch hx) (fun x hx => nomatch hx) rfl rfl rfl [R] D hf
end ghe_e
end Go.Proofs.YtmpgfgemnhbkhaaGreatDoor
