/- GateFirsts: symbols (mkfirsts.py). -/
import Derived.Test.YtmpgfgemnhbkhaaGreatDoorEngXY
import Derived.Test.YtmpgfgemnhbkhaaGreatDoorEngXN
import Derived.Test.YtmpgfgemnhbkhaaGreatDoorXgftab
set_option maxRecDepth 100000
set_option linter.unusedVariables false
namespace Go.Proofs.YtmpgfgemnhbkhaaGreatDoor
open Go Go.Eng
namespace gfi
def θ (p : Nat → Int) (j : Nat) : Value := if j < 3 then .int .i64 (p j) else if j < 100 then .int .u8 (p j) else if j = 200 then .int .u64 (IntKind.u64.wrap (p 0)) else .bool false
theorem plain (p : Nat → Int) : ∀ j, plainV (θ p j) = true := by
  intro j; unfold θ; split
  · rfl
  · split
    · rfl
    · split <;> rfl
abbrev H (a : Int) (p : Nat → Int) : Prop := (-9223372036854775808 ≤ p 0 ∧ p 0 ≤ 9223372036854775807) ∧ (-9223372036854775808 ≤ p 1 ∧ p 1 ≤ 9223372036854775807) ∧ (p 0 % 18446744073709551616) % 4 = a ∧ 40 ≤ p 2
def r1 : List (U1 × Value × Value) := [((.conv .u64), (.chan (some 0)), (.chan (some 200)))]
theorem hr1 (p : Nat → Int) : ∀ x ∈ r1, Rule1 (θ p) x := by
  intro x hx
  simp only [r1, List.mem_cons, List.not_mem_nil, or_false] at hx
  rcases hx with rfl
  exact ⟨rfl, rfl, rfl⟩
theorem rem_of {x m r : Int} (h0 : 0 ≤ x) (hm : m ≠ 0) (h : x % m = r) : intBin .rem .u64 x .u64 m = some (.int .u64 r) := by
  show (if IntKind.u64 = IntKind.u64 ∧ m ≠ 0 then some (Value.int .u64 (x.tmod m)) else none) = _
  rw [if_pos ⟨rfl, hm⟩, Int.tmod_eq_emod_of_nonneg h0, h]
theorem ruleRem (a : Int) (p : Nat → Int) (h : H a p) : Rule2 (θ p) ((.bin .rem), (.chan (some 200)), (.int .u64 4), (.int .u64 a)) :=
  ⟨rfl, rfl, rfl, rem_of (x := IntKind.u64.wrap (p 0)) (m := 4) (r := a) (by rw [w_u64]; omega) (by decide) (by rw [w_u64]; exact h.2.2.1)⟩
theorem ruleMn (a : Int) (p : Nat → Int) (h : H a p) : Rule2 (θ p) (.mn, (.chan (some 2)), (.int .i64 40), (.int .i64 40)) :=
  ⟨rfl, rfl, rfl, congrArg (fun z => some (Value.int .i64 z)) (show (if (40 : Int) < p 2 then (40 : Int) else p 2) = 40 from by have := h.2.2.2; split <;> omega)⟩
theorem ruleLss (p : Nat → Int) (b : Bool) (h : decide (p 1 < 0) = b) : Rule2 (θ p) ((.bin .lss), (.chan (some 1)), (.int .i64 0), (.bool b)) :=
  ⟨rfl, rfl, rfl, congrArg (fun z => some (Value.bool z)) h⟩
theorem ruleGeq (p : Nat → Int) (h : 1 ≤ p 1) : Rule2 (θ p) ((.bin .geq), (.chan (some 1)), (.int .i64 1), (.bool true)) :=
  ⟨rfl, rfl, rfl, congrArg (fun z => some (Value.bool z)) (decide_eq_true (show p 1 ≥ 1 from h))⟩
theorem ruleNeq (p : Nat → Int) (h : p 1 ≠ 0) : Rule2 (θ p) ((.bin .neq), (.chan (some 1)), (.int .i64 0), (.bool true)) :=
  ⟨rfl, rfl, rfl, congrArg (fun z => some (Value.bool z)) (show (!(p 1 == 0)) = true from by rw [beq_eq_false_iff_ne.2 h]; rfl)⟩
def re : List (Value × Value × Bool) := []
theorem hre (p : Nat → Int) : ∀ x ∈ re, RuleE (θ p) x := fun x hx => nomatch hx
def es : List Value := [.chan (some 3), .chan (some 4), .chan (some 5), .chan (some 6), .chan (some 7), .chan (some 8), .chan (some 9), .chan (some 10), .chan (some 11), .chan (some 12), .chan (some 13), .chan (some 14), .chan (some 15), .chan (some 16), .chan (some 17), .chan (some 18), .chan (some 19), .chan (some 20), .chan (some 21), .chan (some 22), .chan (some 23), .chan (some 24), .chan (some 25), .chan (some 26), .chan (some 27), .chan (some 28), .chan (some 29), .chan (some 30), .chan (some 31), .chan (some 32), .chan (some 33), .chan (some 34), .chan (some 35), .chan (some 36), .chan (some 37), .chan (some 38), .chan (some 39), .chan (some 40), .chan (some 41), .chan (some 42)]
theorem es_eq : es = (List.range 40).map fun j => Value.chan (some (3 + j)) := by rfl
theorem es_get {L i : Nat} {v : Value} (h : (es.take L)[i]? = some v) : i < 40 ∧ v = .chan (some (3 + i)) := by
  rw [List.getElem?_take] at h
  split at h
  · rw [es_eq, List.getElem?_map, Option.map_eq_some_iff] at h
    obtain ⟨j, hj, rfl⟩ := h
    obtain ⟨h1, h2⟩ := List.getElem?_eq_some_iff.1 hj
    rw [List.getElem_range] at h2
    subst h2
    exact ⟨by simpa using h1, rfl⟩
  · cases h
abbrev R (L : Nat) : RowS := (.int .i64 (.ofNat L), es.take L)
abbrev RB : RowS := (.chan (some 2), es.take 40)
def pf (x0 x2 m : Int) (xs : List Int) (j : Nat) : Int := if j = 0 then x0 else if j = 1 then x2 else if j = 2 then m else xs.getD (j - 3) 0
theorem els (x0 x2 m : Int) (xs : List Int) (L : Nat) (i : Nat) (v : Value) (h : (es.take L)[i]? = some v) : syV (θ (pf x0 x2 m xs)) v = .int .u8 (xs.getD i 0) := by
  obtain ⟨h1, rfl⟩ := es_get h
  show θ (pf x0 x2 m xs) (3 + i) = _
  unfold θ pf
  rw [if_neg (by omega), if_pos (by omega), if_neg (by omega), if_neg (by omega), if_neg (by omega)]
  congr 2
  omega
theorem lows {L : Nat} : ∀ v ∈ es.take L, lowS v = true := fun v hv => List.all_eq_true.1 (show es.all lowS = true by rfl) v (List.mem_of_mem_take hv)
theorem len_take (L : Nat) (h : L ≤ 40) : (es.take L).length = L := by rw [List.length_take]; exact Nat.min_eq_left h
def r2Z (a : Int) : List (U2 × Value × Value × Value) := [((.bin .rem), (.chan (some 200)), (.int .u64 4), (.int .u64 a)), (.mn, (.chan (some 2)), (.int .i64 40), (.int .i64 40))]
theorem hr2Z (a : Int) (p : Nat → Int) (h : H a p) : ∀ x ∈ r2Z a, Rule2 (θ p) x := by
  intro x hx
  simp only [r2Z, List.mem_cons, List.not_mem_nil, or_false] at hx
  rcases hx with rfl | rfl
  · exact ruleRem a p h
  · exact ruleMn a p h
noncomputable abbrev syZ (a : Int) (p : Nat → Int) (h : H a p) (s : RowS) (D : List RowD) (hf : Fits (θ p) [s] D) : Sy := syRows (θ p) (plain p) r1 (r2Z a) re (hr1 p) (hr2Z a p h) (hre p) rfl rfl rfl [s] D hf
def r2P (a : Int) : List (U2 × Value × Value × Value) := [((.bin .rem), (.chan (some 200)), (.int .u64 4), (.int .u64 a)), (.mn, (.chan (some 2)), (.int .i64 40), (.int .i64 40)), ((.bin .lss), (.chan (some 1)), (.int .i64 0), (.bool false)), ((.bin .geq), (.chan (some 1)), (.int .i64 1), (.bool true)), ((.bin .neq), (.chan (some 1)), (.int .i64 0), (.bool true))]
theorem hr2P (a : Int) (p : Nat → Int) (h : H a p ∧ 1 ≤ p 1) : ∀ x ∈ r2P a, Rule2 (θ p) x := by
  intro x hx
  simp only [r2P, List.mem_cons, List.not_mem_nil, or_false] at hx
  rcases hx with rfl | rfl | rfl | rfl | rfl
  · exact ruleRem a p h.1
  · exact ruleMn a p h.1
  · exact ruleLss p false (decide_eq_false (by have := h.2; omega))
  · exact ruleGeq p h.2
  · exact ruleNeq p (by have := h.2; omega)
noncomputable abbrev syP (a : Int) (p : Nat → Int) (h : H a p ∧ 1 ≤ p 1) (s : RowS) (D : List RowD) (hf : Fits (θ p) [s] D) : Sy := syRows (θ p) (plain p) r1 (r2P a) re (hr1 p) (hr2P a p h) (hre p) rfl rfl rfl [s] D hf
def r2M (a : Int) : List (U2 × Value × Value × Value) := [((.bin .rem), (.chan (some 200)), (.int .u64 4), (.int .u64 a)), (.mn, (.chan (some 2)), (.int .i64 40), (.int .i64 40)), ((.bin .lss), (.chan (some 1)), (.int .i64 0), (.bool true)), ((.bin .neq), (.chan (some 1)), (.int .i64 0), (.bool true))]
theorem hr2M (a : Int) (p : Nat → Int) (h : H a p ∧ p 1 < 0) : ∀ x ∈ r2M a, Rule2 (θ p) x := by
  intro x hx
  simp only [r2M, List.mem_cons, List.not_mem_nil, or_false] at hx
  rcases hx with rfl | rfl | rfl | rfl
  · exact ruleRem a p h.1
  · exact ruleMn a p h.1
  · exact ruleLss p true (decide_eq_true h.2)
  · exact ruleNeq p (by have := h.2; omega)
noncomputable abbrev syM (a : Int) (p : Nat → Int) (h : H a p ∧ p 1 < 0) (s : RowS) (D : List RowD) (hf : Fits (θ p) [s] D) : Sy := syRows (θ p) (plain p) r1 (r2M a) re (hr1 p) (hr2M a p h) (hre p) rfl rfl rfl [s] D hf
end gfi
end Go.Proofs.YtmpgfgemnhbkhaaGreatDoor
