/- Arrays of whole numbers as arguments, opened for a walk. -/
import Derived.Test.YtkgpmjjleemdlaaGreatLaw
import Derived.OpenShut
set_option linter.unusedSimpArgs false
set_option linter.unusedVariables false
namespace Go.Proofs.YtkgpmjjleemdlaaGreat
open Go.ChangeShapes Go.WideShapes Go.ChangeAt Go.RowKit

section
variable {H : Type} {enc : TypeId × Value → H} {P : Program}
theorem open_array {W : World} {sp : Nat → Bool} {base b0 n : Nat} {held : Bool} {r : Reach} {t e : TypeId} {k : IntKind} {v : Value} {d : DataW H} {ps : List MemPlace} (ht : P.underlying t = some (.array n e)) (he : P.underlying e = some (.int k)) (hce : P.cellsOf e = 1)
    (hct : P.cellsOf t = n) (hk : k.min ≤ 0 ∧ 0 ≤ k.max) (hval : Value.okWide P W r b0 t v) (h : DataW.Trod enc P W base sp held t v d ps) :
    ∃ (cs : Array Value) (c : Nat → Int), v = .agg cs ∧ cs.size = n ∧ (∀ i, i < n → cs[i]? = some (.int k (c i))) ∧ ∀ i, k.min ≤ c i ∧ c i ≤ k.max := by
  simp only [Value.okWide, ht] at hval
  obtain ⟨cs, rfl, hs, _⟩ := hval
  obtain ⟨fuel, hf⟩ := h
  obtain ⟨xs, m, _, _, hl, hxl, hel⟩ := DataW.trod_array ht hf
  rw [hct] at hl hs
  have key : ∀ i, i < n → ∃ x : Int, cs[i]? = some (.int k x) ∧ k.min ≤ x ∧ x ≤ k.max := fun i hi => by
    have h1 := hel i hi
    rw [List.getElem?_eq_getElem (by omega), hce] at h1
    obtain ⟨x, e, _, hw⟩ := DataW.trod_int he h1
    refine ⟨x, ?_, by simpa [Lit.wf] using hw⟩
    have h2 := congrArg (fun l : List Value => l[0]?) e
    simp only [List.getElem?_take, List.getElem?_drop, Nat.mul_one, Nat.add_zero] at h2
    rw [if_pos (by omega)] at h2
    simpa [Value.cells] using h2
  obtain ⟨c, hc⟩ : ∃ c : Nat → Int, ∀ i, (i < n → cs[i]? = some (.int k (c i)) ∧ k.min ≤ c i ∧ c i ≤ k.max) ∧ (¬ i < n → c i = 0) :=
    ⟨fun i => if h : i < n then (key i h).choose else 0, fun i => ⟨fun hi => by simp only [dif_pos hi]; exact (key i hi).choose_spec, fun hi => dif_neg hi⟩⟩
  refine ⟨cs, c, rfl, hs, fun i hi => ((hc i).1 hi).1, fun i => ?_⟩
  by_cases hi : i < n
  · exact ((hc i).1 hi).2
  · rw [(hc i).2 hi]; exact hk
theorem array_two {cs : Array Value} {c : Nat → Int} {k : IntKind} (hs : cs.size = 2) (h : ∀ i, i < 2 → cs[i]? = some (.int k (c i))) : cs = #[.int k (c 0), .int k (c 1)] := by
  apply Array.ext_getElem?
  intro i
  by_cases hi : i < 2
  · rw [h i hi]
    have : i = 0 ∨ i = 1 := by omega
    rcases this with rfl | rfl <;> rfl
  · have e1 : cs[i]? = none := by simp; omega
    rw [e1]; simp; omega
theorem array_three {cs : Array Value} {c : Nat → Int} {k : IntKind} (hs : cs.size = 3) (h : ∀ i, i < 3 → cs[i]? = some (.int k (c i))) : cs = #[.int k (c 0), .int k (c 1), .int k (c 2)] := by
  apply Array.ext_getElem?
  intro i
  by_cases hi : i < 3
  · rw [h i hi]
    have : i = 0 ∨ i = 1 ∨ i = 2 := by omega
    rcases this with rfl | rfl | rfl <;> rfl
  · have e1 : cs[i]? = none := by simp; omega
    rw [e1]; simp; omega
end
end Go.Proofs.YtkgpmjjleemdlaaGreat
