/- Package-level variables as they are laid, and structs, opened for a walk. -/
import Derived.Test.YtkgpmjjleemdlaaGreatLawRow
import Derived.LaidMore
import Derived.LaidSub
import Derived.MakeChecks
import Derived.Stop.Joined
import Derived.OpenShut
import Derived.SevenTiedAt
set_option linter.unusedSimpArgs false
set_option linter.unusedVariables false
namespace Go.Proofs.YtkgpmjjleemdlaaGreat
open Go.ChangeShapes Go.WideShapes Go.ChangeAt Go.RowKit

section
variable {H : Type} {enc : TypeId × Value → H} {P : Program}

/-- A table of whole numbers. -/
theorem laid_ints {W : World} {laid : List (String × DataW Unit)} (name : String) (g : Nat) (t e : TypeId) (k : IntKind) (xs : List Int) (hL : laidMetH P laid W)
    (hf : (laid.filter fun x => x.1 == name) = [(name, .agg (xs.map fun x => .lit (.int k x)))]) (hg : P.globalNamed name = some g) (ht : (P.globals[g]?).map (·.type) = some t)
    (hu : P.underlying t = some (.array xs.length e)) (hue : P.underlying e = some (.int k)) (hc : P.cellsOf e = 1) : ∀ i x, xs[i]? = some x → Go.Eng.wcell W g i = some (.int k x) := by
  have h1 := hL.filter fun x => x.1 == name
  rw [hf, MakeChecks.laidMetH_plain _ _ _ (by rfl)] at h1
  obtain ⟨ps, ⟨g0, t0, cs0, f0, p0, q0, hg0, ht0, hv0, hd0, _⟩, _⟩ := h1
  obtain rfl := Option.some.inj (hg.symm.trans hg0)
  obtain rfl := Option.some.inj (ht.symm.trans ht0)
  obtain ⟨ys, m1, rfl, hy1, hlen, hn3, hel⟩ := DataW.trod_array hu hd0
  intro i x hx
  have hi : i < xs.length := by
    rcases Nat.lt_or_ge i xs.length with h | h
    · exact h
    · rw [List.getElem?_eq_none h] at hx; cases hx
  have h0 := hel i hi
  rw [hc, Nat.mul_one] at h0
  simp only [Prod.mk.injEq, DataW.agg.injEq] at hy1
  have hiy : i < ys.length := by omega
  rw [List.getElem?_eq_getElem hiy] at h0
  obtain ⟨n, e1, e2, _⟩ := DataW.trod_int hue h0
  have hx2 : (xs.map fun x => (DataW.lit (.int k x) : DataW Unit))[i]? = (ys.map (·.1))[i]? := by rw [hy1.1]
  rw [List.getElem?_map, List.getElem?_map, hx, List.getElem?_eq_getElem hiy] at hx2
  simp only [Option.map_some, Option.some.injEq] at hx2
  rw [e2] at hx2
  simp only [DataW.lit.injEq, Lit.int.injEq, true_and] at hx2
  subst hx2
  have h2 := World.var?_cell hg0 hv0 i
  have h3 : cs0[i]? = some (.int k x) := by
    have := drop_take_one e1
    simpa using this
  rw [h3] at h2
  exact (cell_wcell h2).2

/-- A struct's fields. -/
theorem open_struct {W : World} {sp : Nat → Bool} {base b0 : Nat} {r : Reach} {t : TypeId} {fs : Array Field} {v : Value} {d : DataW H} {ps : List MemPlace} (ht : P.underlying t = some (.struct fs)) (hval : Value.okWide P W r b0 t v)
    (h : DataW.Trod enc P W base sp true t v d ps) : ∃ cs : Array Value, v = .agg cs ∧ cs.size = P.cellsOf t ∧ ∃ n, ∀ (i : Nat) (f : Field), fs[i]? = some f → ∃ y, DataW.trod enc P W base sp true n f.type ((cs.toList.drop f.offset).take (P.cellsOf f.type)) = some y := by
  obtain ⟨cs, rfl, hs⟩ := okWide_struct ht hval
  obtain ⟨fuel, hf⟩ := h
  obtain ⟨xs, n, rfl, _, _, hl, hel⟩ := DataW.trod_struct ht hf
  refine ⟨cs, rfl, hs, n, fun i f hi => ?_⟩
  have h1 := hel i f hi
  have hi' : i < xs.length := by
    rw [hl]
    rcases Nat.lt_or_ge i fs.size with h | h
    · exact h
    · rw [Array.getElem?_eq_none h] at hi; cases hi
  rw [List.getElem?_eq_getElem hi'] at h1
  exact ⟨_, h1⟩
theorem field_int {W : World} {sp : Nat → Bool} {base : Nat} {held : Bool} {n : Nat} {t : TypeId} {k : IntKind} {cs : List Value} {o : Nat} (ht : P.underlying t = some (.int k)) (hc : P.cellsOf t = 1)
    (h : ∃ y, DataW.trod enc P W base sp held n t ((cs.drop o).take (P.cellsOf t)) = some y) : ∃ x : Int, cs[o]? = some (.int k x) ∧ k.min ≤ x ∧ x ≤ k.max := by
  obtain ⟨y, h⟩ := h
  rw [hc] at h
  obtain ⟨x, e, _, hw⟩ := DataW.trod_int ht h
  exact ⟨x, drop_take_one e, by simpa [Lit.wf] using hw⟩
theorem field_bool {W : World} {sp : Nat → Bool} {base : Nat} {held : Bool} {n : Nat} {t : TypeId} {cs : List Value} {o : Nat} (ht : P.underlying t = some .bool) (hc : P.cellsOf t = 1)
    (h : ∃ y, DataW.trod enc P W base sp held n t ((cs.drop o).take (P.cellsOf t)) = some y) : ∃ x : Bool, cs[o]? = some (.bool x) := by
  obtain ⟨y, h⟩ := h
  rw [hc] at h
  obtain ⟨x, e, _⟩ := DataW.trod_bool ht h
  exact ⟨x, drop_take_one e⟩
end
end Go.Proofs.YtkgpmjjleemdlaaGreat
