/- Slices of bytes, opened for a walk. -/
import Derived.Test.YthfchnaocbkofaaLaw
import Derived.Test.YthfchnaocbkofaaOcts
set_option linter.unusedSimpArgs false
set_option linter.unusedVariables false
namespace Go.Proofs.Ythfchnaocbkofaa
open Go.ChangeShapes Go.WideShapes Go.ChangeAt Go.RowKit

theorem Try.cells_oct : Try.prog.cellsOf 5 = 1 := by kernel_rfl

theorem octs_of {H : Type} {enc : TypeId × Value → H} {w : World} {base : Nat} {held : Bool} {a0 : Option Addr} {len cap : Nat} {d : DataW H} {ps : List MemPlace} (h : DataW.Trod enc Try.prog w base (fun _ => true) held 22 (.slice a0 len cap) d ps) : ∃ xs, Octs w (.slice a0 len cap) xs := by
  obtain ⟨a, n, c, xs, hcs, hn, hnc, hmax, hwz, hrow⟩ := open_row Try.underlying22 Try.underlying5 Try.cells_oct (fun _ => rfl) h
  obtain ⟨rfl, rfl, rfl⟩ : a0 = a ∧ len = n ∧ cap = c := by simpa using hcs
  refine ⟨xs, a0, len, cap, rfl, hn, hnc, by simp only [maxLen] at hmax; omega, ?_, hrow⟩
  intro j
  by_cases hj : j < xs.length
  · have hmem : xs.getD j 0 ∈ xs := by
      rw [List.getD_eq_getElem?_getD, List.getElem?_eq_getElem hj]; exact List.getElem_mem hj
    have := hwz _ hmem
    have hb : IntKind.u8.min ≤ xs.getD j 0 ∧ xs.getD j 0 ≤ IntKind.u8.max := by simpa [Lit.wf] using this
    exact hb
  · have : xs.getD j 0 = 0 := by rw [List.getD_eq_getElem?_getD, List.getElem?_eq_none (by omega)]; rfl
    rw [this]; omega
end Go.Proofs.Ythfchnaocbkofaa
