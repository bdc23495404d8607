/- Rows of elements of one cell each. -/
import Derived.Test.YtkgpmjjleemdlaaGreatBase
set_option linter.unusedSimpArgs false
set_option linter.unusedVariables false
namespace Go.Eng

/-! Rows of elements of one cell. -/
abbrev Row1 (T : TypeId) (w : World) (v : Value) (xs : List Value) : Prop := Row T 1 w v xs.length xs
theorem row1_nil (T : TypeId) (w : World) : Row1 T w (.slice none 0 0) [] := row_nil T 1 w
theorem row1_one {T : TypeId} (w : World) (x : Value) : Row1 T (w.alloc (.cells #[x] T)) (.slice (some ⟨w.heap.size, 0, none⟩) 1 1) [x] :=
  ⟨by simp, .inr ⟨w.heap.size, 1, #[x], rfl, by omega, hp_new w _, by simp, by unfold maxLen; omega, by simp, by simp⟩⟩
theorem row1_len {T : TypeId} {w : World} {v : Value} {xs : List Value} (h : Row1 T w v xs) : lenV false v = some (.int .i64 xs.length) := rowLen h
theorem row1_ix {T : TypeId} {w : World} {v : Value} {xs : List Value} (h : Row1 T w v xs) {i : Nat} {x : Value} (hx : xs[i]? = some x) : ∃ g c, v = .slice (some ⟨g, 0, none⟩) xs.length c ∧ wcell w g i = some x := by
  have hi : i < xs.length := (List.getElem?_eq_some_iff.1 hx).1
  obtain ⟨g, c, rfl, _, _, hy⟩ := rowForm h (by omega)
  exact ⟨g, c, rfl, hy i x hx⟩
section
variable {P : Program} {R : Env → World → Prop} {k : List It} {env : Env} {w : World}
end
end Go.Eng
