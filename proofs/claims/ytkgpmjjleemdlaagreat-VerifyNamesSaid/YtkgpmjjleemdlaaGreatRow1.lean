/- Rows of elements of one cell each. -/
import Derived.Test.YtkgpmjjleemdlaaGreatBase
set_option linter.unusedSimpArgs false
set_option linter.unusedVariables false
namespace Go.Eng

/-! Rows of elements of one cell. -/
abbrev Row1 (T : TypeId) (w : World) (v : Value) (xs : List Value) : Prop := Row T 1 w v xs.length xs
theorem row1_nil (T : TypeId) (w : World) : Row1 T w (.slice none 0 0) [] := row_nil T 1 w
theorem row1_new {T : TypeId} (w : World) : Row1 T (w.alloc (.cells #[] T)) (.slice (some ⟨w.heap.size, 0, none⟩) 0 0) [] :=
  ⟨by simp, .inr ⟨w.heap.size, 0, #[], rfl, by omega, hp_new w _, by simp, by unfold maxLen; omega, by simp, by simp⟩⟩
theorem row1_one {T : TypeId} (w : World) (x : Value) : Row1 T (w.alloc (.cells #[x] T)) (.slice (some ⟨w.heap.size, 0, none⟩) 1 1) [x] :=
  ⟨by simp, .inr ⟨w.heap.size, 1, #[x], rfl, by omega, hp_new w _, by simp, by unfold maxLen; omega, by simp, by simp⟩⟩
theorem row1_len {T : TypeId} {w : World} {v : Value} {xs : List Value} (h : Row1 T w v xs) : lenV false v = some (.int .i64 xs.length) := rowLen h
theorem row1_ix {T : TypeId} {w : World} {v : Value} {xs : List Value} (h : Row1 T w v xs) {i : Nat} {x : Value} (hx : xs[i]? = some x) : ∃ g c, v = .slice (some ⟨g, 0, none⟩) xs.length c ∧ wcell w g i = some x := by
  have hi : i < xs.length := (List.getElem?_eq_some_iff.1 hx).1
  obtain ⟨g, c, rfl, _, _, hy⟩ := rowForm h (by omega)
  exact ⟨g, c, rfl, hy i x hx⟩
theorem row1_push {P : Program} {t T : TypeId} (ht : P.underlying t = some (.slice T)) (hi0 : (P.info? T).any (fun i => i.size == 1 && decide (i.bytes ≤ 4096) && i.zero.any (fun z => z.cells.size == 1)) = true)
    {w : World} {v : Value} {xs : List Value} {x : Value} (h : Row1 T w v xs) (hn : xs.length + 1 ≤ 1000000) (h1 : x.oneCell' = true) :
    ∃ v' w', (builtin .append #[t, t] t #[] #[v, .slice (some ⟨w.heap.size, 0, none⟩) 1 1]).run P (w.alloc (.cells #[x] T)) = .ok (.value v') w' ∧ Row1 T w' v' (xs ++ [x]) ∧ Kept (fun j => v.ownBlock = some j) w w' ∧
      (∀ j, v'.ownBlock = some j → v.ownBlock = some j ∨ w.heap.size ≤ j) := by
  have hk := (Kept.refl none' w).alloc (.cells #[x] T)
  have h' : Row1 T (w.alloc (.cells #[x] T)) v xs := rowCalm h hk
  obtain ⟨v', w', hr, hrow, hk', hat⟩ := row_append (P := P) (t := t) ht hi0 (by omega) (sb := w.heap.size) (so := 0) (c := 1) (m := 1) (ys := [x]) h' (by omega) rfl
    (fun j y hj => by
      cases j with
      | zero => simp at hj; subst hj; simp
      | succ j => simp at hj)
    (fun y hy => by simp at hy; subst hy; exact h1)
  refine ⟨v', w', hr, ?_, ?_, ?_⟩
  · simpa [Row1, List.length_append] using hrow
  · exact (hk.any (S := fun j => v.ownBlock = some j)).trans hk'
  · intro j hj
    rcases hat with e | e
    · rw [e] at hj; exact .inl hj
    · rw [e] at hj
      have : (w.alloc (.cells #[x] T)).heap.size = w.heap.size + 1 := by simp
      simp at hj; right; omega
section
variable {P : Program} {R : Env → World → Prop} {k : List It} {env : Env} {w : World}
/-- One more element. -/
theorem W_push {t T : TypeId} {a b vi : Nat} {e : Ex} {rest : Cmd} {v x : Value} {xs : List Value} (ht : P.underlying t = some (.slice T)) (hi0 : (P.info? T).any (fun i => i.size == 1 && decide (i.bytes ≤ 4096) && i.zero.any (fun z => z.cells.size == 1)) = true)
    (h : Row1 T w v xs) (hn : xs.length + 1 ≤ 1000000) (h1 : x.oneCell' = true) (hx : e.ev env w = some (.agg #[x])) (hc : (Value.agg #[x]).cells = #[x])
    (hv : evs (setO (some a) env (.slice (some ⟨w.heap.size, 0, none⟩) 1 1)) (w.alloc (.cells #[x] T)) [.var vi, .var a] = some [v, .slice (some ⟨w.heap.size, 0, none⟩) 1 1])
    (hk : ∀ v' w', Row1 T w' v' (xs ++ [x]) → Kept (fun j => v.ownBlock = some j) w w' → (∀ j, v'.ownBlock = some j → v.ownBlock = some j ∨ w.heap.size ≤ j) →
      W P R (.c rest :: k) (setO (some b) (setO (some a) env (.slice (some ⟨w.heap.size, 0, none⟩) 1 1)) v') w') :
    W P R (.c (.row (some a) T 1 e []) :: .c (.seq (.bi (some b) .append [t, t] t [.var vi, .var a] []) rest) :: k) env w := by
  refine W_row' hx hc ?_
  rw [W_seq]
  obtain ⟨v', w', hr, hrow, hk', hat⟩ := row1_push (P := P) ht hi0 h hn h1
  exact W_bi hv hr (stab_nil _ _ _) (hk v' w' hrow hk' hat)
end
end Go.Eng
