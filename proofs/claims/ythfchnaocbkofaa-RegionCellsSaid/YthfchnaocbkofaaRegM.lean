/- Layer 19, part M: Bytes of the stack; sizes. -/
import Derived.Test.YthfchnaocbkofaaRegL
import Derived.ArgAppend
set_option linter.unusedSimpArgs false
set_option linter.unusedVariables false
set_option maxRecDepth 8000
namespace Go.Proofs.Ythfchnaocbkofaa
open Go.Eng

theorem wcell_cell {w : World} {b off : Nat} {v : Value} (h : wcell w b off = some v) : w.cell? ⟨b, off, none⟩ = some v := by
  unfold wcell at h
  unfold World.cell?
  cases hb : w.heap[b]? with
  | none => rw [hb] at h; cases h
  | some o => rw [hb] at h; cases o <;> first | exact h | cases h

/-- append onto a new, empty row: a copy. -/
theorem append_copy {P : Program} {t ty e : TypeId} (ht : P.underlying t = some (.slice e)) (hi0 : (P.info? e).any (fun i => i.size == 1 && decide (i.bytes ≤ 64) && i.zero.isSome) = true) {w : World} {nb b off n c : Nat} {x : Nat → Value}
    (hx : ∀ j, j < n → wcell w b (off + j) = some (x j)) (hn : n ≤ 1000000) :
    ∃ nb' c' w', (builtin .append #[t, t] ty #[] #[.slice (some ⟨nb, 0, none⟩) 0 0, .slice (some ⟨b, off, none⟩) n c]).run P w = .ok (.value (.slice (some ⟨nb', 0, none⟩) n c')) w' ∧ Kept none' w w' ∧
      n ≤ c' ∧ (nb' = nb ∨ nb' = w.heap.size) ∧ (∀ j, j < n → wcell w' nb' j = some (x j)) := by
  obtain ⟨i, hi, hi1⟩ : ∃ i, P.info? e = some i ∧ (i.size == 1 && decide (i.bytes ≤ 64) && i.zero.isSome) = true := by
    cases h : P.info? e with
    | none => rw [h] at hi0; cases hi0
    | some i => rw [h] at hi0; exact ⟨i, rfl, hi0⟩
  simp only [Bool.and_eq_true, beq_iff_eq, decide_eq_true_eq] at hi1
  obtain ⟨⟨hs, hy⟩, hz0⟩ := hi1
  obtain ⟨z, hz⟩ := Option.isSome_iff_exists.1 hz0
  have hb : ∀ v w', (Builtin.append_ #[t, t] ty #[.slice (some ⟨nb, 0, none⟩) 0 0, .slice (some ⟨b, off, none⟩) n c]).run P w = .ok v w' →
      (builtin .append #[t, t] ty #[] #[.slice (some ⟨nb, 0, none⟩) 0 0, .slice (some ⟨b, off, none⟩) n c]).run P w = .ok (.value v) w' := by
    intro v w' h
    simp only [builtin, map_eq_pure_bind, Sem.run_bind, h]
    rfl
  by_cases h0 : n = 0
  · subst h0
    refine ⟨nb, 0, w, hb _ _ ?_, Kept.refl _ _, by omega, .inl rfl, fun j hj => by omega⟩
    have hr := run_append_room_cells (P := P) w t ty e i ht hi nb 0 0 0 ⟨b, off, none⟩ 0 c [] (by simp) (by simp) (by simp) (by omega) (by simp) (by simp)
    have hw : w.setCells nb 0 [] = w := rfl
    simpa [hw] using hr
  · have hl : (List.ofFn (n := n) fun j => x j.val).length = n * i.size := by simp [hs]
    have hnews : ∀ j v, (List.ofFn (n := n) fun j => x j.val)[j]? = some v → w.cell? (Addr.add ⟨b, off, none⟩ j) = some v := by
      intro j v hv
      have hj : j < n := by have := (List.getElem?_eq_some_iff.1 hv).1; simpa using this
      rw [List.getElem?_ofFn] at hv
      simp [hj] at hv
      subst hv
      rw [Addr.add_lit]
      exact wcell_cell (hx j hj)
    have hr := run_append_grow (P := P) w t ty e i z ht hi hz ⟨nb, 0, none⟩ 0 0 [] (by simp) (by simp) ⟨b, off, none⟩ n c _ hl hnews (by omega) (by omega) ?_
    · have hge := grownCap_ge w (0 + n) 0 e
      refine ⟨_, _, _, hb _ _ (by rw [hr, Nat.zero_add]), ((Kept.refl _ _).drew).alloc _, ?_, .inr rfl, ?_⟩
      · rw [Nat.zero_add] at hge; exact hge
      · intro j hj
        have hsz : w.heap.size = w.drew.heap.size := rfl
        rw [hsz, wcell_new]
        rw [Array.getElem?_append_left (by simp; exact hj)]
        simp [hj]
    · refine growslice_fits (by omega) ?_
      have : (0 + n) * i.bytes ≤ 1000000 * 64 := Nat.mul_le_mul (by omega) hy
      omega

/-- What Bytes of the stack tells: whether there are k bytes from s on, all written. -/
def bytesOkS (m : RMem) (s k : Int) : Bool := decide (0 ≤ k ∧ -64 ≤ s ∧ s + k ≤ 0 ∧ Ready m (s + 64).toNat k.toNat)

end Go.Proofs.Ythfchnaocbkofaa
