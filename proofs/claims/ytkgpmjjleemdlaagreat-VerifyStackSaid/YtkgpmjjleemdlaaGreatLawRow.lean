/- Slices of structs, opened for a walk. -/
import Derived.Test.YtkgpmjjleemdlaaGreatLaw
set_option linter.unusedSimpArgs false
set_option linter.unusedVariables false
namespace Go.Proofs.YtkgpmjjleemdlaaGreat
open Go.ChangeShapes Go.WideShapes Go.ChangeAt Go.RowKit

section
variable {H : Type} {enc : TypeId × Value → H} {P : Program}

theorem cell_wcell {w : World} {b off : Nat} {sp : Option Nat} {v : Value} (h : w.cell? ⟨b, off, sp⟩ = some v) : sp = none ∧ Go.Eng.wcell w b off = some v := by
  unfold World.cell? at h
  unfold Go.Eng.wcell
  simp only at h
  cases hb : w.heap[b]? with
  | none => rw [hb] at h; cases h
  | some o =>
    rw [hb] at h
    cases o with
    | cells c T fz =>
      simp only at h ⊢
      cases sp with
      | none => exact ⟨rfl, by simpa using h⟩
      | some j => simp at h
    | _ => cases h

theorem wrow_cells {w : World} {b off : Nat} {r : List Value} (hr : 0 < r.length) (h : ∀ j, j < r.length → Go.Eng.wcell w b (off + j) = r[j]?) : Go.Eng.wrow w b off r.length = some r.toArray := by
  unfold Go.Eng.wrow
  have h0 := h (r.length - 1) (by omega)
  unfold Go.Eng.wcell at h h0
  cases hb : w.heap[b]? with
  | none =>
    rw [hb] at h0
    have : r[r.length - 1]? = none := by rw [← h0]
    rw [List.getElem?_eq_none_iff] at this
    omega
  | some o =>
    cases o with
    | cells c T fz =>
      rw [hb] at h0
      simp only at h0 ⊢
      have hlt : off + (r.length - 1) < c.size := by
        have : (c[off + (r.length - 1)]?).isSome = true := by
          rw [h0, List.getElem?_eq_getElem (by omega)]; rfl
        simpa using this
      rw [if_pos (by omega)]
      congr 1
      apply Array.ext_getElem?
      intro j
      rw [Array.getElem?_extract]
      by_cases hj : j < r.length
      · rw [if_pos (by omega)]
        have := h j hj
        rw [hb] at this
        simp only at this
        rw [this]
        simp
      · rw [if_neg (by omega)]
        simp
        omega
    | _ =>
      rw [hb] at h0
      have : r[r.length - 1]? = none := by rw [← h0]
      rw [List.getElem?_eq_none_iff] at this
      omega

/-- A slice of anything whose values take k cells. -/
theorem open_any {w : World} {spare : Nat → Bool} {base : Nat} {held : Bool} {t e : TypeId} {k : Nat} {a : Option Addr} {n c : Nat} {d : DataW H} {ps : List MemPlace} (ht : P.underlying t = some (.slice e)) (hc : P.cellsOf e = k) (hk : 0 < k)
    (h : DataW.Trod enc P w base spare held t (.slice a n c) d ps) :
    n = 0 ∨ ∃ b off, a = some ⟨b, off, none⟩ ∧ ∀ i, i < n → ∃ (r : List Value) (y : DataW H × List MemPlace) (fuel : Nat), r.length = k ∧ Go.Eng.wrow w b (off + i * k) k = some r.toArray ∧ DataW.trod enc P w base spare held fuel e r = some y := by
  obtain ⟨fuel, hf⟩ := h
  rcases DataW.trod_slice ht hf with ⟨h0, _⟩ | ⟨a', len, cap, elems, rest, m, _, hcs, _, _, _, _, hlen, hel, _, _⟩
  · left
    have : Value.slice a n c = .slice none 0 0 := by simpa using h0
    simp at this
    exact this.2.1
  · have e : Value.slice a n c = .slice (some a') len cap := by simpa using hcs
    simp only [Value.slice.injEq] at e
    obtain ⟨rfl, rfl, rfl⟩ := e
    by_cases hn : n = 0
    · exact .inl hn
    right
    have each : ∀ i, i < n → ∃ (r : List Value) (y : DataW H × List MemPlace), w.cells? base (a'.add (i * k)) k = some r ∧ DataW.trod enc P w base spare held m e r = some y := by
      intro i hi
      have h1 := hel i hi
      rw [List.getElem?_eq_getElem (by omega)] at h1
      rw [Option.bind_eq_some_iff] at h1
      obtain ⟨r, h2, h3⟩ := h1
      rw [hc] at h2
      exact ⟨r, _, h2, h3⟩
    obtain ⟨b, off, sp⟩ := a'
    have hsp : sp = none := by
      obtain ⟨r, y, h1, _⟩ := each 0 (by omega)
      obtain ⟨_, hl, hcell⟩ := World.cells?_some h1
      have h2 := hcell 0 hk
      rw [List.getElem?_eq_getElem (by omega), Nat.zero_mul] at h2
      exact (cell_wcell h2).1
    subst hsp
    refine ⟨b, off, rfl, fun i hi => ?_⟩
    obtain ⟨r, y, h1, h2⟩ := each i hi
    obtain ⟨_, hl, hcell⟩ := World.cells?_some h1
    refine ⟨r, y, m, hl, ?_, h2⟩
    subst hl
    refine wrow_cells hk fun j hj => ?_
    have h3 := hcell j hj
    rw [List.getElem?_eq_getElem hj] at h3 ⊢
    simp only [Addr.add_lit] at h3
    exact (cell_wcell h3).2

theorem drop_take_one {α : Type} {l : List α} {i : Nat} {x : α} (h : (l.drop i).take 1 = [x]) : l[i]? = some x := by
  have : ((l.drop i).take 1)[0]? = some x := by rw [h]; rfl
  rw [List.getElem?_take, if_pos (by omega), List.getElem?_drop] at this
  simpa using this
end
end Go.Proofs.YtkgpmjjleemdlaaGreat
