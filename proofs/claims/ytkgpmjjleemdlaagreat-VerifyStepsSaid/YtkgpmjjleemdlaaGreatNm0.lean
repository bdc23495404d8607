/- Rows of numbers, sorted, each once: plain. -/
import Derived.Test.YtkgpmjjleemdlaaGreatSo3
import Derived.Test.YtkgpmjjleemdlaaGreatAs1
import Derived.Test.YtkgpmjjleemdlaaGreatCmdsSoj
set_option linter.unusedSimpArgs false
set_option linter.unusedVariables false
set_option maxRecDepth 8000
namespace Go.Proofs.YtkgpmjjleemdlaaGreat
open Go.Eng Go.Sort

/-- Rising, each once; just these. -/
structure Rises (r xs : List Int) : Prop where
  up : ∀ (i : Nat) (x y : Int), r[i]? = some x → r[i + 1]? = some y → x < y
  nodup : r.Nodup
  mem : ∀ x, x ∈ r ↔ x ∈ xs
end Go.Proofs.YtkgpmjjleemdlaaGreat
namespace Go.Proofs.YtkgpmjjleemdlaaGreat
open Go.Eng Go.Sort
attribute [local irreducible] Go.Eng.W

/-- A slice of instructions as it comes in. -/
def SlIs (w : World) (v : Value) (xs : List Ins) : Prop := (xs = [] ∧ v = .slice none 0 0) ∨ ∃ b o c, v = .slice (some ⟨b, o, none⟩) xs.length c ∧ xs.length ≤ c ∧ CodeAt w b o xs ∧ b < w.heap.size
theorem SlIs.calm {w w' : World} {v : Value} {xs : List Ins} (h : SlIs w v xs) (hk : Kept none' w w') : SlIs w' v xs := by
  rcases h with h | ⟨b, o, c, h1, h2, h3, h4⟩
  · exact .inl h
  · exact .inr ⟨b, o, c, h1, h2, h3.calm hk, Nat.lt_of_lt_of_le h4 hk.size⟩
theorem SlIs.len {w : World} {v : Value} {xs : List Ins} (h : SlIs w v xs) : lenV false v = some (.int .i64 xs.length) ∧ varV v = some v := by
  rcases h with ⟨rfl, rfl⟩ | ⟨b, o, c, rfl, _⟩ <;> exact ⟨rfl, rfl⟩
theorem SlIs.at {w : World} {v : Value} {xs : List Ins} (h : SlIs w v xs) {i : Nat} {x : Ins} (hx : xs[i]? = some x) : ∃ b o c, v = .slice (some ⟨b, o, none⟩) xs.length c ∧ wrow w b (o + i * 5) 5 = some x.arr := by
  rcases h with ⟨rfl, rfl⟩ | ⟨b, o, c, rfl, _, h2, _⟩
  · simp at hx
  · exact ⟨b, o, c, rfl, h2 i x hx⟩
theorem ins_sl {w : World} {v : Value} {xs : List Ins} (h : InsRow w v xs) : SlIs w v xs := by
  rcases h.2 with ⟨rfl, h0⟩ | ⟨g, cap, cur, rfl, hb, h2, h3, h4, h5, h6⟩
  · exact .inl ⟨List.length_eq_zero_iff.1 h0, rfl⟩
  · refine .inr ⟨g, 0, cap, rfl, h3, ?_, blk_lt h2⟩
    refine code_of_cells fun j y hy => ?_
    rw [Nat.zero_add, wcell_of h2]
    rw [← h6, List.getElem?_take] at hy
    split at hy
    · simpa using hy
    · cases hy
end Go.Proofs.YtkgpmjjleemdlaaGreat
namespace Go.Proofs.YtkgpmjjleemdlaaGreat
open Go.Eng Go.Sort
attribute [local irreducible] Go.Eng.W

theorem row1_get {T : TypeId} {k : IntKind} {w : World} {v : Value} {rs : List Int} (h : Row1 T w v (rs.map (Value.int k))) {i : Nat} {x : Int} (hx : rs[i]? = some x) : ∃ g c, v = .slice (some ⟨g, 0, none⟩) rs.length c ∧ wcell w g i = some (.int k x) := by
  obtain ⟨g, c, e, hc⟩ := row1_ix h (i := i) (x := .int k x) (by rw [List.getElem?_map, hx]; rfl)
  rw [List.length_map] at e
  exact ⟨g, c, e, hc⟩
theorem append_none {P : Program} {t ty e : TypeId} (ht : P.underlying t = some (.slice e)) (hi' : (P.info? e).isSome = true) (a : Addr) (n c : Nat) (hn : n ≤ c) (w : World) :
    (builtin .append #[t, t] ty #[] #[.slice (some a) n c, .slice none 0 0]).run P w = .ok (.value (.slice (some a) n c)) w := by
  obtain ⟨i, hi⟩ := Option.isSome_iff_exists.1 hi'
  simp [builtin, Builtin.append_, run_underlying ht, sizeOf, typeInfo, hi, Builtin.lenOf, hn, Builtin.firstCells, loadCells, loadCellsFrom]
  rfl

theorem SlIs.take {w : World} {v : Value} {xs : List Ins} (h : SlIs w v xs) (n : Nat) : ∃ v', slSlV 5 v (.int .i64 0) (.int .i64 ((min xs.length n : Nat) : Int)) = some v' ∧ SlIs w v' (xs.take n) ∧ lenV false v = some (.int .i64 xs.length) ∧ varV v = some v ∧ varV v' = some v' ∧ lenV false v' = some (.int .i64 (xs.take n).length) := by
  rcases h with ⟨rfl, rfl⟩ | ⟨b, o, c, rfl, h2, h3, h4⟩
  · exact ⟨.slice none 0 0, by simp, .inl ⟨by simp, rfl⟩, rfl, rfl, rfl, by simp⟩
  · have h5 : ((min xs.length n : Nat) : Int) ≤ c := by omega
    refine ⟨.slice (some ⟨b, o, none⟩) (xs.take n).length c, ?_, .inr ⟨b, o, c, rfl, by rw [List.length_take]; omega, h3.take n, h4⟩, rfl, rfl, rfl, rfl⟩
    rw [List.length_take, Nat.min_comm]
    rw [Nat.min_comm] at h5
    simp [h5]
theorem SlIs.append {w : World} {v ov : Value} {out xs : List Ins} (h : SlIs w v xs) (hrow : InsRow w ov out) (hs : out.length + xs.length ≤ 1000000) :
    ∃ v' w', (builtin .append #[29, 29] 29 #[] #[ov, v]).run Tryz.prog w = .ok (.value v') w' ∧ InsRow w' v' (out ++ xs) ∧ Kept (fun j => ov.ownBlock = some j) w w' ∧ (v'.ownBlock = ov.ownBlock ∨ v'.ownBlock = some w.heap.size) := by
  rcases h with ⟨rfl, rfl⟩ | ⟨b, o, c, rfl, h2, h3, h4⟩
  · refine ⟨ov, w, ?_, by simpa using hrow, Kept.refl _ _, .inl rfl⟩
    rcases hrow.2 with ⟨rfl, _⟩ | ⟨g, cap, cur, rfl, _, _, hc, _⟩
    · obtain ⟨i, hi⟩ : ∃ i, Tryz.prog.info? 28 = some i := Option.isSome_iff_exists.1 (by kernel_rfl)
      simp [builtin, Builtin.append_, run_underlying Tryz.underlying29, sizeOf, typeInfo, hi, Builtin.lenOf, Builtin.firstCells, loadCells, loadCellsFrom]
    · exact append_none Tryz.underlying29 (by kernel_rfl) _ _ _ hc w
  · exact ins_append hrow hs h3
end Go.Proofs.YtkgpmjjleemdlaaGreat
