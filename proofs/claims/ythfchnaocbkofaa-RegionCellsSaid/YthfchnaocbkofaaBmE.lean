/- Layer 9, part E: the entry that was used first; an entry is left out. -/
import Derived.Test.YthfchnaocbkofaaBmD
set_option linter.unusedSimpArgs false
set_option linter.unusedVariables false
set_option maxRecDepth 8000
namespace Go.Proofs.Ythfchnaocbkofaa
open Go.Eng

theorem isnan_ret (a : Int) (w : World) : Ret Try.prog 50 [.int .i64 a] w fun v w' => v = .bool false ∧ w' = w := by
  refine ret_of_W Try.func50 rfl ok_cmp_isNaN ?_
  simp [c_cmp_isNaN]

theorem compare_ret (a c : Int) (w : World) : Ret Try.prog 42 [.int .i64 a, .int .i64 c] w fun v w' => v = .int .i64 (if a < c then -1 else if c < a then 1 else 0) ∧ w' = w := by
  refine ret_of_W Try.func42 rfl ok_cmp_Compare ?_
  simp [c_cmp_Compare]
  refine W_call0 (by simp) (isnan_ret a w) ?_
  rintro v w1 ⟨rfl, rfl⟩
  simp
  refine W_call0 (by simp) (isnan_ret c w1) ?_
  rintro v w1 ⟨rfl, rfl⟩
  simp
  refine W_no (by simp) ?_
  simp
  refine W_no (by simp) ?_
  simp
  refine W_cond (t := decide (a < c)) (by simp) ?_ ?_
  · intro h
    have h' : a < c := by simpa using h
    simp [h']
  · intro h
    have h' : ¬ a < c := by simpa using h
    simp
    refine W_cond (t := decide (c < a)) (by simp) ?_ ?_
    · intro g
      have g' : c < a := by simpa using g
      simp [h', g']
    · intro g
      have g' : ¬ c < a := by simpa using g
      simp [h', g']

theorem room1_ret (e e' : BEnt) (V : Nat) (w : World) (he : EntAt w V e) (he' : EntAt w V e') : Ret Try.prog 41 [.pointer (some ⟨e.eb, 0, none⟩), .pointer (some ⟨e'.eb, 0, none⟩)] w
    fun v w' => v = .int .i64 (if e.used < e'.used then -1 else if e'.used < e.used then 1 else 0) ∧ Kept none' w w' := by
  refine ret_of_W Try.func41 rfl ok_bmap_Map_room_1 ?_
  have h1 : w.drew.heap[e.eb]? = _ := he.ent
  have h2 : w.drew.heap[e'.eb]? = _ := he'.ent
  have hk : Kept none' w w.drew := (Kept.refl _ _).drew
  simp [c_bmap_Map_room_1]
  generalize w.drew = w1 at *
  refine W_call0 (by simp [wcell_of h1, wcell_of h2, BEnt.cells]) (compare_ret e.used e'.used w1) ?_
  rintro v w2 ⟨rfl, rfl⟩
  simp
  exact hk

/-- The entry that was used first. -/
theorem min_ret (b : Nat) (M : BMap) (w : World) (h : MapAt w b M) (h0 : 0 < M.l.length) :
    Ret Try.prog 40 [M.L, .func (.func 41) #[] #[]] w fun v w' => Kept none' w w' ∧
      ∃ (i : Nat) (e : BEnt), M.l[i]? = some e ∧ (∀ e' ∈ M.l, e.used ≤ e'.used) ∧ v = .pointer (some ⟨e.eb, 0, none⟩) := by
  refine ret_of_W Try.func40 rfl ok_slices_MinFunc ?_
  have hlen := h.row.len
  have hvar := h.row.var
  have hsm := h.small
  have he0 : M.l[0]? = some M.l[0] := List.getElem?_eq_getElem h0
  obtain ⟨g, cap, hL, hcell⟩ := h.row.get he0
  rw [hL]
  simp [c_slices_MinFunc]
  refine W_no (by simp; omega) ?_
  have h0' : (0 : Int) < M.l.length := by omega
  simp [h0, hcell]
  refine W_loop (fun env w' => Kept none' w w' ∧ ∃ (i m : Nat) (e : BEnt), env = [.slice (some ⟨g, 0, none⟩) M.l.length cap, .func (.func 41) #[] #[], undef, .pointer (some ⟨e.eb, 0, none⟩), .int .i64 i, undef] ∧ 1 ≤ i ∧ i ≤ M.l.length ∧
    M.l[m]? = some e ∧ ∀ (j : Nat) (e' : BEnt), j < i → M.l[j]? = some e' → e.used ≤ e'.used)
    (fun env _ => M.l.length - natAt env 4) ?_ ?_
  · refine ⟨Kept.refl _ _, 1, 0, M.l[0], by simp, by omega, by omega, he0, fun j e' hj hje => ?_⟩
    have : j = 0 := by omega
    subst this
    rw [he0] at hje
    simp at hje
    subst hje
    exact Int.le_refl _
  · rintro env w1 ⟨hk, i, m, e, rfl, hi1, hi, hm, hall⟩
    by_cases hi2 : i < M.l.length
    · simp
      refine W_yes (by simp; omega) ?_
      have hm1 := h.calm hk
      have he : M.l[i]? = some M.l[i] := List.getElem?_eq_getElem hi2
      obtain ⟨g', cap', hL', hcell'⟩ := hm1.row.get he
      rw [hL] at hL'
      simp at hL'
      obtain ⟨rfl, rfl⟩ := hL'
      have e2 : IntKind.i64.wrap ((i : Int) + 1) = ((i + 1 : Nat) : Int) := i64w (by omega) (by omega)
      simp
      refine W_dyn (g := 41) (first := #[]) (cap := #[]) (vs := [.pointer (some ⟨M.l[i].eb, 0, none⟩), .pointer (some ⟨e.eb, 0, none⟩)]) (by simp) (by simp [hi2, hcell']) (by kernel_rfl)
        (room1_ret M.l[i] e M.vs w1 (hm1.mem he) (hm1.mem hm)) ?_
      rintro v w2 ⟨rfl, hk2⟩
      refine ⟨stab_nil _ _ _, ?_⟩
      have hm2 := hm1.calm hk2
      obtain ⟨g', cap', hL', hcell2⟩ := hm2.row.get he
      rw [hL] at hL'
      simp at hL'
      obtain ⟨rfl, rfl⟩ := hL'
      simp
      refine W_cond (t := decide (M.l[i].used < e.used)) ?_ ?_ ?_
      · by_cases hlt : M.l[i].used < e.used
        · simp [hlt]
        · by_cases hgt : e.used < M.l[i].used <;> simp [hlt, hgt]
      · intro hlt
        have hlt' : M.l[i].used < e.used := by simpa using hlt
        simp [hi2, hcell2]
        refine ⟨⟨hk.trans hk2, i + 1, i, M.l[i], ⟨rfl, e2⟩, by omega, by omega, he, ?_⟩, by simp [natAt, e2]; omega⟩
        intro j e' hj hje
        by_cases hji : j = i
        · subst hji; rw [he] at hje; simp at hje; subst hje; exact Int.le_refl _
        · have := hall j e' (by omega) hje; omega
      · intro hlt
        have hlt' : ¬ M.l[i].used < e.used := by simpa using hlt
        simp
        refine ⟨⟨hk.trans hk2, i + 1, m, e, ⟨rfl, e2⟩, by omega, by omega, hm, ?_⟩, by simp [natAt, e2]; omega⟩
        intro j e' hj hje
        by_cases hji : j = i
        · subst hji; rw [he] at hje; simp at hje; subst hje; omega
        · exact hall j e' (by omega) hje
    · simp
      refine W_no (by simp; omega) ?_
      simp
      refine ⟨hk, ⟨m, e, hm, ?_, rfl⟩⟩
      intro e' he'
      obtain ⟨j, hj, rfl⟩ := List.mem_iff_getElem.1 he'
      exact hall j _ (by omega) (List.getElem?_eq_getElem hj)
end Go.Proofs.Ythfchnaocbkofaa
