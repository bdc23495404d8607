/- Layer 9, part C: an entry is used; Lookup. -/
import Derived.Test.YthfchnaocbkofaaBmB
set_option linter.unusedSimpArgs false
set_option linter.unusedVariables false
set_option maxRecDepth 8000
namespace Go.Proofs.Ythfchnaocbkofaa
open Go.Eng

theorem apart_symm {a c : BEnt} (h : apart a c) : apart c a := ⟨fun e => h.1 e.symm, fun e => h.2.1 e.symm, fun e => h.2.2 e.symm⟩
theorem apart_of {l : List BEnt} (h : l.Pairwise apart) {i j : Nat} {a c : BEnt} (hi : l[i]? = some a) (hj : l[j]? = some c) (hij : i ≠ j) : apart a c := by
  obtain ⟨h1, rfl⟩ := List.getElem?_eq_some_iff.1 hi
  obtain ⟨h2, rfl⟩ := List.getElem?_eq_some_iff.1 hj
  rw [List.pairwise_iff_getElem] at h
  rcases Nat.lt_or_gt_of_ne hij with hlt | hlt
  · exact h i j h1 h2 hlt
  · exact apart_symm (h j i h2 h1 hlt)
theorem apart_set {l : List BEnt} (h : l.Pairwise apart) {i : Nat} {e e' : BEnt} (hi : l[i]? = some e) (h1 : e'.eb = e.eb) (h2 : e'.cb = e.cb) (h3 : e'.vb = e.vb) : (l.set i e').Pairwise apart := by
  obtain ⟨hl, rfl⟩ := List.getElem?_eq_some_iff.1 hi
  rw [List.pairwise_iff_getElem] at h ⊢
  intro a c ha hc hac
  simp only [List.length_set] at ha hc
  have hx := h a c ha hc hac
  rw [List.getElem_set, List.getElem_set]
  unfold apart at hx ⊢
  by_cases e1 : i = a
  · subst e1
    rw [if_pos rfl, if_neg (by omega), h1, h2, h3]; exact hx
  · rw [if_neg e1]
    by_cases e2 : i = c
    · subst e2
      rw [if_pos rfl, h1, h2, h3]; exact hx
    · rw [if_neg e2]; exact hx

theorem MapAt.mem {w : World} {b : Nat} {M : BMap} (h : MapAt w b M) {i : Nat} {e : BEnt} (hi : M.l[i]? = some e) : EntAt w M.vs e := h.ents e (List.mem_of_getElem? hi)

/-- An entry, and the clock, are turned. -/
theorem MapAt.set {w w' : World} {b : Nat} {M : BMap} (h : MapAt w b M) {i : Nat} {e e' : BEnt} {x : Int} (hi : M.l[i]? = some e) (he : EntAt w' M.vs e') (h1 : e'.eb = e.eb) (h2 : e'.cb = e.cb) (h3 : e'.vb = e.vb)
    (hb : w'.heap[b]? = some (.cells { M with clock := x }.cells 56 (0, 0))) (hx : 0 ≤ x ∧ x ≤ 1000000) (hk : Kept (fun j => j = b ∨ j = e.eb ∨ j = e.cb ∨ j = e.vb) w w') :
    MapAt w' b { M with clock := x, l := M.l.set i e' } := by
  have hE := h.mem hi
  obtain ⟨c0, hc0, hcell⟩ := hE.cell
  obtain ⟨cs0, hval, _⟩ := hE.val
  have hil : i < M.l.length := (List.getElem?_eq_some_iff.1 hi).1
  refine ⟨hb, ?_, ?_, apart_set h.apart hi h1 h2 h3, by simpa using h.small, hx⟩
  · rcases h.row with ⟨_, h0⟩ | ⟨g, cap, cur, hL, hg, h4, h5, h6, h7⟩
    · rw [h0] at hil; simp at hil
    · refine .inr ⟨g, cap, cur, by simpa using hL, hk.has hg ?_, by simpa using h4, h5, h6, ?_⟩
      · rintro (rfl | rfl | rfl | rfl)
        · exact heap_ne hg h.blk (by decide) rfl
        · exact heap_ne hg hE.ent (by decide) rfl
        · exact heap_ne hg hcell (by decide) rfl
        · exact heap_ne hg hval (by decide) rfl
      · intro j a hj
        simp only [List.getElem?_set] at hj
        split at hj
        · rename_i hij
          simp at hj
          subst hj
          rw [h1, ← hij]
          exact h7 i e hi
        · exact h7 j a hj
  · intro a ha
    obtain ⟨j, hj⟩ := List.mem_iff_getElem?.1 ha
    simp only [List.getElem?_set] at hj
    split at hj
    · simp at hj
      subst hj
      exact he
    · rename_i hij
      have hA := h.mem hj
      obtain ⟨c1, hc1, hcell1⟩ := hA.cell
      obtain ⟨cs1, hval1, _⟩ := hA.val
      obtain ⟨n1, n2, n3⟩ := apart_of h.apart hj hi (fun e => hij e.symm)
      refine hA.keep hk ?_ ?_ ?_
      · rintro (e1 | e1 | e1 | e1)
        · exact heap_ne hA.ent h.blk (by decide) e1
        · exact n1 e1
        · exact heap_ne hA.ent hcell (by decide) e1
        · exact heap_ne hA.ent hval (by decide) e1
      · rintro (e1 | e1 | e1 | e1)
        · exact heap_ne hcell1 h.blk (by decide) e1
        · exact heap_ne hcell1 hE.ent (by decide) e1
        · exact n2 e1
        · exact heap_ne hcell1 hval (by decide) e1
      · rintro (e1 | e1 | e1 | e1)
        · exact heap_ne hval1 h.blk (by decide) e1
        · exact heap_ne hval1 hE.ent (by decide) e1
        · exact heap_ne hval1 hcell (by decide) e1
        · exact n3 e1

theorem own_set {M : BMap} {b i j : Nat} {e e' : BEnt} {x : Int} (hi : M.l[i]? = some e) (h1 : e'.eb = e.eb) (h2 : e'.cb = e.cb) (h3 : e'.vb = e.vb) (ho : { M with clock := x, l := M.l.set i e' }.own b j) : M.own b j := by
  rcases ho with ho | ho | ⟨a, ha, ho⟩
  · exact .inl ho
  · exact .inr (.inl ho)
  · right; right
    rcases List.mem_or_eq_of_mem_set ha with ha | rfl
    · exact ⟨a, ha, ho⟩
    · rw [h1, h2, h3] at ho
      exact ⟨e, List.mem_of_getElem? hi, ho⟩

/-- The map behind a use of entry i. -/
def usedM (M : BMap) (i : Nat) (e : BEnt) : BMap := { M with clock := M.clock + 1, l := M.l.set i { e with used := M.clock + 1 } }

theorem use_ret (b : Nat) (M : BMap) (i : Nat) (e : BEnt) (w : World) (h : MapAt w b M) (hi : M.l[i]? = some e) (hc : M.clock + 1 ≤ 1000000) :
    Ret Try.prog 24 [.pointer (some ⟨b, 0, none⟩), .pointer (some ⟨e.eb, 0, none⟩)] w fun v w' => v = .tuple #[] ∧ Kept (fun j => j = b ∨ j = e.eb) w w' ∧ MapAt w' b (usedM M i e) := by
  refine ret_of_W Try.func24 rfl ok_bmap_Map_use ?_
  have hb := h.blk
  have hE := h.mem hi
  have hck := h.clock
  have e2 : IntKind.i64.wrap (M.clock + 1) = M.clock + 1 := i64w (by omega) (by omega)
  have hne : e.eb ≠ b := heap_ne hE.ent hb (by decide)
  obtain ⟨c0, hc0, hcell⟩ := hE.cell
  obtain ⟨cs0, hval, hv1, hv2⟩ := hE.val
  simp [c_bmap_Map_use]
  have hrow1 := h.row.one
  have hst : stv w 1 (.pointer (some ⟨b, 6, none⟩)) (.int .i64 (M.clock + 1)) = some (put w b (.cells { M with clock := M.clock + 1 }.cells 56 (0, 0))) := by
    rw [stv_of (n := 1) (v := .int .i64 (M.clock + 1)) hb rfl (by simp [BMap.cells]) (.inl (by simp)) (by simp [Value.oneCell'])]
    rfl
  refine W_store (by simp) (by simp [wcell_of hb, BMap.cells, e2]) hst (stab_nil _ _ _) ?_
  have hb2 : (put w b (.cells { M with clock := M.clock + 1 }.cells 56 (0, 0))).heap[b]? = some (.cells { M with clock := M.clock + 1 }.cells 56 (0, 0)) := put_same (blk_lt hb)
  have hk1 : Kept (fun j => j = b ∨ j = e.eb) w (put w b (.cells { M with clock := M.clock + 1 }.cells 56 (0, 0))) := (Kept.refl _ _).put (fun _ => .inl rfl) _
  have hent := (show (put w b (.cells { M with clock := M.clock + 1 }.cells 56 (0, 0))).heap[e.eb]? = _ from (put_other hne).trans hE.ent)
  generalize put w b (.cells { M with clock := M.clock + 1 }.cells 56 (0, 0)) = w1 at hb2 hk1 hent ⊢
  have hst2 : stv w1 1 (.pointer (some ⟨e.eb, 2, none⟩)) (.int .i64 (M.clock + 1)) = some (put w1 e.eb (.cells { e with used := M.clock + 1 }.cells 62 (0, 0))) := by
    rw [stv_of (n := 1) (v := .int .i64 (M.clock + 1)) hent rfl (by simp [BEnt.cells]) (.inl (by simp)) (by simp [Value.oneCell'])]
    rfl
  refine W_store (by simp) (by simp [wcell_of hb2, BMap.cells]) hst2 (stab_nil _ _ _) ?_
  have hk2 := hk1.put (b := e.eb) (fun _ => .inr rfl) (.cells { e with used := M.clock + 1 }.cells 62 (0, 0))
  have hb3 := (show (put w1 e.eb (.cells { e with used := M.clock + 1 }.cells 62 (0, 0))).heap[b]? = _ from (put_other (fun e => hne e.symm)).trans hb2)
  have hent3 : (put w1 e.eb (.cells { e with used := M.clock + 1 }.cells 62 (0, 0))).heap[e.eb]? = some (.cells { e with used := M.clock + 1 }.cells 62 (0, 0)) := put_same (blk_lt hent)
  generalize put w1 e.eb (.cells { e with used := M.clock + 1 }.cells 62 (0, 0)) = w3 at hk2 hb3 hent3 ⊢
  simp
  refine ⟨hk2, h.set hi ⟨hent3, ⟨c0, hc0, hk2.has hcell ?_⟩, ⟨cs0, hk2.has hval ?_, hv1, hv2⟩, hE.byte⟩ rfl rfl rfl hb3 ⟨by omega, hc⟩ (hk2.mono fun j _ hj => ?_)⟩
  · rintro (e1 | e1)
    · exact heap_ne hcell hb (by decide) e1
    · exact heap_ne hcell hE.ent (by decide) e1
  · rintro (e1 | e1)
    · exact heap_ne hval hb (by decide) e1
    · exact heap_ne hval hE.ent (by decide) e1
  · rcases hj with hj | hj
    · exact .inl hj
    · exact .inr (.inl hj)
end Go.Proofs.Ythfchnaocbkofaa
