/- Layer 9, part G: room, flags. -/
import Derived.Test.YthfchnaocbkofaaBmF
set_option linter.unusedSimpArgs false
set_option linter.unusedVariables false
set_option maxRecDepth 8000
namespace Go.Proofs.Ythfchnaocbkofaa
open Go.Eng

theorem apart_erase {l : List BEnt} (h : l.Pairwise apart) (k : Nat) : (l.eraseIdx k).Pairwise apart := h.sublist (List.eraseIdx_sublist _ _)

/-- An entry is gone; the row lies where it lay. -/
theorem MapAt.erase {w w' : World} {b k : Nat} {M : BMap} {L' : Value} (h : MapAt w b M) (hb : w'.heap[b]? = some (.cells { M with L := L' }.cells 56 (0, 0))) (hr : RowAt w' L' (M.l.eraseIdx k))
    (hk : Kept (fun j => j = b ∨ M.L.ownBlock = some j) w w') : MapAt w' b { M with L := L', l := M.l.eraseIdx k } := by
  refine ⟨hb, hr, ?_, apart_erase h.apart k, ?_, h.clock⟩
  · intro e he
    have he' : e ∈ M.l := List.mem_of_mem_eraseIdx he
    have hE := h.ents e he'
    obtain ⟨c1, hc1, hcell1⟩ := hE.cell
    obtain ⟨cs1, hval1, _⟩ := hE.val
    have hrow : ∀ {j : Nat} {c : Array Value} {T : TypeId} {f : Nat × Nat}, w.heap[j]? = some (.cells c T f) → T ≠ 57 → M.L.ownBlock ≠ some j := by
      intro j c T f hj hT ho
      rcases h.row with ⟨hL, _⟩ | ⟨g, cap, cur, hL, hg, _⟩
      · rw [hL] at ho; simp [Value.ownBlock] at ho
      · rw [hL] at ho
        simp [Value.ownBlock] at ho
        subst ho
        exact heap_ne hj hg hT rfl
    refine hE.keep hk ?_ ?_ ?_
    · rintro (e1 | e1)
      · exact heap_ne hE.ent h.blk (by decide) e1
      · exact hrow hE.ent (by decide) e1
    · rintro (e1 | e1)
      · exact heap_ne hcell1 h.blk (by decide) e1
      · exact hrow hcell1 (by decide) e1
    · rintro (e1 | e1)
      · exact heap_ne hval1 h.blk (by decide) e1
      · exact hrow hval1 (by decide) e1
  · have h1 := h.small
    have h2 : (M.l.eraseIdx k).length ≤ M.l.length := List.length_eraseIdx_le _ _
    exact Nat.le_trans h2 h1

/-- The row is stored into the map. -/
theorem store_L {w : World} {b : Nat} {M : BMap} {L' : Value} (hb : w.heap[b]? = some (.cells M.cells 56 (0, 0))) (h1 : L'.oneCell' = true) (hc : L'.cells = #[L']) :
    stv w 1 (.pointer (some ⟨b, 4, none⟩)) L' = some (put w b (.cells { M with L := L' }.cells 56 (0, 0))) := by
  rw [stv_of (n := 1) (v := L') hb (by rw [hc]; rfl) (by simp [BMap.cells]) (.inl (by simp)) (by rw [hc]; simp [h1]), hc]
  rfl
theorem RowAt.cellsL {w : World} {L : Value} {l : List BEnt} (h : RowAt w L l) : L.cells = #[L] := by
  rcases h with ⟨rfl, rfl⟩ | ⟨g, cap, cur, rfl, _⟩ <;> rfl

/-- What comes of making room. -/
def RoomIs (w w' : World) (b : Nat) (M : BMap) (v : Value) : Prop :=
  ((M.l.length : Int) < M.cap ∧ v = .int .i64 0 ∧ Kept none' w w') ∨ (¬ (M.l.length : Int) < M.cap ∧ M.ty ≠ 2 ∧ v = .int .i64 7 ∧ Kept none' w w') ∨
  (¬ (M.l.length : Int) < M.cap ∧ M.ty = 2 ∧ v = .int .i64 0 ∧ Kept (fun j => j = b ∨ M.L.ownBlock = some j) w w' ∧ ∃ (i : Nat) (e : BEnt) (L' : Value), M.l[i]? = some e ∧ (∀ a ∈ M.l, e.used ≤ a.used) ∧ L'.ownBlock = M.L.ownBlock ∧
    MapAt w' b { M with L := L', l := M.l.eraseIdx i })

theorem room_ret (b : Nat) (M : BMap) (w : World) (h : MapAt w b M) (hcap : 0 < M.cap) : Ret Try.prog 22 [.pointer (some ⟨b, 0, none⟩)] w fun v w' => RoomIs w w' b M v := by
  refine ret_of_W Try.func22 rfl ok_bmap_Map_room ?_
  have hm1 := h.calm (Kept.refl none' w).drew
  have hk1 : Kept none' w w.drew := (Kept.refl _ _).drew
  simp [c_bmap_Map_room]
  generalize w.drew = w1 at hm1 hk1 ⊢
  have hb := hm1.blk
  have hlen := hm1.row.len
  have hvar := hm1.row.var
  refine W_cond (t := decide ((M.l.length : Int) < M.cap)) (by simp [wcell_of hb, BMap.cells, hlen, hvar]) ?_ ?_
  · intro hlt
    have hlt' : (M.l.length : Int) < M.cap := by simpa using hlt
    simp
    exact .inl ⟨hlt', rfl, hk1⟩
  · intro hlt
    have hlt' : ¬ (M.l.length : Int) < M.cap := by simpa using hlt
    simp
    by_cases hty : M.ty = 2
    · refine W_no (by simp [wcell_of hb, BMap.cells, hty]) ?_
      have h0 : 0 < M.l.length := by omega
      simp
      refine W_call0 (by simp [wcell_of hb, BMap.cells, hvar]) (min_ret b M w1 hm1 h0) ?_
      rintro v w2 ⟨hk2, i, e, hi, hmin, rfl⟩
      have hm2 := hm1.calm hk2
      simp
      refine W_store (by simp) (by simp) (store_box (.pointer none) (.pointer (some ⟨e.eb, 0, none⟩)) rfl rfl) (stab_nil _ _ _) ?_
      obtain ⟨hbox, hk3, hs3⟩ := box_any w2 #[.pointer none] #[.pointer (some ⟨e.eb, 0, none⟩)] 57
      have hbx : ∀ j, M.own b j → j ≠ w2.heap.size := fun j hj => by have := own_lt hm2 hj; omega
      generalize put (w2.alloc (.cells #[.pointer none] 57)) w2.heap.size (.cells #[.pointer (some ⟨e.eb, 0, none⟩)] 57 (0, 0)) = w3 at hbox hk3 hs3 ⊢
      generalize w2.heap.size = p at *
      have hm3 := hm2.calm hk3
      have hb3 := hm3.blk
      have hvar3 := hm3.row.var
      simp
      have hdel := delete_ret (f := 44) (cp := #[.pointer (some ⟨p, 0, none⟩)]) b M i e w3 hm3 hi (by kernel_rfl) (by
        intro w' hk' a ha
        have hbox' := hk'.has hbox (fun ho => hbx p (.inr (.inl ho)) rfl)
        have pl : ∀ c, c ∈ M.l → plainB w' c.eb = true := by
          intro c hc
          refine plainB_of (hk'.has (hm3.ents c hc).ent ?_)
          intro ho
          rcases hm3.row with ⟨hL, _⟩ | ⟨g, cap, cur, hL, hg, _⟩
          · rw [hL] at ho; simp [Value.ownBlock] at ho
          · rw [hL] at ho
            simp [Value.ownBlock] at ho
            subst ho
            exact heap_ne (hm3.ents c hc).ent hg (by decide) rfl
        have hr := same_room_ret w' a.eb p e.eb (by rw [wcell_of hbox']; rfl) (pl a ha) (pl e (List.mem_of_getElem? hi))
        exact hr.mono fun v w'' hv => ⟨hv.1, by rw [hv.2]; exact Kept.refl _ _⟩)
      refine W_call0 (by simp [wcell_of hb3, BMap.cells, hvar3]) hdel ?_
      rintro v w4 ⟨hk4, hr4, ho4⟩
      have hb4 := hk4.has hb3 (by
        intro ho
        rcases hm3.row with ⟨hL, _⟩ | ⟨g, cap, cur, hL, hg, _⟩
        · rw [hL] at ho; simp [Value.ownBlock] at ho
        · rw [hL] at ho
          simp [Value.ownBlock] at ho
          subst ho
          exact heap_ne hg hb3 (by decide) rfl)
      have hvv := hr4.var
      simp
      refine W_store (by simp) (by simp [hvv]) (store_L hb4 hr4.one hr4.cellsL) (stab_nil _ _ _) ?_
      simp
      have hk5 : Kept (fun j => j = b ∨ M.L.ownBlock = some j) w3 (put w4 b (.cells { M with L := v }.cells 56 (0, 0))) := (hk4.mono fun _ _ h => .inr h).put (fun _ => .inl rfl) _
      have hr5 : RowAt (put w4 b (.cells { M with L := v }.cells 56 (0, 0))) v (M.l.eraseIdx i) := by
        refine hr4.keep (S := fun j => j = b) ((Kept.refl (fun j => j = b) _).put (b := b) (fun _ => rfl) _) ?_
        rintro j hj rfl
        rcases hr4 with ⟨hL, _⟩ | ⟨g, cap, cur, hL, hg, _⟩
        · rw [hL] at hj; simp [Value.ownBlock] at hj
        · rw [hL] at hj
          simp [Value.ownBlock] at hj
          subst hj
          exact heap_ne hg hb4 (by decide) rfl
      refine .inr (.inr ⟨hlt', hty, rfl, ?_, i, e, v, hi, hmin, ho4, hm3.erase (put_same (blk_lt hb4)) hr5 hk5⟩)
      exact (((hk1.trans hk2).trans hk3).mono fun _ _ h => h.elim).trans hk5
    · refine W_yes (by simp [wcell_of hb, BMap.cells, hty]) ?_
      simp
      exact .inr (.inl ⟨hlt', hty, rfl, hk1⟩)

theorem flagged_ret (b : Nat) (M : BMap) (a : Option Addr) (fl : Int) (w : World) (h : MapAt w b M) : Ret Try.prog 21 [.pointer (some ⟨b, 0, none⟩), .pointer a, .int .u64 fl] w
    fun v w' => w' = w ∧ v = .int .i64 (if a.isSome ∧ fl = 1 then 17 else if a = none ∧ M.ty = 0 then 7 else if a = none ∧ fl = 2 then 2 else 0) := by
  refine ret_of_W Try.func21 rfl ok_bmap_Map_flagged ?_
  have hb := h.blk
  cases a with
  | none =>
    simp [c_bmap_Map_flagged, wcell_of hb, BMap.cells]
    refine W_no (by simp) ?_
    simp [wcell_of hb, BMap.cells]
    refine W_cond (t := decide (M.ty = 0)) (by simp) ?_ ?_
    · intro h0
      have h0' : M.ty = 0 := by simpa using h0
      simp [h0']
    · intro h0
      have h0' : ¬ M.ty = 0 := by simpa using h0
      simp
      refine W_cond (t := decide (fl = 2)) (by simp) ?_ ?_
      · intro h2
        have h2' : fl = 2 := by simpa using h2
        simp [h0', h2']
      · intro h2
        have h2' : ¬ fl = 2 := by simpa using h2
        simp [h0', h2']
  | some a =>
    simp [c_bmap_Map_flagged]
    refine W_cond (t := decide (fl = 1)) (by simp) ?_ ?_
    · intro h1
      have h1' : fl = 1 := by simpa using h1
      simp [h1']
    · intro h1
      have h1' : ¬ fl = 1 := by simpa using h1
      simp
      refine W_no (by simp) ?_
      simp
      refine W_no (by simp) ?_
      simp [h1']
end Go.Proofs.Ythfchnaocbkofaa
