/- Layer 9: operations on maps of all types, as a machine does them. -/
import Derived.Test.YtmfgdbapankamaaGreatGr19
import Derived.Test.YtmfgdbapankamaaGreatGr21
set_option linter.unusedSimpArgs false
set_option linter.unusedVariables false
set_option maxRecDepth 8000
namespace Go.Proofs.YtmfgdbapankamaaGreat
open Go.Eng
def rightB (M : BMap) (k : ByteArray) : Bool := !decide (M.ty = 3) && !decide (M.ty = 4) && decide ((k.size : Int) = M.ks) && (!decide (M.ty = 5) || decide (cnt k ≤ 8 * ((k.size : Int) - 4)))
def UpdX (w w' : World) (b : Nat) (M : BMap) (k : ByteArray) (x : Nat → Int) (fl : Int) (v : Value) : Prop :=
  ((rightB M k = false ∨ 2 < fl) ∧ v = .int .i64 22 ∧ Kept none' w w') ∨
  (rightB M k = true ∧ fl ≤ 2 ∧
    ((∃ (i : Nat) (e : BEnt), M.l[i]? = some e ∧ e.key = name M k ∧ ((fl = 1 ∧ v = .int .i64 17 ∧ Kept none' w w') ∨ (fl ≠ 1 ∧ v = .int .i64 0 ∧ Kept (fun j => j = b ∨ j = e.eb ∨ j = e.vb) w w' ∧ MapAt w' b (writtenM M i e x)))) ∨
     ((∀ e ∈ M.l, e.key ≠ name M k) ∧ ((M.ty = 0 ∧ v = .int .i64 7 ∧ Kept none' w w') ∨ (M.ty ≠ 0 ∧ fl = 2 ∧ v = .int .i64 2 ∧ Kept none' w w') ∨
      (M.ty ≠ 0 ∧ fl ≠ 2 ∧ ¬ (M.l.length : Int) < M.cap ∧ M.ty ≠ 2 ∧ v = .int .i64 7 ∧ Kept none' w w') ∨
      (M.ty ≠ 0 ∧ fl ≠ 2 ∧ v = .int .i64 0 ∧ Kept (fun j => j = b ∨ M.L.ownBlock = some j) w w' ∧ ∃ (lo : List BEnt) (L' : Value) (a : BEnt), ((M.l.length : Int) < M.cap ∧ lo = M.l ∨ ¬ (M.l.length : Int) < M.cap ∧ M.ty = 2 ∧ ∃ (i : Nat) (e : BEnt), M.l[i]? = some e ∧ (∀ c ∈ M.l, e.used ≤ c.used) ∧ lo = M.l.eraseIdx i) ∧
        a.key = name M k ∧ a.val = x ∧ a.used = M.clock + 1 ∧ w.heap.size ≤ a.eb ∧ w.heap.size ≤ a.cb ∧ w.heap.size ≤ a.vb ∧ (L'.ownBlock = M.L.ownBlock ∨ ∃ g, L'.ownBlock = some g ∧ w.heap.size ≤ g) ∧
        MapAt w' b { M with clock := M.clock + 1, L := L', l := lo ++ [a] })))))
set_option maxHeartbeats 8000000 in
theorem xupdate_ret (b : Nat) (M : BMap) (kv : Value) (k : ByteArray) (xb xo xc : Nat) (x : Nat → Int) (fl : Int) (w : World) (h : MapAt w b M) (hk : KeyP w kv k) (hS : k.size ≤ 1000) (h4 : M.ty = 5 → 4 ≤ M.ks) (hks : rightB M k = true → 0 < k.size)
    (hc : M.clock + 1 ≤ 1000000) (hfz : M.frozen = false) (hcap : 0 < M.cap) (hV : M.vs ≤ 1000) (hlen : M.l.length < 1000) (hfl : 0 ≤ fl) (hx : ∀ j, j < M.vs → wcell w xb (xo + j) = some (.int .u8 (x j))) (hxb : ∀ j, 0 ≤ x j ∧ x j ≤ 255)
    (hxo : xb < w.heap.size ∧ ¬ M.own b xb) (hko : ∀ j, kv.ownBlock = some j → ¬ M.own b j) :
    Ret Tryz.prog 11 [.pointer (some ⟨b, 0, none⟩), kv, .slice (some ⟨xb, xo, none⟩) M.vs xc, .int .u64 fl] w fun v w' => UpdX w w' b M k x fl v := by
  refine ret_of_W Tryz.func11 rfl ok_bmap_Map_Update ?_
  have hkvv := hk.var
  have hb := h.blk
  simp [c_bmap_Map_Update]
  refine W_call0 (by simp) (changes_ret b M w h) ?_
  rintro v w1 ⟨rfl, rfl⟩
  simp [hfz]
  refine W_no (by simp) ?_
  simp
  refine W_call0 (by simp [hkvv]) (gright_ret b M kv k w1 h hk h4 hS) ?_
  rintro v w2 ⟨rfl, rfl⟩
  simp
  have hrb : (!decide (M.ty = 3) && !decide (M.ty = 4) && decide ((k.size : Int) = M.ks) && (!decide (M.ty = 5) || decide (cnt k ≤ 8 * ((k.size : Int) - 4)))) = rightB M k := rfl
  simp only [hrb]
  by_cases hbad : rightB M k = false ∨ 2 < fl
  · refine W_yes (by
      rcases hr : rightB M k with _ | _
      · simp
      · have h2 : 2 < fl := by rcases hbad with h | h; rw [hr] at h; cases h; exact h
        simp [wcell_of hb, BMap.cells, h2]) ?_
    simp
    exact .inl ⟨hbad, rfl, Kept.refl _ _⟩
  have hr : rightB M k = true := by
    cases hr : rightB M k with
    | true => rfl
    | false => exact absurd (.inl hr) hbad
  have hfl2 : ¬ (2 < fl) := fun h => hbad (.inr h)
  have h0k := hks hr
  have hsz : (k.size : Int) = M.ks := by simp [rightB] at hr; exact hr.1.2
  have h5k : M.ty = 5 → 4 ≤ k.size := fun h => by have := h4 h; omega
  refine W_no (by simp [hr, wcell_of hb, BMap.cells, hfl2]) ?_
  simp
  refine W_call0 (by simp [hkvv]) (gexact_ret b M kv k w2 h hk h0k h5k hS) ?_
  rintro v w3 ⟨hk3, hv⟩
  have hm3 := h.calm hk3
  have hx3 : ∀ j, j < M.vs → wcell w3 xb (xo + j) = some (.int .u8 (x j)) := fun j hj => wcell_kept hk3 (fun h => h) (hx j hj)
  have fin : ∀ {w' : World} {v : Value}, ((∃ (i : Nat) (e : BEnt), M.l[i]? = some e ∧ e.key = name M k ∧ ((fl = 1 ∧ v = .int .i64 17 ∧ Kept none' w2 w') ∨ (fl ≠ 1 ∧ v = .int .i64 0 ∧ Kept (fun j => j = b ∨ j = e.eb ∨ j = e.vb) w2 w' ∧ MapAt w' b (writtenM M i e x)))) ∨
     ((∀ e ∈ M.l, e.key ≠ name M k) ∧ ((M.ty = 0 ∧ v = .int .i64 7 ∧ Kept none' w2 w') ∨ (M.ty ≠ 0 ∧ fl = 2 ∧ v = .int .i64 2 ∧ Kept none' w2 w') ∨
      (M.ty ≠ 0 ∧ fl ≠ 2 ∧ ¬ (M.l.length : Int) < M.cap ∧ M.ty ≠ 2 ∧ v = .int .i64 7 ∧ Kept none' w2 w') ∨
      (M.ty ≠ 0 ∧ fl ≠ 2 ∧ v = .int .i64 0 ∧ Kept (fun j => j = b ∨ M.L.ownBlock = some j) w2 w' ∧ ∃ (lo : List BEnt) (L' : Value) (a : BEnt), ((M.l.length : Int) < M.cap ∧ lo = M.l ∨ ¬ (M.l.length : Int) < M.cap ∧ M.ty = 2 ∧ ∃ (i : Nat) (e : BEnt), M.l[i]? = some e ∧ (∀ c ∈ M.l, e.used ≤ c.used) ∧ lo = M.l.eraseIdx i) ∧
        a.key = name M k ∧ a.val = x ∧ a.used = M.clock + 1 ∧ w2.heap.size ≤ a.eb ∧ w2.heap.size ≤ a.cb ∧ w2.heap.size ≤ a.vb ∧ (L'.ownBlock = M.L.ownBlock ∨ ∃ g, L'.ownBlock = some g ∧ w2.heap.size ≤ g) ∧
        MapAt w' b { M with clock := M.clock + 1, L := L', l := lo ++ [a] })))) → UpdX w2 w' b M k x fl v := fun h => .inr ⟨hr, by omega, h⟩
  rcases hv with ⟨i, e, hi, hke, rfl⟩ | ⟨hno, rfl⟩
  · simp
    refine W_call0 (by simp) (flagged_ret b M (some ⟨e.eb, 0, none⟩) fl w3 hm3) ?_
    rintro v w4 ⟨rfl, rfl⟩
    by_cases h1 : fl = 1
    · simp [h1]
      refine W_yes (by simp) ?_
      simp
      have := fin (w' := w4) (v := .int .i64 17) (.inl ⟨i, e, hi, hke, .inl ⟨h1, rfl, hk3⟩⟩)
      rw [h1] at this
      exact this
    · simp [h1]
      refine W_no (by simp) ?_
      simp
      refine W_no (by simp) ?_
      refine upd_end b M i e xb xo xc x w4 hm3 hi hc hx3 hxb ?_
      intro w' env he hk' hm'
      simp [he]
      exact fin (.inl ⟨i, e, hi, hke, .inr ⟨h1, rfl, (hk3.mono fun _ _ h => h.elim).trans hk', hm'⟩⟩)
  · simp
    refine W_call0 (by simp) (flagged_ret b M none fl w3 hm3) ?_
    rintro v w4 ⟨rfl, rfl⟩
    by_cases h0 : M.ty = 0
    · simp [h0]
      refine W_yes (by simp) ?_
      simp
      exact fin (.inr ⟨hno, .inl ⟨h0, rfl, hk3⟩⟩)
    by_cases h2 : fl = 2
    · simp [h0, h2]
      refine W_yes (by simp) ?_
      simp
      have := fin (w' := w4) (v := .int .i64 2) (.inr ⟨hno, .inr (.inl ⟨h0, h2, rfl, hk3⟩)⟩)
      rw [h2] at this
      exact this
    simp [h0, h2]
    refine W_no (by simp) ?_
    simp
    refine W_yes (by simp) ?_
    simp
    refine W_call0 (by simp) (room_ret b M w4 hm3 hcap) ?_
    intro v w5 hroom
    have hroom' : (¬ (M.l.length : Int) < M.cap ∧ M.ty ≠ 2 ∧ v = .int .i64 7 ∧ Kept none' w4 w5) ∨ (v = .int .i64 0 ∧ Kept (fun j => j = b ∨ M.L.ownBlock = some j) w4 w5 ∧ ∃ (lo : List BEnt) (Lr : Value), MapAt w5 b { M with L := Lr, l := lo } ∧ Lr.ownBlock = M.L.ownBlock ∧
        ((M.l.length : Int) < M.cap ∧ lo = M.l ∨ ¬ (M.l.length : Int) < M.cap ∧ M.ty = 2 ∧ ∃ (i : Nat) (e : BEnt), M.l[i]? = some e ∧ (∀ c ∈ M.l, e.used ≤ c.used) ∧ lo = M.l.eraseIdx i) ∧ lo.length ≤ M.l.length ∧ (∀ c ∈ lo, c ∈ M.l)) := by
      rcases hroom with ⟨g1, g2, g3⟩ | g | ⟨g1, g2, g3, g4, i, e, L', g5, g6, g7, g8⟩
      · exact .inr ⟨g2, g3.mono (fun _ _ h => h.elim), M.l, M.L, hm3.calm g3, rfl, .inl ⟨g1, rfl⟩, Nat.le_refl _, fun c hc => hc⟩
      · exact .inl g
      · exact .inr ⟨g3, g4, _, L', g8, g7, .inr ⟨g1, g2, i, e, g5, g6, rfl⟩, List.length_eraseIdx_le _ _, fun c hc => List.mem_of_mem_eraseIdx hc⟩
    rcases hroom' with ⟨g1, g2, rfl, g4⟩ | ⟨rfl, hk5, lo, Lr, hmr, hLr, hlo, hlol, hlom⟩
    · simp
      refine W_yes (by simp) ?_
      simp
      exact fin (.inr ⟨hno, .inr (.inr (.inl ⟨h0, h2, g1, g2, rfl, hk3.trans g4⟩))⟩)
    have hownr : ∀ j, BMap.own { M with L := Lr, l := lo } b j → M.own b j := by
      rintro j (hj | hj | ⟨c, hc, hj⟩)
      · exact .inl hj
      · exact .inr (.inl (by rw [← hLr]; exact hj))
      · exact .inr (.inr ⟨c, hlom c hc, hj⟩)
    have hkk : Kept (fun j => j = b ∨ M.L.ownBlock = some j) w2 w5 := (hk3.mono fun _ _ h => h.elim).trans hk5
    have hin : ∀ j, (j = b ∨ M.L.ownBlock = some j) → M.own b j := fun j hj => by
      rcases hj with hj | hj
      · exact .inl hj
      · exact .inr (.inl hj)
    have hkey5 : KeyP w5.drew kv k := hk.keep hkk.drew fun j hj hs => hko j hj (hin j hs)
    have hx5 : ∀ j, j < M.vs → wcell w5.drew xb (xo + j) = some (.int .u8 (x j)) := by
      have e : w5.drew.heap[xb]? = w2.heap[xb]? := hkk.block xb hxo.1 (fun hj => hxo.2 (hin _ hj))
      intro j hj
      rw [← hx j hj]; unfold wcell; rw [e]
    have hm6 := hmr.calm (Kept.refl none' w5).drew
    have hk6 : Kept (fun j => j = b ∨ M.L.ownBlock = some j) w2 w5.drew := hkk.drew
    have hs6 := hk6.size
    have hnm : name { M with L := Lr, l := lo } k = name M k := rfl
    simp
    refine W_no (by simp) ?_
    simp
    have hb6 := hm6.blk
    simp [wcell_of hmr.blk, BMap.cells, hkvv]
    generalize rightB M k = rb
    generalize w5.drew = w6 at hkey5 hx5 hm6 hk6 hs6 hb6 ⊢
    refine W_cut (fun env w' => ∃ eb cb vb : Nat, Kept none' w6 w' ∧ EntAt w' M.vs ⟨eb, cb, vb, name M k, 0, fun _ => 0⟩ ∧ w6.heap.size ≤ eb ∧ w6.heap.size ≤ cb ∧ w6.heap.size ≤ vb ∧
      env = [.pointer (some ⟨b, 0, none⟩), kv, .slice (some ⟨xb, xo, none⟩) M.vs xc, .int .u64 fl, .int .i64 0, .int .i64 0, .int .i64 0,
        .bool rb, .pointer none, .pointer (some ⟨eb, 0, none⟩), .int .i64 0, .int .i64 0, .int .i64 0, .int .i64 0, .string (name M k), .int .i64 M.vs,
        .slice (some ⟨vb, 0, none⟩) M.vs M.vs, .pointer (some ⟨cb, 0, none⟩), .pointer (some ⟨eb, 0, none⟩), undef, undef, undef]) ?_ ?_
    · rw [W_alt]
      refine ⟨?_, ?_⟩
      · simp
        refine W_call (by simp [hkvv]) (gplain_ret b _ _ k w6 hm6 hkey5 h0k h5k hS) ?_
        rintro v w7 ⟨rfl, hk7⟩
        refine ⟨?_, ?_⟩
        · intro e he v hv
          simp at he
          subst he
          have hb7 := (hm6.calm hk7).blk
          simp [wcell_of hb6, BMap.cells] at hv
          simp [wcell_of hb7, BMap.cells]
          exact hv
        simp
        refine W_sem (by simp) (run_mkb M.vs (by omega) w7) (stab_nil _ _ _) ?_
        simp
        exact ⟨hk7.trans ((((Kept.refl none' w7).alloc _).alloc _).alloc _), _, _, _, entAt_of (hp_new _ _) (hp_old (hp_at (by simp)) _) (hp_old (hp_old (hp_new _ _) _) _), by have := hk7.size; simp; omega, by have := hk7.size; simp; omega, by have := hk7.size; simp; omega, by first | rfl | simp, by first | rfl | simp, by first | rfl | simp, by first | rfl | simp⟩
      · simp
        refine W_sem (by simp) (run_mkb M.vs (by omega) w6) ?_ ?_
        · intro e he v hv
          simp at he
          subst he
          have hb7 := hp_old hb6 (.cells (madeCells #[.int .u8 0] M.vs) 5)
          simp [wcell_of hb6, BMap.cells] at hv
          simp [wcell_of hb7, BMap.cells]
          exact hv
        have hkA : Kept none' w6 (w6.alloc (.cells (madeCells #[.int .u8 0] M.vs) 5)) := (Kept.refl none' w6).alloc _
        have hpA := hp_new w6 (.cells (madeCells #[.int .u8 0] M.vs) 5)
        have hsA : (w6.alloc (.cells (madeCells #[.int .u8 0] M.vs) 5)).heap.size = w6.heap.size + 1 := by simp
        simp
        generalize w6.alloc (.cells (madeCells #[.int .u8 0] M.vs) 5) = w7 at hkA hpA hsA ⊢
        have hm7 := hm6.calm hkA
        have hkey7 := hkey5.calm hkA
        have hb7 := hm7.blk
        rw [W_alt]
        refine ⟨?_, ?_⟩
        · simp
          refine W_call (by simp [hkvv]) (gplain_ret b _ _ k w7 hm7 hkey7 h0k h5k hS) ?_
          rintro v w8 ⟨rfl, hk8⟩
          have hb8 := (hm7.calm hk8).blk
          refine ⟨?_, ?_⟩
          · intro e he v hv
            simp at he
            subst he
            simp [wcell_of hb7, BMap.cells] at hv
            simp [wcell_of hb8, BMap.cells]
            exact hv
          simp
          exact ⟨(hkA.trans hk8).trans (((Kept.refl none' w8).alloc _).alloc _), _, _, _, entAt_of (hp_new _ _) (hp_old (hp_new _ _) _) (hp_old (hp_old (hk8.has hpA (fun h => h)) _) _), by have := hk8.size; simp; omega, by have := hk8.size; simp; omega, by first | rfl | simp, by first | rfl | simp, by first | rfl | simp, by first | rfl | simp, by first | rfl | simp⟩
        · simp
          have hkB : Kept none' w7 (w7.alloc (.cells #[.slice (some ⟨w6.heap.size, 0, none⟩) M.vs M.vs] 82)) := (Kept.refl none' w7).alloc _
          have hpB := hp_new w7 (.cells #[.slice (some ⟨w6.heap.size, 0, none⟩) M.vs M.vs] 82)
          generalize w7.alloc (.cells #[.slice (some ⟨w6.heap.size, 0, none⟩) M.vs M.vs] 82) = w8 at hkB hpB ⊢
          refine W_call (by simp [hkvv]) (gplain_ret b _ _ k w8 (hm7.calm hkB) (hkey7.calm hkB) h0k h5k hS) ?_
          rintro v w9 ⟨rfl, hk9⟩
          have hb8 := (hm7.calm hkB).blk
          have hb9 := ((hm7.calm hkB).calm hk9).blk
          refine ⟨?_, ?_⟩
          · intro e he v hv
            simp at he
            subst he
            simp [wcell_of hb8, BMap.cells] at hv
            simp [wcell_of hb9, BMap.cells]
            exact hv
          simp
          exact ⟨((hkA.trans hkB).trans hk9).trans ((Kept.refl none' w9).alloc _), _, _, _, entAt_of (hp_new _ _) (hp_old (hk9.has hpB (fun h => h)) _) (hp_old (hk9.has (hkB.has hpA (fun h => h)) (fun h => h)) _), by have := hk9.size; have := hkB.size; omega, (show w6.heap.size ≤ w7.heap.size by omega), by first | rfl | simp, by first | rfl | simp, by first | rfl | simp, by first | rfl | simp, by first | rfl | simp⟩
    · rintro env w8 ⟨eb, cb, vb, hka, hE8, g1, g2, g3, rfl⟩
      have hm8 := hm6.calm hka
      have hown6 : ∀ j, BMap.own { M with L := Lr, l := lo } b j → j < w6.heap.size := fun j hj => own_lt hm6 hj
      have hvar := hm8.row.var
      have hb8 := hm8.blk
      simp [wcell_of hb8, BMap.cells, hvar]
      have hrowp := hp_new w8 (.cells #[.pointer (some ⟨eb, 0, none⟩)] 79)
      have hkb9 : Kept none' w8 (w8.alloc (.cells #[.pointer (some ⟨eb, 0, none⟩)] 79)) := (Kept.refl _ _).alloc _
      have hm9 := hm8.calm hkb9
      have hE9 := hE8.keep hkb9 (fun h => h) (fun h => h) (fun h => h)
      have hs8 := hka.size
      have hs9 := hkb9.size
      generalize w8.alloc (.cells #[.pointer (some ⟨eb, 0, none⟩)] 79) = w9 at hrowp hkb9 hm9 hE9 hs9 ⊢
      obtain ⟨L', w10, hrun, hr10, hk10, hown10⟩ := row_append (a := ⟨eb, cb, vb, name M k, 0, fun _ => 0⟩) hm9.row (by simp; omega) hrowp
      refine W_bi (by simp [hvar]) hrun (stab_nil _ _ _) ?_
      have hb10 := hk10.has hm9.blk (by
        intro ho
        rcases hm9.row with ⟨hL, _⟩ | ⟨g, cap, cur, hL, hg, _⟩
        · rw [hL] at ho; simp [Value.ownBlock] at ho
        · rw [hL] at ho
          simp [Value.ownBlock] at ho
          subst ho
          exact heap_ne hg hm9.blk (by decide) rfl)
      have hvar10 := hr10.var
      refine W_store (by simp) (by simp [hvar10]) (store_L (M := { M with L := Lr, l := lo }) hb10 hr10.one hr10.cellsL) (stab_nil _ _ _) ?_
      have hk11 : Kept (fun j => j = b ∨ Lr.ownBlock = some j) w9 (put w10 b (.cells ({ M with L := L', l := lo } : BMap).cells 78 (0, 0))) := (hk10.mono fun _ _ h => .inr h).put (fun _ => .inl rfl) _
      have hr11 : RowAt (put w10 b (.cells ({ M with L := L', l := lo } : BMap).cells 78 (0, 0))) L' (lo ++ [⟨eb, cb, vb, name M k, 0, fun _ => 0⟩]) := by
        refine hr10.keep (S := fun j => j = b) ((Kept.refl (fun j => j = b) _).put (b := b) (fun _ => rfl) _) ?_
        rintro j hj rfl
        rcases hr10 with ⟨hL, _⟩ | ⟨g, cap, cur, hL, hg, _⟩
        · rw [hL] at hj; simp [Value.ownBlock] at hj
        · rw [hL] at hj
          simp [Value.ownBlock] at hj
          subst hj
          exact heap_ne hg hb10 (by decide) rfl
      have hm11 := hm9.push (L' := L') hE9 (fun i hi => by have := hown6 i hi; exact ⟨by show i ≠ eb; omega, by show i ≠ cb; omega, by show i ≠ vb; omega⟩) (put_same (blk_lt hb10)) hr11 hk11 (by simp; omega)
      generalize put w10 b (.cells ({ M with L := L', l := lo } : BMap).cells 78 (0, 0)) = w11 at hk11 hr11 hm11 ⊢
      have hk12 : Kept (fun j => j = b ∨ M.L.ownBlock = some j) w2 w11 := by
        refine ((hk6.trans (hka.mono fun _ _ h => h.elim)).trans (hkb9.mono fun _ _ h => h.elim)).trans (hk11.mono fun j _ hj => ?_)
        rw [hLr] at hj
        exact hj
      have hx11 : ∀ j, j < M.vs → wcell w11 xb (xo + j) = some (.int .u8 (x j)) := by
        have e : w11.heap[xb]? = w2.heap[xb]? := hk12.block xb hxo.1 (fun hj => hxo.2 (hin _ hj))
        intro j hj
        rw [← hx j hj]; unfold wcell; rw [e]
      have hlast : (lo ++ [(⟨eb, cb, vb, name M k, 0, fun _ => 0⟩ : BEnt)])[lo.length]? = some ⟨eb, cb, vb, name M k, 0, fun _ => 0⟩ := by simp
      refine upd_end b _ lo.length ⟨eb, cb, vb, name M k, 0, fun _ => 0⟩ xb xo xc x w11 hm11 hlast hc hx11 hxb ?_
      intro w' env he hk' hm'
      simp [he]
      refine fin (.inr ⟨hno, .inr (.inr (.inr ⟨h0, h2, rfl, ?_, lo, L', ⟨eb, cb, vb, name M k, M.clock + 1, x⟩, hlo, rfl, rfl, rfl, ?_, ?_, ?_, ?_, ?_⟩))⟩)
      · refine hk12.then hk' (fun i hi hj => ?_)
        rcases hj with hj | hj | hj
        · exact .inl hj
        · simp only at hj; omega
        · simp only at hj; omega
      · show w2.heap.size ≤ eb; omega
      · show w2.heap.size ≤ cb; omega
      · show w2.heap.size ≤ vb; omega
      · rcases hown10 with ho | ho
        · exact .inl (ho.trans hLr)
        · exact .inr ⟨_, ho, by omega⟩
      · have : writtenM { M with L := L', l := lo ++ [(⟨eb, cb, vb, name M k, 0, fun _ => 0⟩ : BEnt)] } lo.length ⟨eb, cb, vb, name M k, 0, fun _ => 0⟩ x = { M with clock := M.clock + 1, L := L', l := lo ++ [⟨eb, cb, vb, name M k, M.clock + 1, x⟩] } := by
          simp [writtenM]
        rw [← this]
        exact hm'
end Go.Proofs.YtmfgdbapankamaaGreat
namespace Go.Proofs.YtmfgdbapankamaaGreat
open Go.Eng
def PushX (w w' : World) (b : Nat) (M : BMap) (m : List Nat) (v : Value) : Prop :=
  ((M.l.length : Int) = M.cap ∧ v = .int .i64 7 ∧ Kept none' w w') ∨
  ((M.l.length : Int) ≠ M.cap ∧ v = .int .i64 0 ∧ Kept (fun j => j = b ∨ M.L.ownBlock = some j) w w' ∧ ∃ (L' : Value) (a : BEnt), a.key = ⟨#[]⟩ ∧ a.used = 0 ∧ (a.val = fun j => ((m.getD j 0 : Nat) : Int)) ∧ w.heap.size ≤ a.eb ∧ w.heap.size ≤ a.cb ∧ w.heap.size ≤ a.vb ∧
    (L'.ownBlock = M.L.ownBlock ∨ ∃ g, L'.ownBlock = some g ∧ w.heap.size ≤ g) ∧ MapAt w' b { M with L := L', l := M.l ++ [a] })
def PushG (w w' : World) (b : Nat) (M : BMap) (m : List Nat) (fl : Int) (v : Value) : Prop :=
  (((M.ty ≠ 3 ∧ M.ty ≠ 4) ∨ fl ≠ 0) ∧ v = .int .i64 22 ∧ Kept none' w w') ∨ ((M.ty = 3 ∨ M.ty = 4) ∧ fl = 0 ∧ PushX w w' b M m v)
set_option maxHeartbeats 4000000 in
theorem xpush_ret (b : Nat) (M : BMap) (xb xo xc : Nat) (m : List Nat) (fl : Int) (w : World) (h : MapAt w b M) (hV : M.vs = m.length) (hm0 : 0 < m.length) (hm1 : m.length ≤ 1000) (hmx : ∀ x ∈ m, x ≤ 255) (hlen : M.l.length < 1000) (hfz : M.frozen = false)
    (hx : ∀ (j x : Nat), m[j]? = some x → wcell w xb (xo + j) = some (.int .u8 x)) :
    Ret Tryz.prog 13 [.pointer (some ⟨b, 0, none⟩), .slice (some ⟨xb, xo, none⟩) m.length xc, .int .u64 fl] w fun v w' => PushG w w' b M m fl v := by
  refine ret_of_W Tryz.func13 rfl ok_bmap_Map_Push ?_
  have hb := h.blk
  simp [c_bmap_Map_Push]
  refine W_call0 (by simp) (changes_ret b M w h) ?_
  rintro v w1 ⟨rfl, rfl⟩
  simp [hfz]
  refine W_no (by simp) ?_
  simp
  refine W_call0 (by simp) (lined_ret b M w1 h) ?_
  rintro v w2 ⟨rfl, rfl⟩
  by_cases hbad : (M.ty ≠ 3 ∧ M.ty ≠ 4) ∨ fl ≠ 0
  · simp only [W_seq, W_set]
    refine ok_intro (.bool true) (by
      rcases hbad with ⟨h3, h4⟩ | hf
      · simp [wcell_of hb, BMap.cells, hV, h3, h4]
      · cases hq : (decide (M.ty = 3) || decide (M.ty = 4)) <;> simp [wcell_of hb, BMap.cells, hV, hf]) ?_
    refine W_yes (by simp) ?_
    simp
    exact .inl ⟨hbad, rfl, Kept.refl _ _⟩
  have hfl : fl = 0 := by
    by_cases h : fl = 0
    · exact h
    · exact absurd (.inr h) hbad
  have hty : M.ty = 3 ∨ M.ty = 4 := by
    by_cases h3 : M.ty = 3
    · exact .inl h3
    · by_cases h4 : M.ty = 4
      · exact .inr h4
      · exact absurd (.inl ⟨h3, h4⟩) hbad
  subst hfl
  have hty' : (decide (M.ty = 3) || decide (M.ty = 4)) = true := by simpa using hty
  rw [hty']
  simp [wcell_of hb, BMap.cells, hV]
  refine W_no (by simp) ?_
  have hmd := h.calm (Kept.refl none' w2).drew
  have hkd : Kept none' w2 w2.drew := (Kept.refl _ _).drew
  have hl := h.row.len
  have hv := h.row.var
  simp [wcell_of hb, BMap.cells, hl, hv]
  generalize w2.drew = w3 at hmd hkd ⊢
  refine W_cond (t := decide ((M.l.length : Int) = M.cap)) (by simp) ?_ ?_
  · intro hf
    have hf' : (M.l.length : Int) = M.cap := by simpa using hf
    simp
    exact .inr ⟨hty, rfl, .inl ⟨hf', rfl, hkd⟩⟩
  · intro hf
    have hf' : ¬ (M.l.length : Int) = M.cap := by simpa using hf
    have hm4 := hmd.calm (Kept.refl none' w3).drew
    have hk4 := hkd.drew
    have hb4 := hm4.blk
    have hx4 : ∀ (j x : Nat), m[j]? = some x → wcell w3.drew xb (xo + j) = some (.int .u8 x) := fun j x hj => wcell_kept hk4 (fun h => h) (hx j x hj)
    simp [wcell_of hmd.blk, BMap.cells, hv]
    have hs4 := hk4.size
    generalize w3.drew = w4 at hm4 hk4 hb4 hx4 hs4 ⊢
    refine W_call (by simp) (clone_bys xb xo xc m w4 hx4 hm1) ?_
    rintro v w5 ⟨hk5, hB5, ho5⟩
    have hm5 := hm4.calm hk5
    refine ⟨?_, ?_⟩
    · intro e he v' hv'
      simp at he
      subst he
      simp [wcell_of hb4, BMap.cells] at hv'
      simp [wcell_of hm5.blk, BMap.cells]
      exact hv'
    obtain ⟨g, cap, rfl, hcap, hown, _⟩ := hB5.form hm0
    have hg5 := ho5 g hown
    obtain ⟨g', cap', cur, hge, hg, hc1, hc2, hc3, hc4⟩ : ∃ g' cap' cur, Value.slice (some ⟨g, 0, none⟩) m.length cap = .slice (some ⟨g', 0, none⟩) m.length cap' ∧ w5.heap[g']? = some (.cells cur 5 (0, 0)) ∧ m.length ≤ cap' ∧ cap' ≤ maxLen ∧ cur.size = cap' ∧ ∀ (i : Nat) (x : Nat), m[i]? = some x → cur[i]? = some (Value.int .u8 x) := by
      rcases hB5 with ⟨h0, _⟩ | h0
      · cases h0
      · exact h0
    simp only [Value.slice.injEq, Option.some.injEq, Addr.mk.injEq] at hge
    obtain ⟨⟨rfl, _⟩, _, rfl⟩ := hge
    simp
    have hcell := hp_new w5 (.cells #[.slice (some ⟨g, 0, none⟩) m.length cap] 82)
    have hk6 : Kept none' w5 (w5.alloc (.cells #[.slice (some ⟨g, 0, none⟩) m.length cap] 82)) := (Kept.refl _ _).alloc _
    have hs6 : (w5.alloc (.cells #[.slice (some ⟨g, 0, none⟩) m.length cap] 82)).heap.size = w5.heap.size + 1 := by simp
    generalize w5.alloc (.cells #[.slice (some ⟨g, 0, none⟩) m.length cap] 82) = w6 at hcell hk6 hs6 ⊢
    have hent := hp_new w6 (.cells #[.string ⟨#[]⟩, .pointer (some ⟨w5.heap.size, 0, none⟩), .int .i64 0] 84)
    have hk7 : Kept none' w6 (w6.alloc (.cells #[.string ⟨#[]⟩, .pointer (some ⟨w5.heap.size, 0, none⟩), .int .i64 0] 84)) := (Kept.refl _ _).alloc _
    have hs7 : (w6.alloc (.cells #[.string ⟨#[]⟩, .pointer (some ⟨w5.heap.size, 0, none⟩), .int .i64 0] 84)).heap.size = w6.heap.size + 1 := by simp
    generalize w6.alloc (.cells #[.string ⟨#[]⟩, .pointer (some ⟨w5.heap.size, 0, none⟩), .int .i64 0] 84) = w7 at hent hk7 hs7 ⊢
    have hk57 := hk6.trans hk7
    have hE7 : EntAt w7 M.vs ⟨w6.heap.size, w5.heap.size, g, ⟨#[]⟩, 0, fun j => ((m.getD j 0 : Nat) : Int)⟩ := by
      refine ⟨hent, ⟨cap, by omega, ?_⟩, ⟨cur, hk57.has hg (fun h => h), by omega, ?_⟩, fun j => ?_⟩
      · rw [hV]; exact hk7.has hcell (fun h => h)
      · intro j hj
        rw [hV] at hj
        have hmj := List.getElem?_eq_getElem hj
        rw [hc4 j _ hmj]
        simp [List.getD_eq_getElem?_getD, hmj]
      · show 0 ≤ ((m.getD j 0 : Nat) : Int) ∧ ((m.getD j 0 : Nat) : Int) ≤ 255
        by_cases hj : j < m.length
        · have := hmx _ (List.getElem_mem hj)
          rw [List.getD_eq_getElem?_getD, List.getElem?_eq_getElem hj]
          simp
          omega
        · rw [List.getD_eq_getElem?_getD, List.getElem?_eq_none (by omega)]
          simp
    have hm7 := hm5.calm hk57
    have hown5 : ∀ j, M.own b j → j < w5.heap.size := fun j hj => own_lt hm5 hj
    have hown4 : ∀ j, M.own b j → j < w4.heap.size := fun j hj => own_lt hm4 hj
    generalize hae : (⟨w6.heap.size, w5.heap.size, g, ⟨#[]⟩, 0, fun j => ((m.getD j 0 : Nat) : Int)⟩ : BEnt) = a at hE7
    have ha1 : a.eb = w6.heap.size := by rw [← hae]
    have ha2 : a.cb = w5.heap.size := by rw [← hae]
    have ha3 : a.vb = g := by rw [← hae]
    have ha4 : a.key = ⟨#[]⟩ ∧ a.used = 0 ∧ a.val = fun j => ((m.getD j 0 : Nat) : Int) := by
      rw [← hae]
      exact ⟨rfl, rfl, rfl⟩
    have hrowp := hp_new w7 (.cells #[.pointer (some ⟨a.eb, 0, none⟩)] 79)
    have hk8 : Kept none' w7 (w7.alloc (.cells #[.pointer (some ⟨a.eb, 0, none⟩)] 79)) := (Kept.refl _ _).alloc _
    have hs8 : (w7.alloc (.cells #[.pointer (some ⟨a.eb, 0, none⟩)] 79)).heap.size = w7.heap.size + 1 := by simp
    have ha1' : w5.heap.size + 1 = a.eb := by omega
    have hw7 : w7.heap.size = a.eb + 1 := by omega
    rw [ha1']
    rw [hw7] at hrowp
    have hm8 := hm7.calm hk8
    have hE8 := hE7.keep hk8 (fun h => h) (fun h => h) (fun h => h)
    have hs5 := hk5.size
    generalize w7.alloc (.cells #[.pointer (some ⟨a.eb, 0, none⟩)] 79) = w8 at hrowp hk8 hs8 hm8 hE8 ⊢
    obtain ⟨L', w9, hrun, hr9, hk9, ho9⟩ := row_append (a := a) hm8.row (by omega) hrowp
    refine W_bi (by simp [hv]) hrun (stab_nil _ _ _) ?_
    have hb9 := hk9.has hm8.blk (by
      intro ho
      rcases hm8.row with ⟨hL, _⟩ | ⟨g, cap, cur, hL, hg, _⟩
      · rw [hL] at ho; simp [Value.ownBlock] at ho
      · rw [hL] at ho
        simp [Value.ownBlock] at ho
        subst ho
        exact heap_ne hg hm8.blk (by decide) rfl)
    have hvv := hr9.var
    refine W_store (by simp) (by simp [hvv]) (store_L hb9 hr9.one hr9.cellsL) (stab_nil _ _ _) ?_
    have hk10 : Kept (fun j => j = b ∨ M.L.ownBlock = some j) w8 (put w9 b (.cells { M with L := L' }.cells 78 (0, 0))) := (hk9.mono fun _ _ h => .inr h).put (fun _ => .inl rfl) _
    have hr10 : RowAt (put w9 b (.cells { M with L := L' }.cells 78 (0, 0))) L' (M.l ++ [a]) := by
      refine hr9.keep (S := fun j => j = b) ((Kept.refl (fun j => j = b) _).put (b := b) (fun _ => rfl) _) ?_
      rintro j hj rfl
      rcases hr9 with ⟨hL, _⟩ | ⟨g, cap, cur, hL, hg, _⟩
      · rw [hL] at hj; simp [Value.ownBlock] at hj
      · rw [hL] at hj
        simp [Value.ownBlock] at hj
        subst hj
        exact heap_ne hg hb9 (by decide) rfl
    have hm10 := hm8.push (L' := L') hE8 (fun i hi => by have := hown5 i hi; have := hown4 i hi; omega) (put_same (blk_lt hb9)) hr10 hk10 hlen
    simp
    refine .inr ⟨hty, rfl, .inr ⟨hf', rfl, ?_, L', a, ha4.1, ha4.2.1, ha4.2.2, by omega, by omega, by omega, ?_, hm10⟩⟩
    · exact (((hk4.trans hk5).trans hk57).trans hk8 |>.mono fun _ _ h => h.elim).trans hk10
    · rcases ho9 with q | q
      · exact .inl q
      · exact .inr ⟨_, q, by omega⟩
def FoundX (M : BMap) (k : ByteArray) (e : BEnt) : Prop := if M.ty = 5 then Fits k e ∧ ∀ e' ∈ M.l, Fits k e' → cnt e'.key ≤ cnt e.key else e.key = k
def NoneX (M : BMap) (k : ByteArray) : Prop := if M.ty = 5 then ∀ e ∈ M.l, ¬ Fits k e else ∀ e ∈ M.l, e.key ≠ k
def FindX (w w' : World) (b : Nat) (M : BMap) (k : ByteArray) (v : Value) : Prop :=
  (rightB M k = false ∧ v = .tuple #[.pointer none, .int .i64 22] ∧ Kept none' w w') ∨
  (rightB M k = true ∧ ∃ (i : Nat) (e : BEnt), M.l[i]? = some e ∧ FoundX M k e ∧ v = .tuple #[.pointer (some ⟨e.eb, 0, none⟩), .int .i64 0] ∧ Kept (fun j => j = b ∨ j = e.eb) w w' ∧ MapAt w' b (usedM M i e)) ∨
  (rightB M k = true ∧ NoneX M k ∧ v = .tuple #[.pointer none, .int .i64 2] ∧ Kept none' w w')
theorem xfind_ret (b : Nat) (M : BMap) (kv : Value) (k : ByteArray) (w : World) (h : MapAt w b M) (hk : KeyP w kv k) (hS : k.size ≤ 1000) (h4 : M.ty = 5 → 4 < M.ks) (hks : rightB M k = true → 0 < k.size) (hall : M.ty = 5 → ∀ e ∈ M.l, (e.key.size : Int) = M.ks) (hc : M.clock + 1 ≤ 1000000) :
    Ret Tryz.prog 100 [.pointer (some ⟨b, 0, none⟩), kv] w fun v w' => FindX w w' b M k v := by
  cases hr : rightB M k with
  | false =>
    refine ret_of_W Tryz.func100 rfl ok_bmap_Map_find ?_
    have hkvv := hk.var
    simp [c_bmap_Map_find]
    refine W_call0 (by simp [hkvv]) (gright_ret b M kv k w h hk (fun e => by have := h4 e; omega) hS) ?_
    rintro v w1 ⟨rfl, rfl⟩
    have hrb : (!decide (M.ty = 3) && !decide (M.ty = 4) && decide ((k.size : Int) = M.ks) && (!decide (M.ty = 5) || decide (cnt k ≤ 8 * ((k.size : Int) - 4)))) = false := hr
    simp only [hrb]
    refine W_yes (by simp) ?_
    simp
    exact .inl ⟨hr, rfl, Kept.refl _ _⟩
  | true =>
    have h0k := hks hr
    have hr' := hr
    simp [rightB] at hr'
    obtain ⟨⟨⟨r3, r4⟩, rs⟩, r5⟩ := hr'
    by_cases hp : M.ty = 5
    · have h4' := h4 hp
      refine (gfind_ret b M kv k w h hk hp rs (by omega) hS (fun e he => by have := hall hp e he; omega) hc).mono fun v w' hv => ?_
      rcases hv with ⟨h1, _⟩ | ⟨_, i, e, hi, hf, hmax, rfl, hkk, hm⟩ | ⟨_, hno, rfl, hkk⟩
      · rcases r5 with r5 | r5
        · exact absurd hp r5
        · omega
      · exact .inr (.inl ⟨hr, i, e, hi, by unfold FoundX; rw [if_pos hp]; exact ⟨hf, hmax⟩, rfl, hkk, hm⟩)
      · exact .inr (.inr ⟨hr, by unfold NoneX; rw [if_pos hp]; exact hno, rfl, hkk⟩)
    · refine (find_ret b M kv k w h (hk.at h0k) hp r3 r4 rs hc).mono fun v w' hv => ?_
      rcases hv with ⟨i, e, hi, hke, rfl, hkk, hm⟩ | ⟨hno, rfl, hkk⟩
      · exact .inr (.inl ⟨hr, i, e, hi, by unfold FoundX; rw [if_neg hp]; exact hke, rfl, hkk, hm⟩)
      · exact .inr (.inr ⟨hr, by unfold NoneX; rw [if_neg hp]; exact hno, rfl, hkk⟩)
def CellX (w w' : World) (b : Nat) (M : BMap) (k : ByteArray) (v : Value) : Prop :=
  (rightB M k = false ∧ v = .tuple #[.pointer none, .int .i64 22] ∧ Kept none' w w') ∨
  (rightB M k = true ∧ ∃ (i : Nat) (e : BEnt), M.l[i]? = some e ∧ FoundX M k e ∧ v = .tuple #[.pointer (some ⟨e.cb, 0, none⟩), .int .i64 0] ∧ Kept (fun j => j = b ∨ j = e.eb) w w' ∧ MapAt w' b (usedM M i e)) ∨
  (rightB M k = true ∧ NoneX M k ∧ v = .tuple #[.pointer none, .int .i64 2] ∧ Kept none' w w')
theorem xcell_ret (b : Nat) (M : BMap) (kv : Value) (k : ByteArray) (w : World) (h : MapAt w b M) (hk : KeyP w kv k) (hS : k.size ≤ 1000) (h4 : M.ty = 5 → 4 < M.ks) (hks : rightB M k = true → 0 < k.size) (hall : M.ty = 5 → ∀ e ∈ M.l, (e.key.size : Int) = M.ks) (hc : M.clock + 1 ≤ 1000000) :
    Ret Tryz.prog 90 [.pointer (some ⟨b, 0, none⟩), kv] w fun v w' => CellX w w' b M k v := by
  refine ret_of_W Tryz.func90 rfl ok_bmap_Map_Cell ?_
  have hkvv := hk.var
  simp [c_bmap_Map_Cell]
  refine W_call0 (by simp [hkvv]) (xfind_ret b M kv k w h hk hS h4 hks hall hc) ?_
  rintro v w1 (⟨hr, rfl, hk1⟩ | ⟨hr, i, e, hi, hke, rfl, hk1, hm1⟩ | ⟨hr, hno, rfl, hk1⟩)
  · simp
    refine W_yes (by simp) ?_
    simp
    exact .inl ⟨hr, rfl, hk1⟩
  · simp
    refine W_no (by simp) ?_
    simp
    have hil : i < M.l.length := (List.getElem?_eq_some_iff.1 hi).1
    have hE : EntAt w1 M.vs { e with used := M.clock + 1 } := hm1.ents _ (List.mem_set hil _)
    have hent := hE.ent
    simp [wcell_of hent, BEnt.cells]
    exact .inr (.inl ⟨hr, i, e, hi, hke, rfl, hk1, hm1⟩)
  · simp
    refine W_yes (by simp) ?_
    simp
    exact .inr (.inr ⟨hr, hno, rfl, hk1⟩)
def DelX (w w' : World) (b : Nat) (M : BMap) (k : ByteArray) (v : Value) : Prop :=
  ((rightB M k = false ∨ M.ty = 0) ∧ v = .int .i64 22 ∧ Kept none' w w') ∨
  (rightB M k = true ∧ M.ty ≠ 0 ∧ ((∃ (i : Nat) (e : BEnt) (L' : Value), M.l[i]? = some e ∧ e.key = name M k ∧ v = .int .i64 0 ∧ Kept (fun j => j = b ∨ M.L.ownBlock = some j) w w' ∧ L'.ownBlock = M.L.ownBlock ∧ MapAt w' b { M with L := L', l := M.l.eraseIdx i }) ∨
   ((∀ e ∈ M.l, e.key ≠ name M k) ∧ v = .int .i64 2 ∧ Kept none' w w')))
set_option maxHeartbeats 4000000 in
theorem xdelete_ret (b : Nat) (M : BMap) (kv : Value) (k : ByteArray) (w : World) (h : MapAt w b M) (hk : KeyP w kv k) (hS : k.size ≤ 1000) (h4 : M.ty = 5 → 4 ≤ M.ks) (hks : rightB M k = true → 0 < k.size) (hfz : M.frozen = false) :
    Ret Tryz.prog 93 [.pointer (some ⟨b, 0, none⟩), kv] w fun v w' => DelX w w' b M k v := by
  refine ret_of_W Tryz.func93 rfl ok_bmap_Map_Delete ?_
  have hkvv := hk.var
  have hb := h.blk
  simp [c_bmap_Map_Delete]
  refine W_call0 (by simp) (changes_ret b M w h) ?_
  rintro v w1 ⟨rfl, rfl⟩
  simp [hfz]
  refine W_no (by simp) ?_
  simp
  refine W_call0 (by simp [hkvv]) (gright_ret b M kv k w1 h hk h4 hS) ?_
  rintro v w2 ⟨rfl, rfl⟩
  simp
  have hrb : (!decide (M.ty = 3) && !decide (M.ty = 4) && decide ((k.size : Int) = M.ks) && (!decide (M.ty = 5) || decide (cnt k ≤ 8 * ((k.size : Int) - 4)))) = rightB M k := rfl
  simp only [hrb]
  by_cases hbad : rightB M k = false ∨ M.ty = 0
  · refine W_yes (by
      rcases hr : rightB M k with _ | _
      · simp
      · have h2 : M.ty = 0 := by rcases hbad with h | h; rw [hr] at h; cases h; exact h
        simp [wcell_of hb, BMap.cells, h2]) ?_
    simp
    exact .inl ⟨hbad, rfl, Kept.refl _ _⟩
  have hr : rightB M k = true := by
    cases hr : rightB M k with
    | true => rfl
    | false => exact absurd (.inl hr) hbad
  have h0 : M.ty ≠ 0 := fun h => hbad (.inr h)
  have h0k := hks hr
  have hsz : (k.size : Int) = M.ks := by simp [rightB] at hr; exact hr.1.2
  have h5k : M.ty = 5 → 4 ≤ k.size := fun h => by have := h4 h; omega
  refine W_no (by simp [hr, wcell_of hb, BMap.cells, h0]) ?_
  simp
  refine W_call0 (by simp [hkvv]) (gexact_ret b M kv k w2 h hk h0k h5k hS) ?_
  rintro v w3 ⟨hk3, hv⟩
  have hm3 := h.calm hk3
  have fin : ∀ (a : Option Addr), v = .pointer a → (∃ (i : Nat) (e : BEnt), M.l[i]? = some e ∧ e.key = name M k ∧ a = some ⟨e.eb, 0, none⟩) ∨ ((∀ e ∈ M.l, e.key ≠ name M k) ∧ a = none) := by
    rintro a rfl
    rcases hv with ⟨i, e, hi, hke, he⟩ | ⟨hno, he⟩
    · exact .inl ⟨i, e, hi, hke, by simpa using he⟩
    · exact .inr ⟨hno, by simpa using he⟩
  obtain ⟨a, rfl⟩ : ∃ a, v = .pointer a := by
    rcases hv with ⟨i, e, hi, hke, he⟩ | ⟨hno, he⟩
    · exact ⟨_, he⟩
    · exact ⟨_, he⟩
  simp
  refine W_store (by simp) (by simp) (store_box (.pointer none) (.pointer a) rfl rfl) (stab_nil _ _ _) ?_
  obtain ⟨hbox, hk4, hs4⟩ := box_any w3 #[.pointer none] #[.pointer a] 79
  have hbx : ∀ j, M.own b j → j ≠ w3.heap.size := fun j hj => by have := own_lt hm3 hj; omega
  generalize put (w3.alloc (.cells #[.pointer none] 79)) w3.heap.size (.cells #[.pointer a] 79 (0, 0)) = w4 at hbox hk4 hs4 ⊢
  generalize w3.heap.size = p at *
  have hm4 := hm3.calm hk4
  have hb4 := hm4.blk
  have hvar4 := hm4.row.var
  simp
  rcases fin a rfl with ⟨i, e, hi, hke, rfl⟩ | ⟨hno, rfl⟩
  · refine W_no (by simp [wcell_of hbox]) ?_
    simp
    have hdel := delete_ret (f := 101) (cp := #[.pointer (some ⟨p, 0, none⟩)]) b M i e w4 hm4 hi (by kernel_rfl) (by
      intro w' hk' a ha
      have hbox' := hk'.has hbox (fun ho => hbx p (.inr (.inl ho)) rfl)
      have pl : ∀ c, c ∈ M.l → plainB w' c.eb = true := by
        intro c hc
        refine plainB_of (hk'.has (hm4.ents c hc).ent ?_)
        intro ho
        rcases hm4.row with ⟨hL, _⟩ | ⟨g, cap, cur, hL, hg, _⟩
        · rw [hL] at ho; simp [Value.ownBlock] at ho
        · rw [hL] at ho
          simp [Value.ownBlock] at ho
          subst ho
          exact heap_ne (hm4.ents c hc).ent hg (by decide) rfl
      have hr := same_delete_ret w' a.eb p e.eb (by rw [wcell_of hbox']; rfl) (pl a ha) (pl e (List.mem_of_getElem? hi))
      exact hr.mono fun v w'' hv => ⟨hv.1, by rw [hv.2]; exact Kept.refl _ _⟩)
    refine W_call0 (by simp [wcell_of hb4, BMap.cells, hvar4]) hdel ?_
    rintro v w5 ⟨hk5, hr5, ho5⟩
    have hb5 := hk5.has hb4 (by
      intro ho
      rcases hm4.row with ⟨hL, _⟩ | ⟨g, cap, cur, hL, hg, _⟩
      · rw [hL] at ho; simp [Value.ownBlock] at ho
      · rw [hL] at ho
        simp [Value.ownBlock] at ho
        subst ho
        exact heap_ne hg hb4 (by decide) rfl)
    have hvv := hr5.var
    simp
    refine W_store (by simp) (by simp [hvv]) (store_L hb5 hr5.one hr5.cellsL) (stab_nil _ _ _) ?_
    simp
    have hk6 : Kept (fun j => j = b ∨ M.L.ownBlock = some j) w4 (put w5 b (.cells { M with L := v }.cells 78 (0, 0))) := (hk5.mono fun _ _ h => .inr h).put (fun _ => .inl rfl) _
    have hr6 : RowAt (put w5 b (.cells { M with L := v }.cells 78 (0, 0))) v (M.l.eraseIdx i) := by
      refine hr5.keep (S := fun j => j = b) ((Kept.refl (fun j => j = b) _).put (b := b) (fun _ => rfl) _) ?_
      rintro j hj rfl
      rcases hr5 with ⟨hL, _⟩ | ⟨g, cap, cur, hL, hg, _⟩
      · rw [hL] at hj; simp [Value.ownBlock] at hj
      · rw [hL] at hj
        simp [Value.ownBlock] at hj
        subst hj
        exact heap_ne hg hb5 (by decide) rfl
    exact .inr ⟨hr, h0, .inl ⟨i, e, v, hi, hke, rfl, ((hk3.trans hk4).mono fun _ _ h => h.elim).trans hk6, ho5, hm4.erase (put_same (blk_lt hb5)) hr6 hk6⟩⟩
  · refine W_yes (by simp [wcell_of hbox]) ?_
    simp
    exact .inr ⟨hr, h0, .inr ⟨hno, rfl, hk3.trans hk4⟩⟩
end Go.Proofs.YtmfgdbapankamaaGreat
