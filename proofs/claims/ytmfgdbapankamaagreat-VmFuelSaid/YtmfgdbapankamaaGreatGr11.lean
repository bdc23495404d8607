/- Layer 9, part G: room, flags. -/
import Derived.Test.YtmfgdbapankamaaGreatGr10
import Derived.Maps.AppendAt
import Derived.Deep.OwnRows
import Derived.Laws.IdiomCopy
import Derived.Test.YtmfgdbapankamaaGreatGr4
import Derived.Test.YtmfgdbapankamaaGreatRows
set_option linter.unusedSimpArgs false
set_option linter.unusedVariables false
set_option maxRecDepth 8000
namespace Go.Proofs.YtmfgdbapankamaaGreat
open Go.Eng
theorem apart_erase {l : List BEnt} (h : l.Pairwise apart) (k : Nat) : (l.eraseIdx k).Pairwise apart := h.sublist (List.eraseIdx_sublist _ _)
theorem MapAt.erase {w w' : World} {b k : Nat} {M : BMap} {L' : Value} (h : MapAt w b M) (hb : w'.heap[b]? = some (.cells { M with L := L' }.cells 78 (0, 0))) (hr : RowAt w' L' (M.l.eraseIdx k))
    (hk : Kept (fun j => j = b ∨ M.L.ownBlock = some j) w w') : MapAt w' b { M with L := L', l := M.l.eraseIdx k } := by
  refine ⟨hb, hr, ?_, apart_erase h.apart k, ?_, h.clock⟩
  · intro e he
    have he' : e ∈ M.l := List.mem_of_mem_eraseIdx he
    have hE := h.ents e he'
    obtain ⟨c1, hc1, hcell1⟩ := hE.cell
    obtain ⟨cs1, hval1, _⟩ := hE.val
    have hrow : ∀ {j : Nat} {c : Array Value} {T : TypeId} {f : Nat × Nat}, w.heap[j]? = some (.cells c T f) → T ≠ 79 → M.L.ownBlock ≠ some j := by
      intro j c T f hj hT ho
      rcases h.row with ⟨hL, _⟩ | ⟨g, cap, cur, hL, hg, _⟩
      · rw [hL] at ho; simp [Value.ownBlock] at ho
      · rw [hL] at ho
        simp [Value.ownBlock] at ho
        subst ho
        exact heap_ne hj hg hT rfl
    refine hE.keep hk ?_ ?_ ?_
    · rintro (e1 | e1)
      · exact heap_ne hE.ent h.blk (by decide) e1
      · exact hrow hE.ent (by decide) e1
    · rintro (e1 | e1)
      · exact heap_ne hcell1 h.blk (by decide) e1
      · exact hrow hcell1 (by decide) e1
    · rintro (e1 | e1)
      · exact heap_ne hval1 h.blk (by decide) e1
      · exact hrow hval1 (by decide) e1
  · have h1 := h.small
    have h2 : (M.l.eraseIdx k).length ≤ M.l.length := List.length_eraseIdx_le _ _
    exact Nat.le_trans h2 h1
theorem store_L {w : World} {b : Nat} {M : BMap} {L' : Value} (hb : w.heap[b]? = some (.cells M.cells 78 (0, 0))) (h1 : L'.oneCell' = true) (hc : L'.cells = #[L']) :
    stv w 1 (.pointer (some ⟨b, 4, none⟩)) L' = some (put w b (.cells { M with L := L' }.cells 78 (0, 0))) := by
  rw [stv_of (n := 1) (v := L') hb (by rw [hc]; rfl) (by simp [BMap.cells]) (.inl (by simp)) (by rw [hc]; simp [h1]), hc]
  rfl
theorem RowAt.cellsL {w : World} {L : Value} {l : List BEnt} (h : RowAt w L l) : L.cells = #[L] := by
  rcases h with ⟨rfl, rfl⟩ | ⟨g, cap, cur, rfl, _⟩ <;> rfl
def RoomIs (w w' : World) (b : Nat) (M : BMap) (v : Value) : Prop :=
  ((M.l.length : Int) < M.cap ∧ v = .int .i64 0 ∧ Kept none' w w') ∨ (¬ (M.l.length : Int) < M.cap ∧ M.ty ≠ 2 ∧ v = .int .i64 7 ∧ Kept none' w w') ∨
  (¬ (M.l.length : Int) < M.cap ∧ M.ty = 2 ∧ v = .int .i64 0 ∧ Kept (fun j => j = b ∨ M.L.ownBlock = some j) w w' ∧ ∃ (i : Nat) (e : BEnt) (L' : Value), M.l[i]? = some e ∧ (∀ a ∈ M.l, e.used ≤ a.used) ∧ L'.ownBlock = M.L.ownBlock ∧
    MapAt w' b { M with L := L', l := M.l.eraseIdx i })
theorem room_ret (b : Nat) (M : BMap) (w : World) (h : MapAt w b M) (hcap : 0 < M.cap) : Ret Tryz.prog 24 [.pointer (some ⟨b, 0, none⟩)] w fun v w' => RoomIs w w' b M v := by
  refine ret_of_W Tryz.func24 rfl ok_bmap_Map_room ?_
  have hm1 := h.calm (Kept.refl none' w).drew
  have hk1 : Kept none' w w.drew := (Kept.refl _ _).drew
  simp [c_bmap_Map_room]
  generalize w.drew = w1 at hm1 hk1 ⊢
  have hb := hm1.blk
  have hlen := hm1.row.len
  have hvar := hm1.row.var
  refine W_cond (t := decide ((M.l.length : Int) < M.cap)) (by simp [wcell_of hb, BMap.cells, hlen, hvar]) ?_ ?_
  · intro hlt
    have hlt' : (M.l.length : Int) < M.cap := by simpa using hlt
    simp
    exact .inl ⟨hlt', rfl, hk1⟩
  · intro hlt
    have hlt' : ¬ (M.l.length : Int) < M.cap := by simpa using hlt
    simp
    by_cases hty : M.ty = 2
    · refine W_no (by simp [wcell_of hb, BMap.cells, hty]) ?_
      have h0 : 0 < M.l.length := by omega
      simp
      refine W_call0 (by simp [wcell_of hb, BMap.cells, hvar]) (min_ret b M w1 hm1 h0) ?_
      rintro v w2 ⟨hk2, i, e, hi, hmin, rfl⟩
      have hm2 := hm1.calm hk2
      simp
      refine W_store (by simp) (by simp) (store_box (.pointer none) (.pointer (some ⟨e.eb, 0, none⟩)) rfl rfl) (stab_nil _ _ _) ?_
      obtain ⟨hbox, hk3, hs3⟩ := box_any w2 #[.pointer none] #[.pointer (some ⟨e.eb, 0, none⟩)] 79
      have hbx : ∀ j, M.own b j → j ≠ w2.heap.size := fun j hj => by have := own_lt hm2 hj; omega
      generalize put (w2.alloc (.cells #[.pointer none] 79)) w2.heap.size (.cells #[.pointer (some ⟨e.eb, 0, none⟩)] 79 (0, 0)) = w3 at hbox hk3 hs3 ⊢
      generalize w2.heap.size = p at *
      have hm3 := hm2.calm hk3
      have hb3 := hm3.blk
      have hvar3 := hm3.row.var
      simp
      have hdel := delete_ret (f := 51) (cp := #[.pointer (some ⟨p, 0, none⟩)]) b M i e w3 hm3 hi (by kernel_rfl) (by
        intro w' hk' a ha
        have hbox' := hk'.has hbox (fun ho => hbx p (.inr (.inl ho)) rfl)
        have pl : ∀ c, c ∈ M.l → plainB w' c.eb = true := by
          intro c hc
          refine plainB_of (hk'.has (hm3.ents c hc).ent ?_)
          intro ho
          rcases hm3.row with ⟨hL, _⟩ | ⟨g, cap, cur, hL, hg, _⟩
          · rw [hL] at ho; simp [Value.ownBlock] at ho
          · rw [hL] at ho
            simp [Value.ownBlock] at ho
            subst ho
            exact heap_ne (hm3.ents c hc).ent hg (by decide) rfl
        have hr := same_room_ret w' a.eb p e.eb (by rw [wcell_of hbox']; rfl) (pl a ha) (pl e (List.mem_of_getElem? hi))
        exact hr.mono fun v w'' hv => ⟨hv.1, by rw [hv.2]; exact Kept.refl _ _⟩)
      refine W_call0 (by simp [wcell_of hb3, BMap.cells, hvar3]) hdel ?_
      rintro v w4 ⟨hk4, hr4, ho4⟩
      have hb4 := hk4.has hb3 (by
        intro ho
        rcases hm3.row with ⟨hL, _⟩ | ⟨g, cap, cur, hL, hg, _⟩
        · rw [hL] at ho; simp [Value.ownBlock] at ho
        · rw [hL] at ho
          simp [Value.ownBlock] at ho
          subst ho
          exact heap_ne hg hb3 (by decide) rfl)
      have hvv := hr4.var
      simp
      refine W_store (by simp) (by simp [hvv]) (store_L hb4 hr4.one hr4.cellsL) (stab_nil _ _ _) ?_
      simp
      have hk5 : Kept (fun j => j = b ∨ M.L.ownBlock = some j) w3 (put w4 b (.cells { M with L := v }.cells 78 (0, 0))) := (hk4.mono fun _ _ h => .inr h).put (fun _ => .inl rfl) _
      have hr5 : RowAt (put w4 b (.cells { M with L := v }.cells 78 (0, 0))) v (M.l.eraseIdx i) := by
        refine hr4.keep (S := fun j => j = b) ((Kept.refl (fun j => j = b) _).put (b := b) (fun _ => rfl) _) ?_
        rintro j hj rfl
        rcases hr4 with ⟨hL, _⟩ | ⟨g, cap, cur, hL, hg, _⟩
        · rw [hL] at hj; simp [Value.ownBlock] at hj
        · rw [hL] at hj
          simp [Value.ownBlock] at hj
          subst hj
          exact heap_ne hg hb4 (by decide) rfl
      refine .inr (.inr ⟨hlt', hty, rfl, ?_, i, e, v, hi, hmin, ho4, hm3.erase (put_same (blk_lt hb4)) hr5 hk5⟩)
      exact (((hk1.trans hk2).trans hk3).mono fun _ _ h => h.elim).trans hk5
    · refine W_yes (by simp [wcell_of hb, BMap.cells, hty]) ?_
      simp
      exact .inr (.inl ⟨hlt', hty, rfl, hk1⟩)
theorem flagged_ret (b : Nat) (M : BMap) (a : Option Addr) (fl : Int) (w : World) (h : MapAt w b M) : Ret Tryz.prog 23 [.pointer (some ⟨b, 0, none⟩), .pointer a, .int .u64 fl] w
    fun v w' => w' = w ∧ v = .int .i64 (if a.isSome ∧ fl = 1 then 17 else if a = none ∧ M.ty = 0 then 7 else if a = none ∧ fl = 2 then 2 else 0) := by
  refine ret_of_W Tryz.func23 rfl ok_bmap_Map_flagged ?_
  have hb := h.blk
  cases a with
  | none =>
    simp [c_bmap_Map_flagged, wcell_of hb, BMap.cells]
    refine W_no (by simp) ?_
    simp [wcell_of hb, BMap.cells]
    refine W_cond (t := decide (M.ty = 0)) (by simp) ?_ ?_
    · intro h0
      have h0' : M.ty = 0 := by simpa using h0
      simp [h0']
    · intro h0
      have h0' : ¬ M.ty = 0 := by simpa using h0
      simp
      refine W_cond (t := decide (fl = 2)) (by simp) ?_ ?_
      · intro h2
        have h2' : fl = 2 := by simpa using h2
        simp [h0', h2']
      · intro h2
        have h2' : ¬ fl = 2 := by simpa using h2
        simp [h0', h2']
  | some a =>
    simp [c_bmap_Map_flagged]
    refine W_cond (t := decide (fl = 1)) (by simp) ?_ ?_
    · intro h1
      have h1' : fl = 1 := by simpa using h1
      simp [h1']
    · intro h1
      have h1' : ¬ fl = 1 := by simpa using h1
      simp
      refine W_no (by simp) ?_
      simp
      refine W_no (by simp) ?_
      simp [h1']
end Go.Proofs.YtmfgdbapankamaaGreat
namespace Go.Proofs.YtmfgdbapankamaaGreat
open Go.Eng
theorem row_append {w : World} {p : Nat} {L : Value} {l : List BEnt} {a : BEnt} (h : RowAt w L l) (hs : l.length ≤ 1000) (hp : w.heap[p]? = some (.cells #[.pointer (some ⟨a.eb, 0, none⟩)] 79 (0, 0))) :
    ∃ L' w', (builtin .append #[76, 76] 76 #[] #[L, .slice (some ⟨p, 0, none⟩) 1 1]).run Tryz.prog w = .ok (.value L') w' ∧ RowAt w' L' (l ++ [a]) ∧ Kept (fun j => L.ownBlock = some j) w w' ∧
      (L'.ownBlock = L.ownBlock ∨ L'.ownBlock = some w.heap.size) := by
  obtain ⟨xs, hown, hxs⟩ : ∃ xs : List Value, w.ownsRow 0 79 1 L l.length xs ∧ ∀ (i : Nat) (e : BEnt), l[i]? = some e → xs[i]? = some (Value.pointer (some ⟨e.eb, 0, none⟩)) := by
    rcases h with ⟨rfl, rfl⟩ | ⟨g, cap, cur, rfl, h2, h3, h4, h5, h6⟩
    · exact ⟨[], World.ownsRow_nil _ _ _ _, fun i e hi => by simp at hi⟩
    · refine ⟨cur.toList.take (l.length * 1), ⟨?_, .inr ⟨g, cap, cur, rfl, by omega, h2, h3, h4, by omega, rfl⟩⟩, ?_⟩
      · simp; omega
      · intro i e hi
        have hil : i < l.length := (List.getElem?_eq_some_iff.1 hi).1
        rw [List.getElem?_take, if_pos (by omega)]
        simpa using h6 i e hi
  have hi0 : (Tryz.prog.info? 79).any (fun i => i.size == 1 && decide (i.bytes ≤ 64) && i.zero.any (fun z => z.cells.size == 1)) = true := by kernel_rfl
  obtain ⟨i, hi, hi1⟩ : ∃ i, Tryz.prog.info? 79 = some i ∧ (i.size == 1 && decide (i.bytes ≤ 64) && i.zero.any (fun z => z.cells.size == 1)) = true := by
    cases h : Tryz.prog.info? 79 with
    | none => rw [h] at hi0; cases hi0
    | some i => rw [h] at hi0; exact ⟨i, rfl, hi0⟩
  simp only [Bool.and_eq_true, beq_iff_eq, decide_eq_true_eq] at hi1
  obtain ⟨⟨hsz, hy⟩, hz0⟩ := hi1
  obtain ⟨z, hz, hz4⟩ : ∃ z, i.zero = some z ∧ z.cells.size = 1 := by
    cases h : i.zero with
    | none => rw [h] at hz0; cases hz0
    | some z => rw [h] at hz0; exact ⟨z, rfl, by simpa using hz0⟩
  have hbytes : (l.length + 1) * i.bytes ≤ 1001 * 64 := Nat.mul_le_mul (by omega) hy
  have hnews : ∀ (j : Nat) (u : Value), [Value.pointer (some ⟨a.eb, 0, none⟩)][j]? = some u → w.cell? ((⟨p, 0, none⟩ : Addr).add j) = some u := by
    intro j u hu
    rw [Addr.add_lit, Nat.zero_add]
    refine wcell_cell ?_
    rw [wcell_of hp]
    simpa using hu
  obtain ⟨v', w', hr, hown', hgr, _, hat⟩ := run_append_own_at (P := Tryz.prog) w 0 76 76 79 i z 1 i.bytes Tryz.underlying76 hi hz hsz rfl hz4 (by omega)
    L l.length xs hown ⟨p, 0, none⟩ 1 1 [.pointer (some ⟨a.eb, 0, none⟩)] rfl hnews (by simp [Value.oneCell']) (by unfold maxLen; omega) (by omega) (by omega)
  refine ⟨v', w', ?_, ?_, ⟨hgr.os, hgr.tape, hgr.output, hgr.size, fun i hi hS => hgr.block i hi (fun e => hS e.symm)⟩, hat⟩
  · simp only [builtin, map_eq_pure_bind, Sem.run_bind, hr]
    rfl
  · rcases hown'.2 with ⟨_, h0⟩ | ⟨g, cap, cur, rfl, h1, h2, h3, h4, h5, h6⟩
    · omega
    · refine .inr ⟨g, cap, cur, by simp, h2, by simpa using h3, h4, by omega, ?_⟩
      intro i e hie
      have hl : xs.length = l.length := by have := hown.1; omega
      have hil : i < l.length + 1 := by have := (List.getElem?_eq_some_iff.1 hie).1; simpa using this
      have e1 : cur[i]? = (cur.toList.take ((l.length + 1) * 1))[i]? := by
        rw [List.getElem?_take, if_pos (by omega)]; simp
      rw [e1, h6]
      by_cases hin : i < l.length
      · rw [List.getElem?_append_left hin] at hie
        rw [List.getElem?_append_left (by omega)]
        exact hxs i e hie
      · have : i = l.length := by omega
        subst this
        simp at hie
        subst hie
        rw [List.getElem?_append_right (by omega), hl]
        simp
theorem run_mkb (n : Nat) (hn : n ≤ 1000000) (w : World) : ((Tag.mk 51).sem [.int .i64 n, .int .i64 n]).run Tryz.prog w = .ok (.slice (some ⟨w.heap.size, 0, none⟩) n n) (w.alloc (.cells (madeCells #[.int .u8 0] n) 5)) :=
  run_make_row' (P := Tryz.prog) 51 5 (.int .u8 0) 1 Tryz.underlying51 (by kernel_rfl) rfl .i64 .i64 n (by omega) (by omega) w
theorem made_get (n j : Nat) (h : j < n) : (madeCells #[Value.int .u8 0] n)[j]? = some (.int .u8 0) := by
  have := toList_madeCells_one (.int .u8 0) n
  rw [← Array.getElem?_toList, this]
  simp [h]
end Go.Proofs.YtmfgdbapankamaaGreat
namespace Go.Proofs.YtmfgdbapankamaaGreat
open Go.Eng
theorem run_copyB {w : World} {b o n dCap sb so sCap : Nat} {c : Array Value} {T : TypeId} {x : Nat → Value}
    (hb : w.heap[b]? = some (.cells c T (0, 0))) (ho : o + n ≤ c.size) (hx : ∀ j, j < n → wcell w sb (so + j) = some (x j)) (h1 : ∀ j, j < n → (x j).oneCell' = true) :
    (builtin .copy #[51, 51] 3 #[] #[.slice (some ⟨b, o, none⟩) n dCap, .slice (some ⟨sb, so, none⟩) n sCap]).run Tryz.prog w =
      .ok (.value (.int .i64 n)) (put w b (.cells (setRow c o (List.ofFn (n := n) fun j => x j.val)) T (0, 0))) := by
  have hs : (Tryz.prog.info? 5).map (·.size) = some 1 := by kernel_rfl
  have hl := run_loadCells_list (P := Tryz.prog) w ⟨sb, so, none⟩ (List.ofFn (n := n) fun j => x j.val) (by
    intro j v hv
    have hj : j < n := by have := (List.getElem?_eq_some_iff.1 hv).1; simpa using this
    rw [List.getElem?_ofFn] at hv
    simp [hj] at hv
    subst hv
    rw [Addr.add_lit]
    exact wcell_cell (hx j hj))
  have hst := run_storeCells (P := Tryz.prog) (T := T) (fz := (0, 0)) (b := b) o (List.ofFn (n := n) fun j => x j.val) 0 c w hb (by simp; omega) (.inl (by simp)) (by
    intro v hv
    obtain ⟨j, rfl⟩ := List.mem_ofFn.1 hv
    exact h1 j j.2)
  cases hq : Tryz.prog.info? 5 with
  | none => simp [hq] at hs
  | some i =>
    have hi : i.size = 1 := by simpa [hq] using hs
    simp at hl hst
    simp [builtin, Builtin.copy_, run_underlying Tryz.underlying51, Builtin.lenOf, Builtin.firstCells, sizeOf, typeInfo, hq, hi, hl, hst]
    exact ⟨rfl, rfl⟩
def writtenM (M : BMap) (i : Nat) (e : BEnt) (x : Nat → Int) : BMap := { M with clock := M.clock + 1, l := M.l.set i { e with used := M.clock + 1, val := x } }
def upd_tail : List It := [.c (.seq
  (.bi none .copy [51, 51] 3 [(.ld none (.offp 0 (.nn (.ld none (.offp 1 (.nn (.var 9))))))), (.var 2)] [])
  (.seq
   (.call none 26 [(.var 0), (.var 9)] [])
  (.seq
   (.set 4 (.const (.int .i64 0)))
  .ret)))]
set_option maxHeartbeats 1000000 in
theorem upd_end {R : Eng.Env → World → Prop} (b : Nat) (M : BMap) (i : Nat) (e : BEnt) (xb xo xc : Nat) (x : Nat → Int) (w : World) (h : MapAt w b M) (hi : M.l[i]? = some e) (hc : M.clock + 1 ≤ 1000000)
    (hx : ∀ j, j < M.vs → wcell w xb (xo + j) = some (.int .u8 (x j))) (hxb : ∀ j, 0 ≤ x j ∧ x j ≤ 255) {v1 v3 v4 v5 v6 v7 v8 v10 v11 v12 v13 v14 v15 v16 v17 v18 v19 v20 v21 : Value}
    (hR : ∀ w' env, env[4]? = some (.int .i64 0) → Kept (fun j => j = b ∨ j = e.eb ∨ j = e.vb) w w' → MapAt w' b (writtenM M i e x) → R env w') :
    W Tryz.prog R upd_tail [.pointer (some ⟨b, 0, none⟩), v1, .slice (some ⟨xb, xo, none⟩) M.vs xc, v3, v4, v5, v6, v7, v8, .pointer (some ⟨e.eb, 0, none⟩), v10, v11, v12, v13, v14, v15, v16, v17, v18, v19, v20, v21] w := by
  have hE := h.mem hi
  have hent := hE.ent
  obtain ⟨c0, hc0, hcell⟩ := hE.cell
  obtain ⟨cs, hval, hv1, hv2⟩ := hE.val
  unfold upd_tail
  simp
  refine W_bi (by simp [wcell_of hent, wcell_of hcell, BEnt.cells]) (run_copyB (o := 0) (dCap := c0) (sCap := xc) (x := fun j => .int .u8 (x j)) hval (by omega) hx (fun _ _ => rfl)) (stab_nil _ _ _) ?_
  have hk1 : Kept (fun j => j = e.vb) w (put w e.vb (.cells (setRow cs 0 (List.ofFn (n := M.vs) fun j => Value.int .u8 (x j.val))) 5 (0, 0))) := (Kept.refl (fun j => j = e.vb) w).put (b := e.vb) (fun _ => rfl) _
  have hvn : (put w e.vb (.cells (setRow cs 0 (List.ofFn (n := M.vs) fun j => Value.int .u8 (x j.val))) 5 (0, 0))).heap[e.vb]? = some (.cells (setRow cs 0 (List.ofFn (n := M.vs) fun j => Value.int .u8 (x j.val))) 5 (0, 0)) := put_same (blk_lt hval)
  generalize put w e.vb (.cells (setRow cs 0 (List.ofFn (n := M.vs) fun j => Value.int .u8 (x j.val))) 5 (0, 0)) = w1 at hk1 hvn ⊢
  have hE1 : EntAt w1 M.vs { e with val := x } := by
    refine ⟨hk1.has hent (fun q => heap_ne hent hval (by decide) q), ⟨c0, hc0, hk1.has hcell (fun q => heap_ne hcell hval (by decide) q)⟩, ⟨_, hvn, by rw [Go.Eng.setRow_size]; exact hv1, ?_⟩, hxb⟩
    intro j hj
    rw [setRow_get _ _ _ _ (by simp; omega)]
    rw [if_pos (by simp; omega)]
    simp [hj]
  have hm1 : MapAt w1 b { M with clock := M.clock, l := M.l.set i { e with val := x } } :=
    h.set hi hE1 rfl rfl rfl (hk1.has h.blk (fun q => heap_ne h.blk hval (by decide) q)) h.clock (hk1.mono fun j _ hj => .inr (.inr (.inr hj)))
  have hil : i < M.l.length := (List.getElem?_eq_some_iff.1 hi).1
  simp
  refine W_call0 (by simp) (use_ret b _ i { e with val := x } w1 hm1 (by simp [hil]) hc) ?_
  rintro r w2 ⟨rfl, hk2, hm2⟩
  simp
  refine hR _ _ rfl ((hk1.mono fun j _ hj => .inr (.inr hj)).trans (hk2.mono fun j _ hj => ?_)) ?_
  · rcases hj with hj | hj
    · exact .inl hj
    · exact .inr (.inl hj)
  · have : usedM { M with clock := M.clock, l := M.l.set i { e with val := x } } i { e with val := x } = writtenM M i e x := by
      simp [usedM, writtenM, List.set_set]
    rw [this] at hm2
    exact hm2
theorem KeyAt.same {w w' : World} {k : ByteArray} {v : Value} (h : KeyAt w v k) (kb ko kc : Nat) (hv : v = .slice (some ⟨kb, ko, none⟩) k.size kc) (e : w'.heap[kb]? = w.heap[kb]?) : KeyAt w' v k := by
  subst hv
  obtain ⟨b', o', c', e1, e2, e3⟩ := h
  simp only [Value.slice.injEq, Option.some.injEq, Addr.mk.injEq] at e1
  obtain ⟨⟨rfl, rfl, _⟩, _, rfl⟩ := e1
  have ew : wrow w' kb ko k.size = wrow w kb ko k.size := by unfold wrow; rw [e]
  refine ⟨kb, ko, kc, rfl, ?_, ?_⟩
  · rw [← e2]; simp only [bstrv, ew]
  · intro j hj
    obtain ⟨y, h1, h2, h3⟩ := e3 j hj
    refine ⟨y, h1, h2, ?_⟩
    rw [← h3]; unfold wcell; rw [e]
theorem MapAt.entKeep {w w' : World} {b : Nat} {M : BMap} (h : MapAt w b M) (hk : Kept (fun j => j = b ∨ M.L.ownBlock = some j) w w') {e : BEnt} (he : e ∈ M.l) : EntAt w' M.vs e := by
  have hE := h.ents e he
  obtain ⟨c1, hc1, hcell1⟩ := hE.cell
  obtain ⟨cs1, hval1, _⟩ := hE.val
  have hrow : ∀ {j : Nat} {c : Array Value} {T : TypeId} {f : Nat × Nat}, w.heap[j]? = some (.cells c T f) → T ≠ 79 → M.L.ownBlock ≠ some j := by
    intro j c T f hj hT ho
    rcases h.row with ⟨hL, _⟩ | ⟨g, cap, cur, hL, hg, _⟩
    · rw [hL] at ho; simp [Value.ownBlock] at ho
    · rw [hL] at ho
      simp [Value.ownBlock] at ho
      subst ho
      exact heap_ne hj hg hT rfl
  refine hE.keep hk ?_ ?_ ?_
  · rintro (e1 | e1)
    · exact heap_ne hE.ent h.blk (by decide) e1
    · exact hrow hE.ent (by decide) e1
  · rintro (e1 | e1)
    · exact heap_ne hcell1 h.blk (by decide) e1
    · exact hrow hcell1 (by decide) e1
  · rintro (e1 | e1)
    · exact heap_ne hval1 h.blk (by decide) e1
    · exact hrow hval1 (by decide) e1
theorem MapAt.push {w w' : World} {b : Nat} {M : BMap} {L' : Value} {a : BEnt} (h : MapAt w b M) (ha : EntAt w M.vs a) (hf : ∀ i, M.own b i → i ≠ a.eb ∧ i ≠ a.cb ∧ i ≠ a.vb)
    (hb : w'.heap[b]? = some (.cells { M with L := L' }.cells 78 (0, 0))) (hr : RowAt w' L' (M.l ++ [a])) (hk : Kept (fun j => j = b ∨ M.L.ownBlock = some j) w w') (hs : M.l.length < 1000) :
    MapAt w' b { M with L := L', l := M.l ++ [a] } := by
  refine ⟨hb, hr, ?_, ?_, by simp; omega, h.clock⟩
  · intro e he
    rcases List.mem_append.1 he with he | he
    · exact h.entKeep hk he
    · simp at he
      subst he
      have hin : ∀ j, (j = b ∨ M.L.ownBlock = some j) → M.own b j := fun j hj => by
        rcases hj with hj | hj
        · exact .inl hj
        · exact .inr (.inl hj)
      exact ha.keep hk (fun q => (hf _ (hin _ q)).1 rfl) (fun q => (hf _ (hin _ q)).2.1 rfl) (fun q => (hf _ (hin _ q)).2.2 rfl)
  · rw [List.pairwise_append]
    refine ⟨h.apart, by simp, ?_⟩
    intro c hc d hd
    simp at hd
    subst hd
    exact ⟨(hf c.eb (.inr (.inr ⟨c, hc, .inl rfl⟩))).1, (hf c.cb (.inr (.inr ⟨c, hc, .inr (.inl rfl)⟩))).2.1, (hf c.vb (.inr (.inr ⟨c, hc, .inr (.inr rfl)⟩))).2.2⟩
end Go.Proofs.YtmfgdbapankamaaGreat
namespace Go.Proofs.YtmfgdbapankamaaGreat
open Go.Eng
def specOk (ty ks vs n : Int) : Prop := 1 ≤ vs ∧ vs ≤ 64 ∧ 1 ≤ n ∧ n ≤ 64 ∧ (ty = 0 ∧ ks = 4 ∨ (ty = 1 ∨ ty = 2) ∧ 1 ≤ ks ∧ ks ≤ 16 ∨ (ty = 3 ∨ ty = 4) ∧ ks = 0 ∨ ty = 5 ∧ 5 ≤ ks ∧ ks ≤ 16)
set_option maxHeartbeats 1000000 in
theorem check_ret (ty ks vs n : Int) (w : World) (h : specOk ty ks vs n) : Ret Tryz.prog 18 [.agg #[.int .i64 ty, .int .i64 ks, .int .i64 vs, .int .i64 n]] w fun v w' => v = .int .i64 0 ∧ Kept none' w w' := by
  refine ret_of_W Tryz.func18 rfl ok_bmap_Check ?_
  obtain ⟨h1, h2, h3, h4, h5⟩ := h
  simp [c_bmap_Check]
  have hb := hp_new w (.cells #[.int .i64 ty, .int .i64 ks, .int .i64 vs, .int .i64 n] 48)
  have hk : Kept none' w (w.alloc (.cells #[.int .i64 ty, .int .i64 ks, .int .i64 vs, .int .i64 n] 48)) := (Kept.refl _ _).alloc _
  generalize w.alloc (.cells #[.int .i64 ty, .int .i64 ks, .int .i64 vs, .int .i64 n] 48) = w1 at hb hk ⊢
  refine W_call0 (by simp [wcell_of hb]) (within_ret vs 1 64 w1) ?_
  rintro v w2 ⟨rfl, rfl⟩
  have e1 : (decide (1 ≤ vs) && decide (vs ≤ 64)) = true := by simp; omega
  have e2 : (decide (1 ≤ n) && decide (n ≤ 64)) = true := by simp; omega
  rw [e1]
  simp [wcell_of hb]
  refine W_yes (by simp) ?_
  refine W_call0 (by simp [wcell_of hb]) (within_ret n 1 64 w2) ?_
  rintro v w3 ⟨rfl, rfl⟩
  rw [e2]
  simp [wcell_of hb]
  rcases h5 with ⟨rfl, rfl⟩ | ⟨hty, g1, g2⟩ | ⟨hty, rfl⟩ | ⟨rfl, g1, g2⟩
  · refine W_yes (by simp) ?_
    simp [wcell_of hb]
    refine W_no (by simp) ?_
    simp
    exact hk
  · have e3 : (decide (1 ≤ ks) && decide (ks ≤ 16)) = true := by simp; omega
    have t0 : ¬ ty = 0 := by omega
    refine W_no (by simp [t0]) ?_
    simp
    refine W_cut (fun env w' => w' = w3 ∧ env = [.agg #[.int .i64 ty, .int .i64 ks, .int .i64 vs, .int .i64 n], .int .i64 0, .pointer (some ⟨w.heap.size, 0, none⟩), .bool true, .bool true, .bool true, .int .i64 ty, .bool false, .bool true, undef, undef, undef, undef]) ?_ ?_
    · refine W_cond (t := decide (ty = 1)) (by simp) ?_ ?_
      · intro q
        have q' : ty = 1 := by simpa using q
        simp [q', t0]
      · intro q
        have q' : ty = 2 := by
          have : ¬ ty = 1 := by simpa using q
          omega
        simp [q', t0]
    rintro env w4 ⟨rfl, rfl⟩
    refine W_yes (by simp) ?_
    simp [wcell_of hb]
    refine W_yes (by simp) ?_
    refine W_call0 (by simp [wcell_of hb]) (within_ret ks 1 16 w4) ?_
    rintro v w5 ⟨rfl, rfl⟩
    rw [e3]
    simp
    refine W_no (by simp) ?_
    simp
    exact hk
  · have t0 : ¬ ty = 0 := by omega
    have t1 : ¬ ty = 1 := by omega
    have t2 : ¬ ty = 2 := by omega
    refine W_no (by simp [t0]) ?_
    simp
    refine W_no (by simp [t1]) ?_
    simp
    refine W_no (by simp [t2]) ?_
    simp
    refine W_cut (fun env w' => w' = w3 ∧ env = [.agg #[.int .i64 ty, .int .i64 0, .int .i64 vs, .int .i64 n], .int .i64 0, .pointer (some ⟨w.heap.size, 0, none⟩), .bool true, .bool true, .bool true, .int .i64 ty, .bool false, .bool false, undef, .bool true, undef, undef]) ?_ ?_
    · refine W_cond (t := decide (ty = 3)) (by simp) ?_ ?_
      · intro q
        have q' : ty = 3 := by simpa using q
        simp [q']
      · intro q
        have q' : ty = 4 := by
          have : ¬ ty = 3 := by simpa using q
          omega
        simp [q']
    rintro env w4 ⟨rfl, rfl⟩
    refine W_yes (by simp) ?_
    simp [wcell_of hb]
    refine W_no (by simp) ?_
    simp
    exact hk
  · have e3 : (decide (5 ≤ ks) && decide (ks ≤ 16)) = true := by simp; omega
    refine W_no (by simp) ?_
    simp
    refine W_no (by simp) ?_
    simp
    refine W_no (by simp) ?_
    simp
    refine W_no (by simp) ?_
    simp
    refine W_no (by simp) ?_
    simp
    refine W_yes (by simp) ?_
    simp [wcell_of hb]
    refine W_yes (by simp) ?_
    refine W_call0 (by simp [wcell_of hb]) (within_ret ks 5 16 w3) ?_
    rintro v w5 ⟨rfl, rfl⟩
    rw [e3]
    simp
    refine W_no (by simp) ?_
    simp
    exact hk
def newM (ty ks : Int) (vs : Nat) (n : Int) : BMap := ⟨ty, ks, vs, n, .slice none 0 0, [], false, 0⟩
theorem newmap_ret (ty ks : Int) (vs : Nat) (n : Int) (w : World) (h : specOk ty ks vs n) (h0 : ty ≠ 0) : Ret Tryz.prog 8 [.agg #[.int .i64 ty, .int .i64 ks, .int .i64 vs, .int .i64 n]] w
    fun v w' => ∃ b, v = .tuple #[.pointer (some ⟨b, 0, none⟩), .int .i64 0] ∧ w.heap.size ≤ b ∧ Kept none' w w' ∧ MapAt w' b (newM ty ks vs n) := by
  refine ret_of_W Tryz.func8 rfl ok_bmap_New ?_
  simp [c_bmap_New]
  have hb := hp_new w (.cells #[.int .i64 ty, .int .i64 ks, .int .i64 vs, .int .i64 n] 48)
  have hk : Kept none' w (w.alloc (.cells #[.int .i64 ty, .int .i64 ks, .int .i64 vs, .int .i64 n] 48)) := (Kept.refl _ _).alloc _
  generalize w.alloc (.cells #[.int .i64 ty, .int .i64 ks, .int .i64 vs, .int .i64 n] 48) = w1 at hb hk ⊢
  have hrow : ∀ w', w'.heap[w.heap.size]? = some (.cells #[.int .i64 ty, .int .i64 ks, .int .i64 vs, .int .i64 n] 48 (0, 0)) → wrow w' w.heap.size 0 4 = some #[.int .i64 ty, .int .i64 ks, .int .i64 vs, .int .i64 n] := by
    intro w' h'
    rw [wrow_of h' (by simp)]
    simp
  refine W_call0 (by simp [hrow _ hb]) (check_ret ty ks vs n w1 h) ?_
  rintro v w2 ⟨rfl, hk2⟩
  have hb2 := hk2.has hb (fun h => h)
  simp
  refine W_no (by simp) ?_
  simp [hrow _ hb2]
  have hbm := hp_new w2 (.cells (newM ty ks vs n).cells 78)
  have hb3 := hp_old hb2 (.cells (newM ty ks vs n).cells 78)
  have hk3 := (hk.trans hk2).alloc (.cells (newM ty ks vs n).cells 78)
  have hs := (hk.trans hk2).size
  have hcells : (newM ty ks vs n).cells = #[.int .i64 ty, .int .i64 ks, .int .i64 vs, .int .i64 n, .slice none 0 0, .bool false, .int .i64 0] := rfl
  rw [hcells] at hbm hb3 hk3
  generalize w2.alloc (.cells #[.int .i64 ty, .int .i64 ks, .int .i64 vs, .int .i64 n, .slice none 0 0, .bool false, .int .i64 0] 78) = w3 at hbm hb3 hk3 ⊢
  refine W_no (by simp [wcell_of hb3, h0]) ?_
  simp
  refine ⟨hs, hk3, ⟨hbm, .inl ⟨rfl, rfl⟩, fun e he => by simp [newM] at he, by simp [newM], by simp [newM], by simp [newM]⟩⟩
end Go.Proofs.YtmfgdbapankamaaGreat
namespace Go.Proofs.YtmfgdbapankamaaGreat
open Go.Eng
theorem freeze_ret (b : Nat) (M : BMap) (w : World) (h : MapAt w b M) (hf : M.frozen = false) : Ret Tryz.prog 15 [.pointer (some ⟨b, 0, none⟩)] w
    fun v w' => v = .int .i64 0 ∧ Kept (fun j => j = b) w w' ∧ MapAt w' b { M with frozen := true } := by
  refine ret_of_W Tryz.func15 rfl ok_bmap_Map_Freeze ?_
  have hb := h.blk
  simp [c_bmap_Map_Freeze]
  refine W_no (by simp) ?_
  simp [wcell_of hb, BMap.cells, hf]
  refine W_no (by simp) ?_
  simp
  have hst : stv w 1 (.pointer (some ⟨b, 5, none⟩)) (.bool true) = some (put w b (.cells { M with frozen := true }.cells 78 (0, 0))) := by
    rw [stv_of (n := 1) (v := .bool true) hb rfl (by simp [BMap.cells]) (.inl (by simp)) (by simp [Value.oneCell'])]
    rfl
  refine W_store (by simp) (by simp) hst (stab_nil _ _ _) ?_
  simp
  have hk : Kept (fun j => j = b) w (put w b (.cells { M with frozen := true }.cells 78 (0, 0))) := (Kept.refl (fun j => j = b) w).put (b := b) (fun _ => rfl) _
  refine ⟨hk, put_same (blk_lt hb), h.row.keep hk ?_, ?_, h.apart, h.small, h.clock⟩
  · rintro j hj rfl
    rcases h.row with ⟨hL, _⟩ | ⟨g, cap, cur, hL, hg, _⟩
    · rw [hL] at hj; simp [Value.ownBlock] at hj
    · rw [hL] at hj
      simp [Value.ownBlock] at hj
      subst hj
      exact heap_ne hg hb (by decide) rfl
  · intro e he
    have hE := h.ents e he
    obtain ⟨c1, hc1, hcell1⟩ := hE.cell
    obtain ⟨cs1, hval1, _⟩ := hE.val
    exact hE.keep hk (fun q => heap_ne hE.ent hb (by decide) q) (fun q => heap_ne hcell1 hb (by decide) q) (fun q => heap_ne hval1 hb (by decide) q)
structure Mp (w0 w : World) (b : Nat) (M : BMap) : Prop where
  kept : Kept none' w0 w
  map : MapAt w b M
  low : ∀ i, M.own b i → w0.heap.size ≤ i
section
variable {w0 w w' : World} {b : Nat} {M M' : BMap}
theorem Mp.lt (h : Mp w0 w b M) {i : Nat} (hi : M.own b i) : i < w.heap.size := own_lt h.map hi
theorem Mp.calm (h : Mp w0 w b M) (hk : Kept none' w w') : Mp w0 w' b M := ⟨h.kept.trans hk, h.map.calm hk, h.low⟩
theorem Mp.step (h : Mp w0 w b M) (hk : Kept (M.own b) w w') (hm : MapAt w' b M') (ho : ∀ i, M'.own b i → M.own b i ∨ w.heap.size ≤ i) : Mp w0 w' b M' :=
  ⟨h.kept.then hk fun i hi hj => by have := h.low i hj; omega, hm, fun i hi => by
    rcases ho i hi with hj | hj
    · exact h.low i hj
    · exact Nat.le_trans h.kept.size hj⟩
theorem own_ent {i : Nat} {e : BEnt} (hi : M.l[i]? = some e) {j : Nat} (hj : j = b ∨ j = e.eb) : M.own b j := by
  rcases hj with hj | hj
  · exact .inl hj
  · exact .inr (.inr ⟨e, List.mem_of_getElem? hi, .inl hj⟩)
theorem Mp.used (h : Mp w0 w b M) {i : Nat} {e : BEnt} (hi : M.l[i]? = some e) (hk : Kept (fun j => j = b ∨ j = e.eb) w w') (hm : MapAt w' b (usedM M i e)) : Mp w0 w' b (usedM M i e) :=
  h.step (hk.mono fun j _ hj => own_ent hi hj) hm fun j hj => .inl (own_set (x := M.clock + 1) (e' := { e with used := M.clock + 1 }) hi rfl rfl rfl hj)
theorem Mp.written (h : Mp w0 w b M) {i : Nat} {e : BEnt} {x : Nat → Int} (hi : M.l[i]? = some e) (hk : Kept (M.own b) w w') (hm : MapAt w' b (writtenM M i e x)) : Mp w0 w' b (writtenM M i e x) :=
  h.step hk hm fun j hj => .inl (own_set (x := M.clock + 1) (e' := { e with used := M.clock + 1, val := x }) hi rfl rfl rfl hj)
end
end Go.Proofs.YtmfgdbapankamaaGreat
namespace Go.Proofs.YtmfgdbapankamaaGreat
open Go.Eng
end Go.Proofs.YtmfgdbapankamaaGreat
namespace Go.Proofs.YtmfgdbapankamaaGreat
open Go.Eng
end Go.Proofs.YtmfgdbapankamaaGreat
namespace Go.Proofs.YtmfgdbapankamaaGreat
open Go.Eng
def Bys (w : World) (v : Value) (l : List Nat) : Prop := (v = .slice none 0 0 ∧ l = []) ∨
  ∃ g cap cur, v = .slice (some ⟨g, 0, none⟩) l.length cap ∧ w.heap[g]? = some (.cells cur 5 (0, 0)) ∧ l.length ≤ cap ∧ cap ≤ maxLen ∧ cur.size = cap ∧ ∀ (i : Nat) (x : Nat), l[i]? = some x → cur[i]? = some (Value.int .u8 x)
theorem Bys.len {w : World} {v : Value} {l : List Nat} (h : Bys w v l) : lenV false v = some (.int .i64 l.length) := by
  rcases h with ⟨rfl, rfl⟩ | ⟨g, cap, cur, rfl, _⟩ <;> rfl
theorem Bys.var {w : World} {v : Value} {l : List Nat} (h : Bys w v l) : varV v = some v := by
  rcases h with ⟨rfl, rfl⟩ | ⟨g, cap, cur, rfl, _⟩ <;> rfl
theorem Bys.keep {w w' : World} {v : Value} {l : List Nat} {S : Nat → Prop} (h : Bys w v l) (hk : Kept S w w') (hS : ∀ i, v.ownBlock = some i → ¬ S i) : Bys w' v l := by
  rcases h with h | ⟨g, cap, cur, rfl, h2, h3⟩
  · exact .inl h
  · exact .inr ⟨g, cap, cur, rfl, hk.has h2 (hS g rfl), h3⟩
theorem Bys.lt {w : World} {v : Value} {l : List Nat} (h : Bys w v l) {g : Nat} (hg : v.ownBlock = some g) : g < w.heap.size := by
  rcases h with ⟨rfl, _⟩ | ⟨g', cap, cur, rfl, h2, _⟩
  · simp [Value.ownBlock] at hg
  · simp [Value.ownBlock] at hg; subst hg; exact blk_lt h2
theorem Bys.form {w : World} {v : Value} {l : List Nat} (h : Bys w v l) (h0 : 0 < l.length) : ∃ g cap, v = .slice (some ⟨g, 0, none⟩) l.length cap ∧ l.length ≤ cap ∧ v.ownBlock = some g ∧ ∀ (i : Nat) (x : Nat), l[i]? = some x → wcell w g i = some (.int .u8 x) := by
  rcases h with ⟨rfl, rfl⟩ | ⟨g, cap, cur, rfl, h2, h3, h4, h5, h6⟩
  · simp at h0
  · exact ⟨g, cap, rfl, h3, rfl, fun i x hi => by rw [wcell_of h2]; exact h6 i x hi⟩
theorem bys_append {w : World} {sb so c : Nat} {v : Value} {l m : List Nat} (h : Bys w v l) (hs : l.length + m.length ≤ 1000) (hm : ∀ (j : Nat) (x : Nat), m[j]? = some x → wcell w sb (so + j) = some (.int .u8 x)) :
    ∃ v' w', (builtin .append #[51, 51] 51 #[] #[v, .slice (some ⟨sb, so, none⟩) m.length c]).run Tryz.prog w = .ok (.value v') w' ∧ Bys w' v' (l ++ m) ∧ Kept (fun j => v.ownBlock = some j) w w' ∧
      (v'.ownBlock = v.ownBlock ∨ v'.ownBlock = some w.heap.size) := by
  obtain ⟨xs, hown, hxs⟩ : ∃ xs : List Value, w.ownsRow 0 5 1 v l.length xs ∧ ∀ (i : Nat) (x : Nat), l[i]? = some x → xs[i]? = some (Value.int .u8 x) := by
    rcases h with ⟨rfl, rfl⟩ | ⟨g, cap, cur, rfl, h2, h3, h4, h5, h6⟩
    · exact ⟨[], World.ownsRow_nil _ _ _ _, fun i e hi => by simp at hi⟩
    · refine ⟨cur.toList.take (l.length * 1), ⟨?_, .inr ⟨g, cap, cur, rfl, by omega, h2, h3, h4, by omega, rfl⟩⟩, ?_⟩
      · simp; omega
      · intro i e hi
        have hil : i < l.length := (List.getElem?_eq_some_iff.1 hi).1
        rw [List.getElem?_take, if_pos (by omega)]
        simpa using h6 i e hi
  have hi0 : (Tryz.prog.info? 5).any (fun i => i.size == 1 && decide (i.bytes ≤ 64) && i.zero.any (fun z => z.cells.size == 1)) = true := by kernel_rfl
  obtain ⟨i, hi, hi1⟩ : ∃ i, Tryz.prog.info? 5 = some i ∧ (i.size == 1 && decide (i.bytes ≤ 64) && i.zero.any (fun z => z.cells.size == 1)) = true := by
    cases h : Tryz.prog.info? 5 with
    | none => rw [h] at hi0; cases hi0
    | some i => rw [h] at hi0; exact ⟨i, rfl, hi0⟩
  simp only [Bool.and_eq_true, beq_iff_eq, decide_eq_true_eq] at hi1
  obtain ⟨⟨hsz, hy⟩, hz0⟩ := hi1
  obtain ⟨z, hz, hz4⟩ : ∃ z, i.zero = some z ∧ z.cells.size = 1 := by
    cases h : i.zero with
    | none => rw [h] at hz0; cases hz0
    | some z => rw [h] at hz0; exact ⟨z, rfl, by simpa using hz0⟩
  have hbytes : (l.length + m.length) * i.bytes ≤ 1000 * 64 := Nat.mul_le_mul (by omega) hy
  have hnews : ∀ (j : Nat) (u : Value), (m.map fun x => Value.int .u8 (x : Nat))[j]? = some u → w.cell? ((⟨sb, so, none⟩ : Addr).add j) = some u := by
    intro j u hu
    rw [List.getElem?_map, Option.map_eq_some_iff] at hu
    obtain ⟨x, hx, rfl⟩ := hu
    rw [Addr.add_lit]
    exact wcell_cell (hm j x hx)
  obtain ⟨v', w', hr, hown', hgr, _, hat⟩ := run_append_own_at (P := Tryz.prog) w 0 51 51 5 i z 1 i.bytes Tryz.underlying51 hi hz hsz rfl hz4 (by omega)
    v l.length xs hown ⟨sb, so, none⟩ m.length c (m.map fun x => Value.int .u8 (x : Nat)) (by simp) hnews (by simp [Value.oneCell']) (by unfold maxLen; omega) (by omega) (by omega)
  refine ⟨v', w', ?_, ?_, ⟨hgr.os, hgr.tape, hgr.output, hgr.size, fun i hi hS => hgr.block i hi (fun e => hS e.symm)⟩, hat⟩
  · simp only [builtin, map_eq_pure_bind, Sem.run_bind, hr]
    rfl
  · rcases hown'.2 with ⟨hv, h0⟩ | ⟨g, cap, cur, rfl, h1, h2, h3, h4, h5, h6⟩
    · exact .inl ⟨hv, List.eq_nil_of_length_eq_zero (by rw [List.length_append]; exact h0)⟩
    · refine .inr ⟨g, cap, cur, by simp, h2, by simpa using h3, h4, by omega, ?_⟩
      intro i e hie
      have hl : xs.length = l.length := by have := hown.1; omega
      have hil : i < l.length + m.length := by have := (List.getElem?_eq_some_iff.1 hie).1; simpa using this
      have e1 : cur[i]? = (cur.toList.take ((l.length + m.length) * 1))[i]? := by
        rw [List.getElem?_take, if_pos (by omega)]; simp
      rw [e1, h6]
      by_cases hin : i < l.length
      · rw [List.getElem?_append_left hin] at hie
        rw [List.getElem?_append_left (by omega)]
        exact hxs i e hie
      · rw [List.getElem?_append_right (by omega)] at hie
        rw [List.getElem?_append_right (by omega), hl, List.getElem?_map, hie]
        rfl
section
variable {w0 w w' : World} {b : Nat} {M M' : BMap}
theorem Mp.other {S : Nat → Prop} (h : Mp w0 w b M) (hk : Kept S w w') (h1 : ∀ i, S i → ¬ M.own b i ∧ w0.heap.size ≤ i) : Mp w0 w' b M :=
  ⟨h.kept.then hk fun i hi hs => by have := (h1 i hs).2; omega, h.map.keep hk fun i hi hs => (h1 i hs).1 hi, h.low⟩
end
end Go.Proofs.YtmfgdbapankamaaGreat
namespace Go.Proofs.YtmfgdbapankamaaGreat
open Go.Eng
end Go.Proofs.YtmfgdbapankamaaGreat
namespace Go.Proofs.YtmfgdbapankamaaGreat
open Go.Eng
def Octs (w : World) (v : Value) (xs : List Int) : Prop :=
  ∃ (a : Option Addr) (n c : Nat), v = .slice a n c ∧ n = xs.length ∧ n ≤ c ∧ n ≤ 9223372036854775807 ∧ (∀ i, 0 ≤ xs.getD i 0 ∧ xs.getD i 0 ≤ 255) ∧ (n = 0 ∨ ∃ b off, a = some ⟨b, off, none⟩ ∧ ∀ i, i < n → wcell w b (off + i) = some (.int .u8 (xs.getD i 0)))
theorem ok_intro {α : Type} {o : Option α} {F : α → Prop} (v : α) (h : o = some v) (hF : F v) : Ok o F := by rw [h]; exact hF
end Go.Proofs.YtmfgdbapankamaaGreat
