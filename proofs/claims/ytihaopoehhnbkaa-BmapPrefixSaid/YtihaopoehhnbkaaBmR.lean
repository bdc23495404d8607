/- Layer 9, part R: keys of all types: find, Lookup, Update of a Prefix. -/
import Derived.Test.YtihaopoehhnbkaaBmQ
set_option linter.unusedSimpArgs false
set_option linter.unusedVariables false
set_option maxRecDepth 8000
namespace Go.Proofs.Ytihaopoehhnbkaa
open Go.Eng

/-- What the search for a longest prefix tells. -/
def GFindIs (w w' : World) (b : Nat) (M : BMap) (k : ByteArray) (v : Value) : Prop :=
  (8 * ((k.size : Int) - 4) < cnt k ∧ v = .tuple #[.pointer none, .int .i64 22] ∧ Kept none' w w') ∨
  (cnt k ≤ 8 * ((k.size : Int) - 4) ∧ ∃ (i : Nat) (e : BEnt), M.l[i]? = some e ∧ Fits k e ∧ (∀ e' ∈ M.l, Fits k e' → cnt e'.key ≤ cnt e.key) ∧ v = .tuple #[.pointer (some ⟨e.eb, 0, none⟩), .int .i64 0] ∧ Kept (fun j => j = b ∨ j = e.eb) w w' ∧ MapAt w' b (usedM M i e)) ∨
  (cnt k ≤ 8 * ((k.size : Int) - 4) ∧ (∀ e ∈ M.l, ¬ Fits k e) ∧ v = .tuple #[.pointer none, .int .i64 2] ∧ Kept none' w w')

theorem gfind_ret (b : Nat) (M : BMap) (kv : Value) (k : ByteArray) (w : World) (h : MapAt w b M) (hk : KeyP w kv k) (hp : M.ty = 5) (hs : (k.size : Int) = M.ks) (h4 : 4 < k.size) (hS : k.size ≤ 1000) (hall : ∀ e ∈ M.l, e.key.size = k.size) (hc : M.clock + 1 ≤ 1000000) :
    Ret Try.prog 50 [.pointer (some ⟨b, 0, none⟩), kv] w fun v w' => GFindIs w w' b M k v := by
  refine ret_of_W Try.func50 rfl ok_bmap_Map_find ?_
  have hkvv := hk.var
  simp [c_bmap_Map_find]
  refine W_call0 (by simp [hkvv]) (gright_ret b M kv k w h hk (fun _ => by omega) hS) ?_
  rintro v w1 ⟨rfl, rfl⟩
  simp only [hp]
  by_cases hr : cnt k ≤ 8 * ((k.size : Int) - 4)
  · refine W_no (by simp [hs, hr]; omega) ?_
    simp
    refine W_call0 (by simp [hkvv]) (gexact_ret b M kv k w1 h hk (by omega) (fun _ => by omega) hS) ?_
    rintro v w2 ⟨hk2, hv⟩
    have hm2 := h.calm hk2
    have hb2 := hm2.blk
    have hvv : varV v = some v := by rcases hv with ⟨_, _, _, _, rfl⟩ | ⟨_, rfl⟩ <;> rfl
    simp [hvv]
    refine W_yes (by simp [wcell_of hb2, BMap.cells, hp]) ?_
    simp
    refine W_call0 (by simp [hkvv]) (longest_ret b M kv k w2 hm2 (hk.calm hk2) h4 hS hall) ?_
    rintro v w3 ⟨hk3, hL⟩
    have hm3 := hm2.calm hk3
    rcases hL with ⟨rfl, hno⟩ | ⟨i, e, _, hi, hf, rfl, hmax⟩
    · simp
      refine W_yes (by simp) ?_
      simp
      refine .inr (.inr ⟨hr, fun e he => ?_, rfl, hk2.trans hk3⟩)
      obtain ⟨j, hj⟩ := List.mem_iff_getElem?.1 he
      exact hno j e (List.getElem?_eq_some_iff.1 hj).1 hj
    · simp
      refine W_no (by simp) ?_
      simp
      refine W_call0 (by simp) (use_ret b M i e w3 hm3 hi hc) ?_
      rintro v w4 ⟨rfl, hk4, hm4⟩
      simp
      refine .inr (.inl ⟨hr, i, e, hi, hf, fun e' he hf' => ?_, rfl, ((hk2.trans hk3).mono fun _ _ h => h.elim).trans (hk4.mono fun _ _ h => h), hm4⟩)
      obtain ⟨j, hj⟩ := List.mem_iff_getElem?.1 he
      exact hmax j e' (List.getElem?_eq_some_iff.1 hj).1 hj hf'
  · refine W_yes (by simp [hs, hr]; omega) ?_
    simp
    exact .inl ⟨by omega, rfl, Kept.refl _ _⟩

/-- What Lookup tells of a Prefix. -/
def GLookIs (w w' : World) (b : Nat) (M : BMap) (k : ByteArray) (v : Value) : Prop :=
  (8 * ((k.size : Int) - 4) < cnt k ∧ v = .tuple #[.slice none 0 0, .int .i64 22] ∧ Kept none' w w') ∨
  (cnt k ≤ 8 * ((k.size : Int) - 4) ∧ ∃ (i : Nat) (e : BEnt) (nb c : Nat), M.l[i]? = some e ∧ Fits k e ∧ (∀ e' ∈ M.l, Fits k e' → cnt e'.key ≤ cnt e.key) ∧ v = .tuple #[.slice (some ⟨nb, 0, none⟩) M.vs c, .int .i64 0] ∧ M.vs ≤ c ∧ w.heap.size ≤ nb ∧ (∀ j, j < M.vs → wcell w' nb j = some (.int .u8 (e.val j))) ∧ Kept (fun j => j = b ∨ j = e.eb) w w' ∧ MapAt w' b (usedM M i e)) ∨
  (cnt k ≤ 8 * ((k.size : Int) - 4) ∧ (∀ e ∈ M.l, ¬ Fits k e) ∧ v = .tuple #[.slice none 0 0, .int .i64 2] ∧ Kept none' w w')

theorem glookup_ret (b : Nat) (M : BMap) (kv : Value) (k : ByteArray) (w : World) (h : MapAt w b M) (hk : KeyP w kv k) (hp : M.ty = 5) (hs : (k.size : Int) = M.ks) (h4 : 4 < k.size) (hS : k.size ≤ 1000) (hall : ∀ e ∈ M.l, e.key.size = k.size) (hc : M.clock + 1 ≤ 1000000) (hV : M.vs ≤ 1000) :
    Ret Try.prog 29 [.pointer (some ⟨b, 0, none⟩), kv] w fun v w' => GLookIs w w' b M k v := by
  refine ret_of_W Try.func29 rfl ok_bmap_Map_Lookup ?_
  have hkvv := hk.var
  simp [c_bmap_Map_Lookup]
  refine W_call0 (by simp [hkvv]) (gfind_ret b M kv k w h hk hp hs h4 hS hall hc) ?_
  rintro v w1 (⟨hr, rfl, hk1⟩ | ⟨hr, i, e, hi, hf, hmax, rfl, hk1, hm1⟩ | ⟨hr, hno, rfl, hk1⟩)
  · simp
    refine W_yes (by simp) ?_
    simp
    exact .inl ⟨hr, rfl, hk1⟩
  · simp
    refine W_no (by simp) ?_
    simp
    have hil : i < M.l.length := (List.getElem?_eq_some_iff.1 hi).1
    have hE : EntAt w1 M.vs { e with used := M.clock + 1 } := hm1.ents _ (List.mem_set hil _)
    have hent := hE.ent
    obtain ⟨c0, hc0, hcell⟩ := hE.cell
    obtain ⟨cs, hval, hv1, hv2⟩ := hE.val
    refine W_call0 (by simp [wcell_of hent, wcell_of hcell, BEnt.cells]) (clone_ret e.vb 0 M.vs c0 (fun j => .int .u8 (e.val j)) w1 (fun j hj => by rw [wcell_of hval, Nat.zero_add]; exact hv2 j hj) (by omega) (blk_lt hval)) ?_
    rintro v w2 ⟨hk2, nb, c', rfl, hc', hnb, hby⟩
    simp
    exact .inr (.inl ⟨hr, i, e, nb, c', hi, hf, hmax, rfl, hc', Nat.le_trans hk1.size hnb, hby, hk1.trans (hk2.mono fun _ _ h => h.elim), hm1.calm hk2⟩)
  · simp
    refine W_yes (by simp) ?_
    simp
    exact .inr (.inr ⟨hr, hno, rfl, hk1⟩)

theorem entAt_of {w : World} {V eb cb vb : Nat} {k : ByteArray} (h1 : w.heap[eb]? = some (.cells (BEnt.cells ⟨eb, cb, vb, k, 0, fun _ => 0⟩) 109 (0, 0)))
    (h2 : w.heap[cb]? = some (.cells #[.slice (some ⟨vb, 0, none⟩) V V] 80 (0, 0))) (h3 : w.heap[vb]? = some (.cells (madeCells #[.int .u8 0] V) 5 (0, 0))) : EntAt w V ⟨eb, cb, vb, k, 0, fun _ => 0⟩ :=
  ⟨h1, ⟨V, Nat.le_refl _, h2⟩, ⟨_, h3, by simp [size_madeCells], fun j hj => made_get V j hj⟩, fun j => by simp⟩

theorem hp_at {w : World} {x : Obj} {n : Nat} (h : n = w.heap.size) : (w.alloc x).heap[n]? = some x := by subst h; exact hp_new w x

/-- What an Update of a Prefix that has room tells, and what it makes of the map. -/
def GUpdIs (w w' : World) (b : Nat) (M : BMap) (k : ByteArray) (x : Nat → Int) (v : Value) : Prop :=
  v = .int .i64 0 ∧ Kept (M.own b) w w' ∧
  ((∃ (i : Nat) (e : BEnt), M.l[i]? = some e ∧ e.key = name M k ∧ MapAt w' b (writtenM M i e x)) ∨
   ((∀ e ∈ M.l, e.key ≠ name M k) ∧ ∃ (L' : Value) (a : BEnt), a.key = name M k ∧ a.val = x ∧ w.heap.size ≤ a.eb ∧ w.heap.size ≤ a.cb ∧ w.heap.size ≤ a.vb ∧ (L'.ownBlock = M.L.ownBlock ∨ ∃ g, L'.ownBlock = some g ∧ w.heap.size ≤ g) ∧
      MapAt w' b { M with clock := M.clock + 1, L := L', l := M.l ++ [a] }))

set_option maxHeartbeats 4000000 in
theorem gupdate_ret (b : Nat) (M : BMap) (kv : Value) (k : ByteArray) (xb xo xc : Nat) (x : Nat → Int) (w : World) (h : MapAt w b M) (hk : KeyP w kv k) (hp : M.ty = 5) (hs : (k.size : Int) = M.ks) (h4 : 4 < k.size) (hS : k.size ≤ 1000) (hr : cnt k ≤ 8 * ((k.size : Int) - 4))
    (hc : M.clock + 1 ≤ 1000000) (hfz : M.frozen = false) (hcap : 0 < M.cap) (hroom : (∀ e ∈ M.l, e.key ≠ name M k) → (M.l.length : Int) < M.cap) (hV : M.vs ≤ 1000) (hlen : M.l.length < 1000) (hx : ∀ j, j < M.vs → wcell w xb (xo + j) = some (.int .u8 (x j))) (hxb : ∀ j, 0 ≤ x j ∧ x j ≤ 255)
    (hxo : xb < w.heap.size ∧ ¬ M.own b xb) :
    Ret Try.prog 30 [.pointer (some ⟨b, 0, none⟩), kv, .slice (some ⟨xb, xo, none⟩) M.vs xc, .int .u64 0] w fun v w' => GUpdIs w w' b M k x v := by
  refine ret_of_W Try.func30 rfl ok_bmap_Map_Update ?_
  have hkvv := hk.var
  have hb := h.blk
  simp [c_bmap_Map_Update]
  refine W_call0 (by simp) (changes_ret b M w h) ?_
  rintro v w1 ⟨rfl, rfl⟩
  simp [hfz]
  refine W_no (by simp) ?_
  simp
  refine W_call0 (by simp [hkvv]) (gright_ret b M kv k w1 h hk (fun _ => by omega) hS) ?_
  rintro v w2 ⟨rfl, rfl⟩
  simp
  refine W_no (by simp [hp, hs, wcell_of hb, BMap.cells]; omega) ?_
  simp
  refine W_call0 (by simp [hkvv]) (gexact_ret b M kv k w2 h hk (by omega) (fun _ => by omega) hS) ?_
  rintro v w3 ⟨hk3, hv⟩
  have hm3 := h.calm hk3
  have hx3 : ∀ j, j < M.vs → wcell w3 xb (xo + j) = some (.int .u8 (x j)) := fun j hj => wcell_kept hk3 (fun h => h) (hx j hj)
  generalize (!decide (M.ty = 3) && !decide (M.ty = 4) && decide ((k.size : Int) = M.ks) && (!decide (M.ty = 5) || decide (cnt k ≤ 8 * ((k.size : Int) - 4)))) = rb
  rcases hv with ⟨i, e, hi, hke, rfl⟩ | ⟨hno, rfl⟩
  · simp
    refine W_call0 (by simp) (flagged_ret b M (some ⟨e.eb, 0, none⟩) 0 w3 hm3) ?_
    rintro v w4 ⟨rfl, rfl⟩
    simp
    refine W_no (by simp) ?_
    simp
    refine W_no (by simp) ?_
    refine upd_end b M i e xb xo xc x w4 hm3 hi hc hx3 hxb ?_
    intro w' env he hk' hm'
    simp [he]
    refine ⟨rfl, ?_, .inl ⟨i, e, hi, hke, hm'⟩⟩
    refine (hk3.mono fun _ _ h => h.elim).trans (hk'.mono fun j _ hj => ?_)
    rcases hj with hj | hj | hj
    · exact .inl hj
    · exact .inr (.inr ⟨e, List.mem_of_getElem? hi, .inl hj⟩)
    · exact .inr (.inr ⟨e, List.mem_of_getElem? hi, .inr (.inr hj)⟩)
  · simp
    refine W_call0 (by simp) (flagged_ret b M none 0 w3 hm3) ?_
    rintro v w4 ⟨rfl, rfl⟩
    simp [hp]
    refine W_no (by simp) ?_
    simp
    refine W_yes (by simp) ?_
    simp
    refine W_call0 (by simp) (room_ret b M w4 hm3 hcap) ?_
    intro v w5 hroom2
    have hlt := hroom hno
    obtain ⟨rfl, hk5⟩ : v = .int .i64 0 ∧ Kept none' w4 w5 := by
      rcases hroom2 with ⟨g1, g2, g3⟩ | ⟨g, _⟩ | ⟨g, _⟩
      · exact ⟨g2, g3⟩
      · exact absurd hlt g
      · exact absurd hlt g
    have hk6 : Kept none' w2 w5.drew := (hk3.trans hk5).drew
    have hkey5 := hk.calm hk6
    have hx5 : ∀ j, j < M.vs → wcell w5.drew xb (xo + j) = some (.int .u8 (x j)) := fun j hj => wcell_kept hk6 (fun h => h) (hx j hj)
    have hm6 := h.calm hk6
    have hs6 := hk6.size
    have hb5 := (h.calm (hk3.trans hk5)).blk
    simp
    refine W_no (by simp) ?_
    simp
    have hb6 := hm6.blk
    simp [wcell_of hb5, BMap.cells, hkvv]
    generalize w5.drew = w6 at hkey5 hx5 hm6 hk6 hs6 hb6 ⊢
    refine W_cut (fun env w' => ∃ eb cb vb : Nat, Kept none' w6 w' ∧ EntAt w' M.vs ⟨eb, cb, vb, name M k, 0, fun _ => 0⟩ ∧ w6.heap.size ≤ eb ∧ w6.heap.size ≤ cb ∧ w6.heap.size ≤ vb ∧
      env = [.pointer (some ⟨b, 0, none⟩), kv, .slice (some ⟨xb, xo, none⟩) M.vs xc, .int .u64 0, .int .i64 0, .int .i64 0, .int .i64 0,
        .bool rb, .pointer none, .pointer (some ⟨eb, 0, none⟩), .int .i64 0, .int .i64 0, .int .i64 0, .int .i64 0, .string (name M k), .int .i64 M.vs,
        .slice (some ⟨vb, 0, none⟩) M.vs M.vs, .pointer (some ⟨cb, 0, none⟩), .pointer (some ⟨eb, 0, none⟩), undef, undef, undef]) ?_ ?_
    · rw [W_alt]
      refine ⟨?_, ?_⟩
      · simp
        refine W_call (by simp [hkvv]) (gplain_ret b _ _ k w6 hm6 hkey5 (by omega) (fun _ => by omega) hS) ?_
        rintro v w7 ⟨rfl, hk7⟩
        refine ⟨?_, ?_⟩
        · intro e he v hv
          simp at he
          subst he
          have hb7 := (hm6.calm hk7).blk
          simp [wcell_of hb6, BMap.cells] at hv
          simp [wcell_of hb7, BMap.cells]
          exact hv
        simp
        refine W_sem (by simp) (run_mkb M.vs (by omega) w7) (stab_nil _ _ _) ?_
        simp
        exact ⟨hk7.trans ((((Kept.refl none' w7).alloc _).alloc _).alloc _), _, _, _, entAt_of (hp_new _ _) (hp_old (hp_at (by simp)) _) (hp_old (hp_old (hp_new _ _) _) _), by have := hk7.size; simp; omega, by have := hk7.size; simp; omega, by have := hk7.size; simp; omega, by simp, by simp, by simp, by simp⟩
      · simp
        refine W_sem (by simp) (run_mkb M.vs (by omega) w6) ?_ ?_
        · intro e he v hv
          simp at he
          subst he
          have hb7 := hp_old hb6 (.cells (madeCells #[.int .u8 0] M.vs) 5)
          simp [wcell_of hb6, BMap.cells] at hv
          simp [wcell_of hb7, BMap.cells]
          exact hv
        have hkA : Kept none' w6 (w6.alloc (.cells (madeCells #[.int .u8 0] M.vs) 5)) := (Kept.refl none' w6).alloc _
        have hpA := hp_new w6 (.cells (madeCells #[.int .u8 0] M.vs) 5)
        have hsA : (w6.alloc (.cells (madeCells #[.int .u8 0] M.vs) 5)).heap.size = w6.heap.size + 1 := by simp
        simp
        generalize w6.alloc (.cells (madeCells #[.int .u8 0] M.vs) 5) = w7 at hkA hpA hsA ⊢
        have hm7 := hm6.calm hkA
        have hkey7 := hkey5.calm hkA
        have hb7 := hm7.blk
        rw [W_alt]
        refine ⟨?_, ?_⟩
        · simp
          refine W_call (by simp [hkvv]) (gplain_ret b _ _ k w7 hm7 hkey7 (by omega) (fun _ => by omega) hS) ?_
          rintro v w8 ⟨rfl, hk8⟩
          have hb8 := (hm7.calm hk8).blk
          refine ⟨?_, ?_⟩
          · intro e he v hv
            simp at he
            subst he
            simp [wcell_of hb7, BMap.cells] at hv
            simp [wcell_of hb8, BMap.cells]
            exact hv
          simp
          exact ⟨(hkA.trans hk8).trans (((Kept.refl none' w8).alloc _).alloc _), _, _, _, entAt_of (hp_new _ _) (hp_old (hp_new _ _) _) (hp_old (hp_old (hk8.has hpA (fun h => h)) _) _), by have := hk8.size; simp; omega, by have := hk8.size; simp; omega, by simp, by simp, by simp, by simp, by simp⟩
        · simp
          have hkB : Kept none' w7 (w7.alloc (.cells #[.slice (some ⟨w6.heap.size, 0, none⟩) M.vs M.vs] 80)) := (Kept.refl none' w7).alloc _
          have hpB := hp_new w7 (.cells #[.slice (some ⟨w6.heap.size, 0, none⟩) M.vs M.vs] 80)
          generalize w7.alloc (.cells #[.slice (some ⟨w6.heap.size, 0, none⟩) M.vs M.vs] 80) = w8 at hkB hpB ⊢
          refine W_call (by simp [hkvv]) (gplain_ret b _ _ k w8 (hm7.calm hkB) (hkey7.calm hkB) (by omega) (fun _ => by omega) hS) ?_
          rintro v w9 ⟨rfl, hk9⟩
          have hb8 := (hm7.calm hkB).blk
          have hb9 := ((hm7.calm hkB).calm hk9).blk
          refine ⟨?_, ?_⟩
          · intro e he v hv
            simp at he
            subst he
            simp [wcell_of hb8, BMap.cells] at hv
            simp [wcell_of hb9, BMap.cells]
            exact hv
          simp
          exact ⟨((hkA.trans hkB).trans hk9).trans ((Kept.refl none' w9).alloc _), _, _, _, entAt_of (hp_new _ _) (hp_old (hk9.has hpB (fun h => h)) _) (hp_old (hk9.has (hkB.has hpA (fun h => h)) (fun h => h)) _), by have := hk9.size; have := hkB.size; omega, (show w6.heap.size ≤ w7.heap.size by omega), by simp, by simp, by simp, by simp, by simp⟩
    · rintro env w8 ⟨eb, cb, vb, hka, hE8, g1, g2, g3, rfl⟩
      have hm8 := hm6.calm hka
      have hown6 : ∀ j, M.own b j → j < w6.heap.size := fun j hj => own_lt hm6 hj
      have hvar := hm8.row.var
      have hb8 := hm8.blk
      simp [wcell_of hb8, BMap.cells, hvar]
      have hrowp := hp_new w8 (.cells #[.pointer (some ⟨eb, 0, none⟩)] 106)
      have hkb9 : Kept none' w8 (w8.alloc (.cells #[.pointer (some ⟨eb, 0, none⟩)] 106)) := (Kept.refl _ _).alloc _
      have hm9 := hm8.calm hkb9
      have hE9 := hE8.keep hkb9 (fun h => h) (fun h => h) (fun h => h)
      have hs8 := hka.size
      have hs9 := hkb9.size
      generalize w8.alloc (.cells #[.pointer (some ⟨eb, 0, none⟩)] 106) = w9 at hrowp hkb9 hm9 hE9 hs9 ⊢
      obtain ⟨L', w10, hrun, hr10, hk10, hown10⟩ := row_append (a := ⟨eb, cb, vb, name M k, 0, fun _ => 0⟩) hm9.row (by omega) hrowp
      refine W_bi (by simp [hvar]) hrun (stab_nil _ _ _) ?_
      have hb10 := hk10.has hm9.blk (by
        intro ho
        rcases hm9.row with ⟨hL, _⟩ | ⟨g, cap, cur, hL, hg, _⟩
        · rw [hL] at ho; simp [Value.ownBlock] at ho
        · rw [hL] at ho
          simp [Value.ownBlock] at ho
          subst ho
          exact heap_ne hg hm9.blk (by decide) rfl)
      have hvar10 := hr10.var
      refine W_store (by simp) (by simp [hvar10]) (store_L (M := M) hb10 hr10.one hr10.cellsL) (stab_nil _ _ _) ?_
      have hk11 : Kept (fun j => j = b ∨ M.L.ownBlock = some j) w9 (put w10 b (.cells ({ M with L := L' } : BMap).cells 105 (0, 0))) := (hk10.mono fun _ _ h => .inr h).put (fun _ => .inl rfl) _
      have hr11 : RowAt (put w10 b (.cells ({ M with L := L' } : BMap).cells 105 (0, 0))) L' (M.l ++ [⟨eb, cb, vb, name M k, 0, fun _ => 0⟩]) := by
        refine hr10.keep (S := fun j => j = b) ((Kept.refl (fun j => j = b) _).put (b := b) (fun _ => rfl) _) ?_
        rintro j hj rfl
        rcases hr10 with ⟨hL, _⟩ | ⟨g, cap, cur, hL, hg, _⟩
        · rw [hL] at hj; simp [Value.ownBlock] at hj
        · rw [hL] at hj
          simp [Value.ownBlock] at hj
          subst hj
          exact heap_ne hg hb10 (by decide) rfl
      have hm11 := hm9.push (L' := L') hE9 (fun i hi => by have := hown6 i hi; simp only; omega) (put_same (blk_lt hb10)) hr11 hk11 (by omega)
      generalize put w10 b (.cells ({ M with L := L' } : BMap).cells 105 (0, 0)) = w11 at hk11 hr11 hm11 ⊢
      have hk12 : Kept (fun j => j = b ∨ M.L.ownBlock = some j) w2 w11 :=
        (((hk6.mono fun _ _ h => h.elim).trans (hka.mono fun _ _ h => h.elim)).trans (hkb9.mono fun _ _ h => h.elim)).trans hk11
      have hin : ∀ j, (j = b ∨ M.L.ownBlock = some j) → M.own b j := fun j hj => by
        rcases hj with hj | hj
        · exact .inl hj
        · exact .inr (.inl hj)
      have hx11 : ∀ j, j < M.vs → wcell w11 xb (xo + j) = some (.int .u8 (x j)) := by
        have e : w11.heap[xb]? = w2.heap[xb]? := hk12.block xb hxo.1 (fun hj => hxo.2 (hin _ hj))
        intro j hj
        rw [← hx j hj]; unfold wcell; rw [e]
      have hlast : (M.l ++ [⟨eb, cb, vb, name M k, 0, fun _ => 0⟩])[M.l.length]? = some ⟨eb, cb, vb, name M k, 0, fun _ => 0⟩ := by simp
      refine upd_end b _ M.l.length ⟨eb, cb, vb, name M k, 0, fun _ => 0⟩ xb xo xc x w11 hm11 hlast hc hx11 hxb ?_
      intro w' env he hk' hm'
      simp [he]
      refine ⟨rfl, ?_, .inr ⟨hno, L', ⟨eb, cb, vb, name M k, M.clock + 1, x⟩, rfl, rfl, by simp only; omega, by simp only; omega, by simp only; omega, ?_, ?_⟩⟩
      · refine hk12.then hk' (fun i hi hj => ?_) |>.mono (fun j _ hj => hin _ hj)
        simp only at hj
        rcases hj with hj | hj | hj
        · exact .inl hj
        · omega
        · omega
      · rcases hown10 with ho | ho
        · exact .inl ho
        · exact .inr ⟨_, ho, by omega⟩
      · have : writtenM { M with L := L', l := M.l ++ [⟨eb, cb, vb, name M k, 0, fun _ => 0⟩] } M.l.length ⟨eb, cb, vb, name M k, 0, fun _ => 0⟩ x = { M with clock := M.clock + 1, L := L', l := M.l ++ [⟨eb, cb, vb, name M k, M.clock + 1, x⟩] } := by
          simp [writtenM]
        rw [← this]
        exact hm'
end Go.Proofs.Ytihaopoehhnbkaa
