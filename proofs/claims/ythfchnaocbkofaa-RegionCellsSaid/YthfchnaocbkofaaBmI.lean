/- Layer 9, part I: Update. -/
import Derived.Test.YthfchnaocbkofaaBmH
set_option linter.unusedSimpArgs false
set_option linter.unusedVariables false
set_option maxRecDepth 8000
namespace Go.Proofs.Ythfchnaocbkofaa
open Go.Eng

theorem run_copyB {w : World} {b o n dCap sb so sCap : Nat} {c : Array Value} {T : TypeId} {x : Nat → Value}
    (hb : w.heap[b]? = some (.cells c T (0, 0))) (ho : o + n ≤ c.size) (hx : ∀ j, j < n → wcell w sb (so + j) = some (x j)) (h1 : ∀ j, j < n → (x j).oneCell' = true) :
    (builtin .copy #[22, 22] 3 #[] #[.slice (some ⟨b, o, none⟩) n dCap, .slice (some ⟨sb, so, none⟩) n sCap]).run Try.prog w =
      .ok (.value (.int .i64 n)) (put w b (.cells (setRow c o (List.ofFn (n := n) fun j => x j.val)) T (0, 0))) := by
  have hs : (Try.prog.info? 5).map (·.size) = some 1 := by kernel_rfl
  have hl := run_loadCells_list (P := Try.prog) w ⟨sb, so, none⟩ (List.ofFn (n := n) fun j => x j.val) (by
    intro j v hv
    have hj : j < n := by have := (List.getElem?_eq_some_iff.1 hv).1; simpa using this
    rw [List.getElem?_ofFn] at hv
    simp [hj] at hv
    subst hv
    rw [Addr.add_lit]
    exact wcell_cell (hx j hj))
  have hst := run_storeCells (P := Try.prog) (T := T) (fz := (0, 0)) (b := b) o (List.ofFn (n := n) fun j => x j.val) 0 c w hb (by simp; omega) (.inl (by simp)) (by
    intro v hv
    obtain ⟨j, rfl⟩ := List.mem_ofFn.1 hv
    exact h1 j j.2)
  cases hq : Try.prog.info? 5 with
  | none => simp [hq] at hs
  | some i =>
    have hi : i.size = 1 := by simpa [hq] using hs
    simp at hl hst
    simp [builtin, Builtin.copy_, run_underlying Try.underlying22, Builtin.lenOf, Builtin.firstCells, sizeOf, typeInfo, hq, hi, hl, hst]
    exact ⟨rfl, rfl⟩

/-- An entry's value is written over, and it is used. -/
def writtenM (M : BMap) (i : Nat) (e : BEnt) (x : Nat → Int) : BMap := { M with clock := M.clock + 1, l := M.l.set i { e with used := M.clock + 1, val := x } }

def upd_tail : List It := [.c (.seq
  (.bi none .copy [22, 22] 3 [(.ld none (.offp 0 (.nn (.ld none (.offp 1 (.nn (.var 9))))))), (.var 2)] [])
  (.seq
   (.call none 24 [(.var 0), (.var 9)] [])
  (.seq
   (.set 4 (.const (.int .i64 0)))
  .ret)))]

set_option maxHeartbeats 1000000 in
/-- The end of an Update: the value is copied, the entry used. -/
theorem upd_end {R : Eng.Env → World → Prop} (b : Nat) (M : BMap) (i : Nat) (e : BEnt) (xb xo xc : Nat) (x : Nat → Int) (w : World) (h : MapAt w b M) (hi : M.l[i]? = some e) (hc : M.clock + 1 ≤ 1000000)
    (hx : ∀ j, j < M.vs → wcell w xb (xo + j) = some (.int .u8 (x j))) (hxb : ∀ j, 0 ≤ x j ∧ x j ≤ 255) {v1 v3 v4 v5 v6 v7 v8 v10 v11 v12 v13 v14 v15 v16 v17 v18 v19 v20 v21 : Value}
    (hR : ∀ w' env, env[4]? = some (.int .i64 0) → Kept (fun j => j = b ∨ j = e.eb ∨ j = e.vb) w w' → MapAt w' b (writtenM M i e x) → R env w') :
    W Try.prog R upd_tail [.pointer (some ⟨b, 0, none⟩), v1, .slice (some ⟨xb, xo, none⟩) M.vs xc, v3, v4, v5, v6, v7, v8, .pointer (some ⟨e.eb, 0, none⟩), v10, v11, v12, v13, v14, v15, v16, v17, v18, v19, v20, v21] w := by
  have hE := h.mem hi
  have hent := hE.ent
  obtain ⟨c0, hc0, hcell⟩ := hE.cell
  obtain ⟨cs, hval, hv1, hv2⟩ := hE.val
  unfold upd_tail
  simp
  refine W_bi (by simp [wcell_of hent, wcell_of hcell, BEnt.cells]) (run_copyB (o := 0) (dCap := c0) (sCap := xc) (x := fun j => .int .u8 (x j)) hval (by omega) hx (fun _ _ => rfl)) (stab_nil _ _ _) ?_
  have hk1 : Kept (fun j => j = e.vb) w (put w e.vb (.cells (setRow cs 0 (List.ofFn (n := M.vs) fun j => Value.int .u8 (x j.val))) 5 (0, 0))) := (Kept.refl (fun j => j = e.vb) w).put (b := e.vb) (fun _ => rfl) _
  have hvn : (put w e.vb (.cells (setRow cs 0 (List.ofFn (n := M.vs) fun j => Value.int .u8 (x j.val))) 5 (0, 0))).heap[e.vb]? = some (.cells (setRow cs 0 (List.ofFn (n := M.vs) fun j => Value.int .u8 (x j.val))) 5 (0, 0)) := put_same (blk_lt hval)
  generalize put w e.vb (.cells (setRow cs 0 (List.ofFn (n := M.vs) fun j => Value.int .u8 (x j.val))) 5 (0, 0)) = w1 at hk1 hvn ⊢
  have hE1 : EntAt w1 M.vs { e with val := x } := by
    refine ⟨hk1.has hent (fun q => heap_ne hent hval (by decide) q), ⟨c0, hc0, hk1.has hcell (fun q => heap_ne hcell hval (by decide) q)⟩, ⟨_, hvn, by rw [Go.Eng.setRow_size]; exact hv1, ?_⟩, hxb⟩
    intro j hj
    rw [setRow_get _ _ _ _ (by simp; omega)]
    rw [if_pos (by simp; omega)]
    simp [hj]
  have hm1 : MapAt w1 b { M with clock := M.clock, l := M.l.set i { e with val := x } } :=
    h.set hi hE1 rfl rfl rfl (hk1.has h.blk (fun q => heap_ne h.blk hval (by decide) q)) h.clock (hk1.mono fun j _ hj => .inr (.inr (.inr hj)))
  have hil : i < M.l.length := (List.getElem?_eq_some_iff.1 hi).1
  simp
  refine W_call0 (by simp) (use_ret b _ i { e with val := x } w1 hm1 (by simp [hil]) hc) ?_
  rintro r w2 ⟨rfl, hk2, hm2⟩
  simp
  refine hR _ _ rfl ((hk1.mono fun j _ hj => .inr (.inr hj)).trans (hk2.mono fun j _ hj => ?_)) ?_
  · rcases hj with hj | hj
    · exact .inl hj
    · exact .inr (.inl hj)
  · have : usedM { M with clock := M.clock, l := M.l.set i { e with val := x } } i { e with val := x } = writtenM M i e x := by
      simp [usedM, writtenM, List.set_set]
    rw [this] at hm2
    exact hm2

theorem KeyAt.same {w w' : World} {k : ByteArray} {v : Value} (h : KeyAt w v k) (kb ko kc : Nat) (hv : v = .slice (some ⟨kb, ko, none⟩) k.size kc) (e : w'.heap[kb]? = w.heap[kb]?) : KeyAt w' v k := by
  subst hv
  obtain ⟨b', o', c', e1, e2, e3⟩ := h
  simp only [Value.slice.injEq, Option.some.injEq, Addr.mk.injEq] at e1
  obtain ⟨⟨rfl, rfl, _⟩, _, rfl⟩ := e1
  have ew : wrow w' kb ko k.size = wrow w kb ko k.size := by unfold wrow; rw [e]
  refine ⟨kb, ko, kc, rfl, ?_, ?_⟩
  · rw [← e2]; simp only [bstrv, ew]
  · intro j hj
    obtain ⟨y, h1, h2, h3⟩ := e3 j hj
    refine ⟨y, h1, h2, ?_⟩
    rw [← h3]; unfold wcell; rw [e]

theorem MapAt.entKeep {w w' : World} {b : Nat} {M : BMap} (h : MapAt w b M) (hk : Kept (fun j => j = b ∨ M.L.ownBlock = some j) w w') {e : BEnt} (he : e ∈ M.l) : EntAt w' M.vs e := by
  have hE := h.ents e he
  obtain ⟨c1, hc1, hcell1⟩ := hE.cell
  obtain ⟨cs1, hval1, _⟩ := hE.val
  have hrow : ∀ {j : Nat} {c : Array Value} {T : TypeId} {f : Nat × Nat}, w.heap[j]? = some (.cells c T f) → T ≠ 57 → M.L.ownBlock ≠ some j := by
    intro j c T f hj hT ho
    rcases h.row with ⟨hL, _⟩ | ⟨g, cap, cur, hL, hg, _⟩
    · rw [hL] at ho; simp [Value.ownBlock] at ho
    · rw [hL] at ho
      simp [Value.ownBlock] at ho
      subst ho
      exact heap_ne hj hg hT rfl
  refine hE.keep hk ?_ ?_ ?_
  · rintro (e1 | e1)
    · exact heap_ne hE.ent h.blk (by decide) e1
    · exact hrow hE.ent (by decide) e1
  · rintro (e1 | e1)
    · exact heap_ne hcell1 h.blk (by decide) e1
    · exact hrow hcell1 (by decide) e1
  · rintro (e1 | e1)
    · exact heap_ne hval1 h.blk (by decide) e1
    · exact hrow hval1 (by decide) e1

/-- An entry comes to the others. -/
theorem MapAt.push {w w' : World} {b : Nat} {M : BMap} {L' : Value} {a : BEnt} (h : MapAt w b M) (ha : EntAt w M.vs a) (hf : ∀ i, M.own b i → i ≠ a.eb ∧ i ≠ a.cb ∧ i ≠ a.vb)
    (hb : w'.heap[b]? = some (.cells { M with L := L' }.cells 56 (0, 0))) (hr : RowAt w' L' (M.l ++ [a])) (hk : Kept (fun j => j = b ∨ M.L.ownBlock = some j) w w') (hs : M.l.length < 1000) :
    MapAt w' b { M with L := L', l := M.l ++ [a] } := by
  refine ⟨hb, hr, ?_, ?_, by simp; omega, h.clock⟩
  · intro e he
    rcases List.mem_append.1 he with he | he
    · exact h.entKeep hk he
    · simp at he
      subst he
      have hin : ∀ j, (j = b ∨ M.L.ownBlock = some j) → M.own b j := fun j hj => by
        rcases hj with hj | hj
        · exact .inl hj
        · exact .inr (.inl hj)
      exact ha.keep hk (fun q => (hf _ (hin _ q)).1 rfl) (fun q => (hf _ (hin _ q)).2.1 rfl) (fun q => (hf _ (hin _ q)).2.2 rfl)
  · rw [List.pairwise_append]
    refine ⟨h.apart, by simp, ?_⟩
    intro c hc d hd
    simp at hd
    subst hd
    exact ⟨(hf c.eb (.inr (.inr ⟨c, hc, .inl rfl⟩))).1, (hf c.cb (.inr (.inr ⟨c, hc, .inr (.inl rfl)⟩))).2.1, (hf c.vb (.inr (.inr ⟨c, hc, .inr (.inr rfl)⟩))).2.2⟩

/-- What an Update tells, and what it makes of the map. -/
def UpdIs (w w' : World) (b : Nat) (M : BMap) (k : ByteArray) (x : Nat → Int) (fl : Int) (v : Value) : Prop :=
  (∃ (i : Nat) (e : BEnt), M.l[i]? = some e ∧ e.key = k ∧ ((fl = 1 ∧ v = .int .i64 17 ∧ Kept none' w w') ∨ (fl ≠ 1 ∧ v = .int .i64 0 ∧ Kept (M.own b) w w' ∧ MapAt w' b (writtenM M i e x)))) ∨
  ((∀ e ∈ M.l, e.key ≠ k) ∧ ((M.ty = 0 ∧ v = .int .i64 7 ∧ Kept none' w w') ∨ (M.ty ≠ 0 ∧ fl = 2 ∧ v = .int .i64 2 ∧ Kept none' w w') ∨
    (M.ty ≠ 0 ∧ fl ≠ 2 ∧ ¬ (M.l.length : Int) < M.cap ∧ M.ty ≠ 2 ∧ v = .int .i64 7 ∧ Kept none' w w') ∨
    (M.ty ≠ 0 ∧ fl ≠ 2 ∧ v = .int .i64 0 ∧ Kept (M.own b) w w' ∧ ∃ (lo : List BEnt) (L' : Value) (a : BEnt), ((M.l.length : Int) < M.cap ∧ lo = M.l ∨ ¬ (M.l.length : Int) < M.cap ∧ M.ty = 2 ∧ ∃ (i : Nat) (e : BEnt), M.l[i]? = some e ∧ (∀ c ∈ M.l, e.used ≤ c.used) ∧ lo = M.l.eraseIdx i) ∧
      a.key = k ∧ a.val = x ∧ a.used = M.clock + 1 ∧ w.heap.size ≤ a.eb ∧ w.heap.size ≤ a.cb ∧ w.heap.size ≤ a.vb ∧ (L'.ownBlock = M.L.ownBlock ∨ ∃ g, L'.ownBlock = some g ∧ w.heap.size ≤ g) ∧
      MapAt w' b { M with clock := M.clock + 1, L := L', l := lo ++ [a] })))

set_option maxHeartbeats 4000000 in
theorem update_ret (b : Nat) (M : BMap) (kv : Value) (k : ByteArray) (xb xo xc : Nat) (x : Nat → Int) (fl : Int) (w : World) (h : MapAt w b M) (hk : KeyAt w kv k) (hp : M.ty ≠ 5) (h3 : M.ty ≠ 3) (h4 : M.ty ≠ 4) (hs : (k.size : Int) = M.ks)
    (hc : M.clock + 1 ≤ 1000000) (hfz : M.frozen = false) (hcap : 0 < M.cap) (hV : M.vs ≤ 1000) (hlen : M.l.length < 1000) (hfl : 0 ≤ fl ∧ fl ≤ 2) (hx : ∀ j, j < M.vs → wcell w xb (xo + j) = some (.int .u8 (x j))) (hxb : ∀ j, 0 ≤ x j ∧ x j ≤ 255)
    (hxo : xb < w.heap.size ∧ ¬ M.own b xb) (hko : ∃ kb ko kc, kv = .slice (some ⟨kb, ko, none⟩) k.size kc ∧ kb < w.heap.size ∧ ¬ M.own b kb) :
    Ret Try.prog 6 [.pointer (some ⟨b, 0, none⟩), kv, .slice (some ⟨xb, xo, none⟩) M.vs xc, .int .u64 fl] w fun v w' => UpdIs w w' b M k x fl v := by
  refine ret_of_W Try.func6 rfl ok_bmap_Map_Update ?_
  have hkvv : varV kv = some kv := by obtain ⟨kb, ko, kc, rfl, _⟩ := hk; rfl
  have hb := h.blk
  simp [c_bmap_Map_Update]
  refine W_call0 (by simp) (changes_ret b M w h) ?_
  rintro v w1 ⟨rfl, rfl⟩
  simp [hfz]
  refine W_no (by simp) ?_
  simp
  refine W_call0 (by simp [hkvv]) (right_ret b M kv k w1 h hk hp) ?_
  rintro v w2 ⟨rfl, rfl⟩
  have hfl2 : ¬ (2 < fl) := by omega
  simp
  refine W_no (by simp [h3, h4, hs, wcell_of hb, BMap.cells, hfl2]) ?_
  simp
  refine W_call0 (by simp [hkvv]) (exact_ret' b M kv k w2 h hk hp) ?_
  rintro v w3 ⟨hk3, hv⟩
  have hm3 := h.calm hk3
  have hx3 : ∀ j, j < M.vs → wcell w3 xb (xo + j) = some (.int .u8 (x j)) := fun j hj => wcell_kept hk3 (fun h => h) (hx j hj)
  rcases hv with ⟨i, e, hi, hke, rfl⟩ | ⟨hno, rfl⟩
  · simp
    refine W_call0 (by simp) (flagged_ret b M (some ⟨e.eb, 0, none⟩) fl w3 hm3) ?_
    rintro v w4 ⟨rfl, rfl⟩
    by_cases h1 : fl = 1
    · simp [h1]
      refine W_yes (by simp) ?_
      simp
      exact .inl ⟨i, e, hi, hke, .inl ⟨rfl, rfl, hk3⟩⟩
    · simp [h1]
      refine W_no (by simp) ?_
      simp
      refine W_no (by simp) ?_
      refine upd_end b M i e xb xo xc x w4 hm3 hi hc hx3 hxb ?_
      intro w' env he hk' hm'
      simp [he]
      refine .inl ⟨i, e, hi, hke, .inr ⟨h1, rfl, ?_, hm'⟩⟩
      refine (hk3.mono fun _ _ h => h.elim).trans (hk'.mono fun j _ hj => ?_)
      rcases hj with hj | hj | hj
      · exact .inl hj
      · exact .inr (.inr ⟨e, List.mem_of_getElem? hi, .inl hj⟩)
      · exact .inr (.inr ⟨e, List.mem_of_getElem? hi, .inr (.inr hj)⟩)
  · simp
    refine W_call0 (by simp) (flagged_ret b M none fl w3 hm3) ?_
    rintro v w4 ⟨rfl, rfl⟩
    by_cases h0 : M.ty = 0
    · simp [h0]
      refine W_yes (by simp) ?_
      simp
      exact .inr ⟨hno, .inl ⟨h0, rfl, hk3⟩⟩
    by_cases h2 : fl = 2
    · simp [h0, h2]
      refine W_yes (by simp) ?_
      simp
      exact .inr ⟨hno, .inr (.inl ⟨h0, rfl, rfl, hk3⟩)⟩
    simp [h0, h2]
    refine W_no (by simp) ?_
    simp
    refine W_yes (by simp) ?_
    simp
    refine W_call0 (by simp) (room_ret b M w4 hm3 hcap) ?_
    intro v w5 hroom
    have hroom' : (¬ (M.l.length : Int) < M.cap ∧ M.ty ≠ 2 ∧ v = .int .i64 7 ∧ Kept none' w4 w5) ∨ (v = .int .i64 0 ∧ Kept (fun j => j = b ∨ M.L.ownBlock = some j) w4 w5 ∧ ∃ (lo : List BEnt) (Lr : Value), MapAt w5 b { M with L := Lr, l := lo } ∧ Lr.ownBlock = M.L.ownBlock ∧
        ((M.l.length : Int) < M.cap ∧ lo = M.l ∨ ¬ (M.l.length : Int) < M.cap ∧ M.ty = 2 ∧ ∃ (i : Nat) (e : BEnt), M.l[i]? = some e ∧ (∀ c ∈ M.l, e.used ≤ c.used) ∧ lo = M.l.eraseIdx i) ∧ lo.length ≤ M.l.length ∧ (∀ c ∈ lo, c ∈ M.l)) := by
      rcases hroom with ⟨g1, g2, g3⟩ | g | ⟨g1, g2, g3, g4, i, e, L', g5, g6, g7, g8⟩
      · exact .inr ⟨g2, g3.mono (fun _ _ h => h.elim), M.l, M.L, hm3.calm g3, rfl, .inl ⟨g1, rfl⟩, Nat.le_refl _, fun c hc => hc⟩
      · exact .inl g
      · exact .inr ⟨g3, g4, _, L', g8, g7, .inr ⟨g1, g2, i, e, g5, g6, rfl⟩, List.length_eraseIdx_le _ _, fun c hc => List.mem_of_mem_eraseIdx hc⟩
    rcases hroom' with ⟨g1, g2, rfl, g4⟩ | ⟨rfl, hk5, lo, Lr, hmr, hLr, hlo, hlol, hlom⟩
    · simp
      refine W_yes (by simp) ?_
      simp
      exact .inr ⟨hno, .inr (.inr (.inl ⟨h0, h2, g1, g2, rfl, hk3.trans g4⟩))⟩
    have hownr : ∀ j, BMap.own { M with L := Lr, l := lo } b j → M.own b j := by
      rintro j (hj | hj | ⟨c, hc, hj⟩)
      · exact .inl hj
      · exact .inr (.inl (by rw [← hLr]; exact hj))
      · exact .inr (.inr ⟨c, hlom c hc, hj⟩)
    obtain ⟨kb, ko, kc, rfl, hkb, hkn⟩ := hko
    have hkk : Kept (fun j => j = b ∨ M.L.ownBlock = some j) w2 w5 := (hk3.mono fun _ _ h => h.elim).trans hk5
    have hin : ∀ j, (j = b ∨ M.L.ownBlock = some j) → M.own b j := fun j hj => by
      rcases hj with hj | hj
      · exact .inl hj
      · exact .inr (.inl hj)
    have hkey5 : KeyAt w5.drew (.slice (some ⟨kb, ko, none⟩) k.size kc) k := by
      have e : w5.drew.heap[kb]? = w2.heap[kb]? := hkk.block kb hkb (fun hj => hkn (hin _ hj))
      exact hk.same kb ko kc rfl e
    have hx5 : ∀ j, j < M.vs → wcell w5.drew xb (xo + j) = some (.int .u8 (x j)) := by
      have e : w5.drew.heap[xb]? = w2.heap[xb]? := hkk.block xb hxo.1 (fun hj => hxo.2 (hin _ hj))
      intro j hj
      rw [← hx j hj]; unfold wcell; rw [e]
    have hm6 := hmr.calm (Kept.refl none' w5).drew
    have hk6 : Kept (fun j => j = b ∨ M.L.ownBlock = some j) w2 w5.drew := hkk.drew
    have hs6 := hk6.size
    simp
    refine W_no (by simp) ?_
    simp
    have hb6 := hm6.blk
    simp [wcell_of hmr.blk, BMap.cells]
    generalize w5.drew = w6 at hkey5 hx5 hm6 hk6 hs6 hb6 ⊢
    have hkvv' : varV (.slice (some ⟨kb, ko, none⟩) k.size kc) = some (.slice (some ⟨kb, ko, none⟩) k.size kc) := rfl
    refine W_cut (fun env w' => w' = ((w6.alloc (.cells (madeCells #[.int .u8 0] M.vs) 5)).alloc (.cells #[.slice (some ⟨w6.heap.size, 0, none⟩) M.vs M.vs] 60)).alloc (.cells (newEnt w6.heap.size k).cells 62) ∧
      env = [.pointer (some ⟨b, 0, none⟩), .slice (some ⟨kb, ko, none⟩) k.size kc, .slice (some ⟨xb, xo, none⟩) M.vs xc, .int .u64 fl, .int .i64 0, .int .i64 0, .int .i64 0,
        .bool (!decide (M.ty = 3) && !decide (M.ty = 4) && decide ((k.size : Int) = M.ks)), .pointer none, .pointer (some ⟨w6.heap.size + 2, 0, none⟩), .int .i64 0, .int .i64 0, .int .i64 0, .int .i64 0, .string k, .int .i64 M.vs,
        .slice (some ⟨w6.heap.size, 0, none⟩) M.vs M.vs, .pointer (some ⟨w6.heap.size + 1, 0, none⟩), .pointer (some ⟨w6.heap.size + 2, 0, none⟩), undef, undef, undef]) ?_ ?_
    · rw [W_alt]
      refine ⟨?_, ?_⟩
      · simp
        refine W_call (by simp) (plain_ret b _ _ k w6 hm6 hkey5 hp) ?_
        rintro v w7 ⟨rfl, rfl⟩
        refine ⟨fun e _ v h => h, ?_⟩
        simp
        refine W_sem (by simp) (run_mkb M.vs (by omega) w7) (stab_nil _ _ _) ?_
        simp
        rfl
      · simp
        refine W_sem (by simp) (run_mkb M.vs (by omega) w6) ?_ ?_
        · intro e he v hv
          simp at he
          subst he
          have hb7 := hp_old hb6 (.cells (madeCells #[.int .u8 0] M.vs) 5)
          simp [wcell_of hb6, BMap.cells] at hv
          simp [wcell_of hb7, BMap.cells]
          exact hv
        simp
        rw [W_alt]
        refine ⟨?_, ?_⟩
        · simp
          have hm7 := hm6.calm ((Kept.refl none' w6).alloc (.cells (madeCells #[.int .u8 0] M.vs) 5))
          have hk7 := hkey5.same (w' := w6.alloc (.cells (madeCells #[.int .u8 0] M.vs) 5)) kb ko kc rfl (RowKit.Below.heap_alloc w6 _ kb (by omega))
          refine W_call (by simp) (plain_ret b _ _ k _ hm7 hk7 hp) ?_
          rintro v w7 ⟨rfl, rfl⟩
          refine ⟨fun e _ v h => h, ?_⟩
          simp
          rfl
        · simp
          have hm7 := hm6.calm (((Kept.refl none' w6).alloc (.cells (madeCells #[.int .u8 0] M.vs) 5)).alloc (.cells #[.slice (some ⟨w6.heap.size, 0, none⟩) M.vs M.vs] 60))
          have hk7 := hkey5.same (w' := (w6.alloc (.cells (madeCells #[.int .u8 0] M.vs) 5)).alloc (.cells #[.slice (some ⟨w6.heap.size, 0, none⟩) M.vs M.vs] 60)) kb ko kc rfl
            ((RowKit.Below.heap_alloc _ _ kb (by simp; omega)).trans (RowKit.Below.heap_alloc w6 _ kb (by omega)))
          refine W_call (by simp) (plain_ret b _ _ k _ hm7 hk7 hp) ?_
          rintro v w7 ⟨rfl, rfl⟩
          refine ⟨fun e _ v h => h, ?_⟩
          simp
          rfl
    · rintro env w8 ⟨rfl, rfl⟩
      have hE8 := new_entAt w6 M.vs k
      have hka : Kept none' w6 (((w6.alloc (.cells (madeCells #[.int .u8 0] M.vs) 5)).alloc (.cells #[.slice (some ⟨w6.heap.size, 0, none⟩) M.vs M.vs] 60)).alloc (.cells (newEnt w6.heap.size k).cells 62)) := (((Kept.refl _ _).alloc _).alloc _).alloc _
      have hm8 := hm6.calm hka
      have hown6 : ∀ j, BMap.own { M with L := Lr, l := lo } b j → j < w6.heap.size := fun j hj => own_lt hm6 hj
      generalize ((w6.alloc (.cells (madeCells #[.int .u8 0] M.vs) 5)).alloc (.cells #[.slice (some ⟨w6.heap.size, 0, none⟩) M.vs M.vs] 60)).alloc (.cells (newEnt w6.heap.size k).cells 62) = w8 at hE8 hka hm8 ⊢
      have hvar := hm8.row.var
      have hb8 := hm8.blk
      simp [wcell_of hb8, BMap.cells, hvar]
      have hrowp := hp_new w8 (.cells #[.pointer (some ⟨w6.heap.size + 2, 0, none⟩)] 57)
      have hkb9 : Kept none' w8 (w8.alloc (.cells #[.pointer (some ⟨w6.heap.size + 2, 0, none⟩)] 57)) := (Kept.refl _ _).alloc _
      have hm9 := hm8.calm hkb9
      have hE9 := hE8.keep hkb9 (fun h => h) (fun h => h) (fun h => h)
      have hs8 := hka.size
      have hs9 := hkb9.size
      generalize w8.alloc (.cells #[.pointer (some ⟨w6.heap.size + 2, 0, none⟩)] 57) = w9 at hrowp hkb9 hm9 hE9 hs9 ⊢
      obtain ⟨L', w10, hrun, hr10, hk10, hown10⟩ := row_append (a := newEnt w6.heap.size k) hm9.row (by simp; omega) hrowp
      refine W_bi (by simp [hvar]) hrun (stab_nil _ _ _) ?_
      have hb10 := hk10.has hm9.blk (by
        intro ho
        rcases hm9.row with ⟨hL, _⟩ | ⟨g, cap, cur, hL, hg, _⟩
        · rw [hL] at ho; simp [Value.ownBlock] at ho
        · rw [hL] at ho
          simp [Value.ownBlock] at ho
          subst ho
          exact heap_ne hg hm9.blk (by decide) rfl)
      have hvar10 := hr10.var
      refine W_store (by simp) (by simp [hvar10]) (store_L (M := { M with L := Lr, l := lo }) hb10 hr10.one hr10.cellsL) (stab_nil _ _ _) ?_
      have hk11 : Kept (fun j => j = b ∨ Lr.ownBlock = some j) w9 (put w10 b (.cells ({ M with L := L', l := lo } : BMap).cells 56 (0, 0))) := (hk10.mono fun _ _ h => .inr h).put (fun _ => .inl rfl) _
      have hr11 : RowAt (put w10 b (.cells ({ M with L := L', l := lo } : BMap).cells 56 (0, 0))) L' (lo ++ [newEnt w6.heap.size k]) := by
        refine hr10.keep (S := fun j => j = b) ((Kept.refl (fun j => j = b) _).put (b := b) (fun _ => rfl) _) ?_
        rintro j hj rfl
        rcases hr10 with ⟨hL, _⟩ | ⟨g, cap, cur, hL, hg, _⟩
        · rw [hL] at hj; simp [Value.ownBlock] at hj
        · rw [hL] at hj
          simp [Value.ownBlock] at hj
          subst hj
          exact heap_ne hg hb10 (by decide) rfl
      have hm11 := hm9.push (L' := L') hE9 (fun i hi => by have := hown6 i hi; simp only [newEnt]; omega) (put_same (blk_lt hb10)) hr11 hk11 (by simp; omega)
      generalize put w10 b (.cells ({ M with L := L', l := lo } : BMap).cells 56 (0, 0)) = w11 at hk11 hr11 hm11 ⊢
      have hk12 : Kept (fun j => j = b ∨ M.L.ownBlock = some j) w2 w11 := by
        refine ((hk6.trans (hka.mono fun _ _ h => h.elim)).trans (hkb9.mono fun _ _ h => h.elim)).trans (hk11.mono fun j _ hj => ?_)
        rw [hLr] at hj
        exact hj
      have hx11 : ∀ j, j < M.vs → wcell w11 xb (xo + j) = some (.int .u8 (x j)) := by
        have e : w11.heap[xb]? = w2.heap[xb]? := hk12.block xb hxo.1 (fun hj => hxo.2 (hin _ hj))
        intro j hj
        rw [← hx j hj]; unfold wcell; rw [e]
      have hlast : (lo ++ [newEnt w6.heap.size k])[lo.length]? = some (newEnt w6.heap.size k) := by simp
      refine upd_end b _ lo.length (newEnt w6.heap.size k) xb xo xc x w11 hm11 hlast hc hx11 hxb ?_
      intro w' env he hk' hm'
      simp [he]
      refine .inr ⟨hno, .inr (.inr (.inr ⟨h0, h2, rfl, ?_, lo, L', { newEnt w6.heap.size k with used := M.clock + 1, val := x }, hlo, rfl, rfl, rfl, ?_, ?_, ?_, ?_, ?_⟩))⟩
      · refine hk12.then hk' (fun i hi hj => ?_) |>.mono (fun j _ hj => hin _ hj)
        simp only [newEnt] at hj
        rcases hj with hj | hj | hj
        · exact .inl hj
        · omega
        · omega
      · simp only [newEnt]; omega
      · simp only [newEnt]; omega
      · simp only [newEnt]; omega
      · rcases hown10 with ho | ho
        · exact .inl (ho.trans hLr)
        · exact .inr ⟨_, ho, by omega⟩
      · have : writtenM { M with L := L', l := lo ++ [newEnt w6.heap.size k] } lo.length (newEnt w6.heap.size k) x = { M with clock := M.clock + 1, L := L', l := lo ++ [{ newEnt w6.heap.size k with used := M.clock + 1, val := x }] } := by
          simp [writtenM]
        rw [← this]
        exact hm'
end Go.Proofs.Ythfchnaocbkofaa
