/- Layer 9, part O: New of an Array. -/
import Derived.Test.YthfchnaocbkofaaBmM
set_option linter.unusedSimpArgs false
set_option linter.unusedVariables false
set_option maxRecDepth 8000
namespace Go.Proofs.Ythfchnaocbkofaa
open Go.Eng

/-- Byte j of a small number. -/
def lit4 (n j : Nat) : Nat := if j = 0 then n else 0

theorem lit_byte (n : Nat) (hn : n < 256) (i : Nat) (hi : i < 4) : IntKind.u8.wrap ((n : Int).fdiv (2 ^ min (8 * (i : Int)).toNat IntKind.i64.bits)) = ((lit4 n i : Nat) : Int) := by
  have e5 : min (8 * (i : Int)).toNat IntKind.i64.bits = 8 * i := by
    have : IntKind.i64.bits = 64 := rfl
    omega
  have hp : (0 : Int) ≤ 256 ^ i := Int.le_of_lt (Int.pow_pos (by omega))
  rw [e5, pow_256, IntKind.wrap_u8, Int.fdiv_eq_ediv_of_nonneg _ hp]
  unfold lit4
  have : i = 0 ∨ i = 1 ∨ i = 2 ∨ i = 3 := by omega
  rcases this with rfl | rfl | rfl | rfl <;> simp <;> omega

theorem little4_ret (n : Nat) (hn : n < 256) (w : World) : Ret Try.prog 17 [.int .i64 n] w fun v w' => Kept none' w w' ∧ ∃ g cap, v = .slice (some ⟨g, 0, none⟩) 4 cap ∧ w.heap.size ≤ g ∧ ∀ j, j < 4 → wcell w' g j = some (.int .u8 (lit4 n j)) := by
  refine ret_of_W Try.func17 rfl ok_bmap_little ?_
  simp [c_bmap_little]
  refine W_loop (fun env w' => Kept none' w w' ∧ ∃ (i : Nat) (v : Value), env = [.int .i64 n, undef, v, .int .i64 i, undef, undef, undef] ∧ i ≤ 4 ∧ Bys w' v ((List.range i).map (lit4 n)) ∧ ∀ j, v.ownBlock = some j → w.heap.size ≤ j)
    (fun env _ => 4 - natAt env 3) ?_ ?_
  · exact ⟨Kept.refl _ _, 0, _, by simp, by omega, .inl ⟨rfl, rfl⟩, fun j hj => by simp [Value.ownBlock] at hj⟩
  · rintro env w1 ⟨hk, i, v, rfl, hi, hB, hown⟩
    have hvar := hB.var
    by_cases hi2 : i < 4
    · simp
      refine W_yes (by simp; omega) ?_
      have e2 : IntKind.i64.wrap ((i : Int) + 1) = ((i + 1 : Nat) : Int) := i64w (by omega) (by omega)
      have e3 : IntKind.i64.wrap (8 * (i : Int)) = 8 * (i : Int) := i64w (by omega) (by omega)
      have e4 := lit_byte n hn i hi2
      simp [hvar, e3]
      rw [intBin_shr _ _ _ _ (by omega)]
      simp [e4]
      have hp := hp_new w1 (.cells #[.int .u8 (lit4 n i)] 5)
      have hk1 : Kept none' w1 (w1.alloc (.cells #[.int .u8 (lit4 n i)] 5)) := (Kept.refl _ _).alloc _
      have hB1 := hB.keep hk1 (fun _ _ h => h)
      have hs1 : (w1.alloc (.cells #[.int .u8 (lit4 n i)] 5)).heap.size = w1.heap.size + 1 := by simp
      have hsz := hk.size
      generalize w1.alloc (.cells #[.int .u8 (lit4 n i)] 5) = w2 at hp hk1 hB1 hs1 ⊢
      have hkk := hk.trans hk1
      obtain ⟨v', w3, hr, hB3, hk3, ho3⟩ := bys_append (sb := w1.heap.size) (so := 0) (c := 1) (m := [lit4 n i]) hB1 (by simp; omega) (fun j x hj => by
        have hj0 : j = 0 := by have := (List.getElem?_eq_some_iff.1 hj).1; simp at this; omega
        subst hj0
        simp at hj
        subst hj
        rw [wcell_of hp]; rfl)
      have hv3 := hB3.var
      refine W_bi (by simp [hvar]) hr (stab_nil _ _ _) ?_
      simp [hv3]
      refine ⟨⟨hkk.then hk3 (fun j hj ho => by have := hown j ho; omega), i + 1, v', ⟨rfl, e2⟩, by omega, ?_, ?_⟩, by simp [natAt, e2]; omega⟩
      · rw [List.range_succ, List.map_append]; exact hB3
      · intro j hj
        rcases ho3 with q | q
        · rw [q] at hj; exact hown j hj
        · rw [q] at hj; simp at hj; omega
    · have hi4 : i = 4 := by omega
      subst hi4
      simp
      refine W_no (by simp) ?_
      obtain ⟨g, cap, rfl, hcap, ho, hby⟩ := hB.form (by simp)
      simp
      refine ⟨hk, hown g ho, fun j hj => ?_⟩
      refine hby j (lit4 n j) ?_
      simp [hj]

/-- The new map, with its first i entries. -/
structure ArrM (w0 w : World) (b : Nat) (vs n i : Nat) (M : BMap) : Prop where
  mp : Mp w0 w b M
  ty : M.ty = 0
  ks : M.ks = 4
  vs : M.vs = vs
  cap : M.cap = n
  fr : M.frozen = false
  clock : M.clock = 0
  len : M.l.length = i
  ent : ∀ (j : Nat) (e : BEnt), M.l[j]? = some e → e.key = key4 (lit4 j) ∧ e.val = fun _ => 0

theorem ArrM.calm {w0 w w' : World} {b vs n i : Nat} {M : BMap} (h : ArrM w0 w b vs n i M) (hk : Kept none' w w') : ArrM w0 w' b vs n i M :=
  ⟨h.mp.calm hk, h.ty, h.ks, h.vs, h.cap, h.fr, h.clock, h.len, h.ent⟩

/-- An entry is put behind the others (the end of a round of New). -/
theorem ArrM.push {w0 w w9 : World} {b vs n i cb vb : Nat} {M : BMap} {L' : Value} {p : Nat} (h : ArrM w0 w b vs n i M) (hi : i < 100)
    (hE : EntAt w M.vs ⟨p, cb, vb, key4 (lit4 i), 0, fun _ => 0⟩) (hf : ∀ j, M.own b j → j ≠ p ∧ j ≠ cb ∧ j ≠ vb) (hlow : w0.heap.size ≤ p ∧ w0.heap.size ≤ cb ∧ w0.heap.size ≤ vb) (hr : RowAt w9 L' (M.l ++ [⟨p, cb, vb, key4 (lit4 i), 0, fun _ => 0⟩])) (hk : Kept (fun j => M.L.ownBlock = some j) w w9)
    (ho : L'.ownBlock = M.L.ownBlock ∨ L'.ownBlock = some w.heap.size) :
    stv w9 1 (.pointer (some ⟨b, 4, none⟩)) L' = some (put w9 b (.cells { M with L := L' }.cells 56 (0, 0))) ∧ ArrM w0 (put w9 b (.cells { M with L := L' }.cells 56 (0, 0))) b vs n (i + 1) { M with L := L', l := M.l ++ [⟨p, cb, vb, key4 (lit4 i), 0, fun _ => 0⟩] } := by
  have hm := h.mp.map
  have hb9 := hk.has hm.blk (by
    intro ho
    rcases hm.row with ⟨hL, _⟩ | ⟨g, cap, cur, hL, hg, _⟩
    · rw [hL] at ho; simp [Value.ownBlock] at ho
    · rw [hL] at ho
      simp [Value.ownBlock] at ho
      subst ho
      exact heap_ne hg hm.blk (by decide) rfl)
  refine ⟨store_L hb9 hr.one hr.cellsL, ?_⟩
  have hk10 : Kept (fun j => j = b ∨ M.L.ownBlock = some j) w (put w9 b (.cells { M with L := L' }.cells 56 (0, 0))) := (hk.mono fun _ _ h => .inr h).put (fun _ => .inl rfl) _
  have hr10 : RowAt (put w9 b (.cells { M with L := L' }.cells 56 (0, 0))) L' (M.l ++ [⟨p, cb, vb, key4 (lit4 i), 0, fun _ => 0⟩]) := by
    refine hr.keep (S := fun j => j = b) ((Kept.refl (fun j => j = b) _).put (b := b) (fun _ => rfl) _) ?_
    rintro j hj rfl
    rcases hr with ⟨hL, _⟩ | ⟨g, cap, cur, hL, hg, _⟩
    · rw [hL] at hj; simp [Value.ownBlock] at hj
    · rw [hL] at hj
      simp [Value.ownBlock] at hj
      subst hj
      exact heap_ne hg hb9 (by decide) rfl
  have hlen := h.len
  have hm10 := hm.push (L' := L') hE hf (put_same (blk_lt hb9)) hr10 hk10 (by omega)
  have hk10' : Kept (M.own b) w (put w9 b (.cells { M with L := L' }.cells 56 (0, 0))) := hk10.mono fun j _ hj => by
    rcases hj with hj | hj
    · exact .inl hj
    · exact .inr (.inl hj)
  refine ⟨⟨h.mp.kept.then hk10' (fun j hj ho => by have := h.mp.low j ho; omega), hm10, ?_⟩, h.ty, h.ks, h.vs, h.cap, h.fr, h.clock, by simp [hlen], ?_⟩
  · rintro j (hj | hj | ⟨a, ha, hj⟩)
    · exact h.mp.low j (.inl hj)
    · rcases ho with q | q
      · exact h.mp.low j (.inr (.inl (by rw [← q]; exact hj)))
      · simp only at hj
        rw [q] at hj
        simp at hj
        have := h.mp.kept.size
        omega
    · rcases List.mem_append.1 ha with ha | ha
      · exact h.mp.low j (.inr (.inr ⟨a, ha, hj⟩))
      · simp at ha
        subst ha
        rcases hj with rfl | rfl | rfl
        · exact hlow.1
        · exact hlow.2.1
        · exact hlow.2.2
  · intro j e hj
    by_cases hjl : j < M.l.length
    · rw [List.getElem?_append_left hjl] at hj
      exact h.ent j e hj
    · rw [List.getElem?_append_right (by omega)] at hj
      have hj0 : j - M.l.length = 0 := by have := (List.getElem?_eq_some_iff.1 hj).1; simp at this; omega
      rw [hj0] at hj
      simp at hj
      subst hj
      have : j = i := by omega
      subst this
      exact ⟨rfl, rfl⟩

theorem list_bstr4 {w : World} {b o c : Nat} {n : Nat} (hn : n < 256) (h : ∀ j, j < 4 → wcell w b (o + j) = some (.int .u8 (lit4 n j))) : bstrv w (.slice (some ⟨b, o, none⟩) 4 c) = some (.string (key4 (lit4 n))) := by
  obtain ⟨b', o', c', e1, e2, _⟩ := keyAt4 (c := c) (x := lit4 n) (fun j => by unfold lit4; split <;> omega) h
  exact e2

theorem own_not {w : World} {b j : Nat} {M : BMap} {c : Array Value} {T : TypeId} {f : Nat × Nat} (h : MapAt w b M) (hj : w.heap[j]? = some (.cells c T f)) (h1 : T ≠ 56) (h2 : T ≠ 57) (h3 : T ≠ 62) (h4 : T ≠ 60) (h5 : T ≠ 5) : ¬ M.own b j := by
  rintro (rfl | ho | ⟨e, he, rfl | rfl | rfl⟩)
  · exact heap_ne hj h.blk h1 rfl
  · rcases h.row with ⟨hL, _⟩ | ⟨g, cap, cur, hL, hg, _⟩
    · rw [hL] at ho; simp [Value.ownBlock] at ho
    · rw [hL] at ho
      simp [Value.ownBlock] at ho
      subst ho
      exact heap_ne hj hg h2 rfl
  · exact heap_ne hj (h.ents e he).ent h3 rfl
  · obtain ⟨c, _, hc⟩ := (h.ents e he).cell
    exact heap_ne hj hc h4 rfl
  · obtain ⟨c, hc, _⟩ := (h.ents e he).val
    exact heap_ne hj hc h5 rfl

theorem ent_made {w : World} {V p cb vb : Nat} {k : ByteArray} (h1 : w.heap[p]? = some (.cells #[.string k, .pointer (some ⟨cb, 0, none⟩), .int .i64 0] 62 (0, 0))) (h2 : w.heap[cb]? = some (.cells #[.slice (some ⟨vb, 0, none⟩) V V] 60 (0, 0)))
    (h3 : w.heap[vb]? = some (.cells (madeCells #[.int .u8 0] V) 5 (0, 0))) : EntAt w V ⟨p, cb, vb, k, 0, fun _ => 0⟩ :=
  ⟨h1, ⟨V, Nat.le_refl _, h2⟩, ⟨_, h3, by rw [size_madeCells]; exact Nat.le_refl _, fun j hj => made_get V j hj⟩, fun _ => by simp⟩

/-- The end of a round of New: the entry is put behind the others. -/
theorem arr_end_W {R : Eng.Env → World → Prop} {ks : List It} {w0 w w8 : World} {b vs n i cb vb p rp sp : Nat} {M : BMap} {so : Obj} {y3 y10 y11 y12 y13 y14 y15 y16 y19 : Value} (hA : ArrM w0 w b vs n i M) (hk : Kept none' w w8) (hi : i < 100)
    (h1 : w8.heap[p]? = some (.cells #[.string (key4 (lit4 i)), .pointer (some ⟨cb, 0, none⟩), .int .i64 0] 62 (0, 0))) (h2 : w8.heap[cb]? = some (.cells #[.slice (some ⟨vb, 0, none⟩) vs vs] 60 (0, 0)))
    (h3 : w8.heap[vb]? = some (.cells (madeCells #[.int .u8 0] vs) 5 (0, 0))) (h4 : w8.heap[rp]? = some (.cells #[.pointer (some ⟨p, 0, none⟩)] 57 (0, 0))) (hf : w.heap.size ≤ p ∧ w.heap.size ≤ cb ∧ w.heap.size ≤ vb)
    (hsp : w.heap[sp]? = some so) (hsn : ¬ M.own b sp)
    (h : ∀ (w' : World) (M' : BMap) (y19 : Value), ArrM w0 w' b vs n (i + 1) M' → w'.heap[sp]? = some so → W Try.prog R ks [undef, undef, undef, y3, undef, undef, undef, .pointer (some ⟨b, 0, none⟩), .int .i64 i, .int .i64 n, y10, y11, y12, y13, y14, y15, y16, .slice (some ⟨rp, 0, none⟩) 1 1, M.L, y19] w') :
    W Try.prog R (.c (.bi (some 19) .append [54, 54] 54 [(.var 18), (.var 17)] []) :: .c (.store 1 (.offp 4 (.nn (.var 7))) (.var 19) []) :: ks)
      [undef, undef, undef, y3, undef, undef, undef, .pointer (some ⟨b, 0, none⟩), .int .i64 i, .int .i64 n, y10, y11, y12, y13, y14, y15, y16, .slice (some ⟨rp, 0, none⟩) 1 1, M.L, y19] w8 := by
  have hA8 := hA.calm hk
  have hm8 := hA8.mp.map
  have hlen := hA.len
  have hvar := hm8.row.var
  have hown : ∀ j, M.own b j → j < w.heap.size := fun j hj => hA.mp.lt hj
  have hlow := hA.mp.kept.size
  obtain ⟨L', w9, hrun, hr9, hk9, ho9⟩ := row_append (a := ⟨p, cb, vb, key4 (lit4 i), 0, fun _ => 0⟩) hm8.row (by omega) h4
  refine W_bi (by simp [hvar]) hrun (stab_nil _ _ _) ?_
  have hE : EntAt w8 M.vs ⟨p, cb, vb, key4 (lit4 i), 0, fun _ => 0⟩ := by rw [hA.vs]; exact ent_made h1 h2 h3
  obtain ⟨hst, hA10⟩ := hA8.push hi hE (fun j hj => by have := hown j hj; omega) ⟨by omega, by omega, by omega⟩ hr9 hk9 ho9
  have hvv := hr9.var
  refine W_store (by simp) (by simp [hvv]) hst (stab_nil _ _ _) ?_
  refine h _ _ _ hA10 ?_
  have hk10 : Kept (fun j => j = b ∨ M.L.ownBlock = some j) w8 (put w9 b (.cells { M with L := L' }.cells 56 (0, 0))) := (hk9.mono fun _ _ h => .inr h).put (fun _ => .inl rfl) _
  refine hk10.has (hk.has hsp (fun h => h)) ?_
  rintro (q | q)
  · exact hsn (.inl q)
  · exact hsn (.inr (.inl q))

set_option maxHeartbeats 8000000 in
theorem newarr_ret (vs n : Nat) (w : World) (hvs : 1 ≤ vs ∧ vs ≤ 64) (hn : 1 ≤ n ∧ n ≤ 64) : Ret Try.prog 4 [.agg #[.int .i64 0, .int .i64 4, .int .i64 vs, .int .i64 n]] w
    fun v w' => ∃ b M, v = .tuple #[.pointer (some ⟨b, 0, none⟩), .int .i64 0] ∧ ArrM w w' b vs n n M := by
  refine ret_of_W Try.func4 rfl ok_bmap_New ?_
  simp [c_bmap_New]
  have hb := hp_new w (.cells #[.int .i64 0, .int .i64 4, .int .i64 vs, .int .i64 n] 29)
  have hk : Kept none' w (w.alloc (.cells #[.int .i64 0, .int .i64 4, .int .i64 vs, .int .i64 n] 29)) := (Kept.refl _ _).alloc _
  generalize w.alloc (.cells #[.int .i64 0, .int .i64 4, .int .i64 vs, .int .i64 n] 29) = w1 at hb hk ⊢
  have hrow : ∀ w', w'.heap[w.heap.size]? = some (.cells #[.int .i64 0, .int .i64 4, .int .i64 vs, .int .i64 n] 29 (0, 0)) → wrow w' w.heap.size 0 4 = some #[.int .i64 0, .int .i64 4, .int .i64 vs, .int .i64 n] := by
    intro w' h'
    rw [wrow_of h' (by simp)]
    simp
  refine W_call0 (by simp [hrow _ hb]) (check_ret 0 4 vs n w1 (by unfold specOk; omega)) ?_
  rintro v w2 ⟨rfl, hk2⟩
  have hb2 := hk2.has hb (fun h => h)
  simp
  refine W_no (by simp) ?_
  simp [hrow _ hb2]
  have hbm := hp_new w2 (.cells (newM 0 4 vs n).cells 56)
  have hb3 := hp_old hb2 (.cells (newM 0 4 vs n).cells 56)
  have hk3 := (hk.trans hk2).alloc (.cells (newM 0 4 vs n).cells 56)
  have hs := (hk.trans hk2).size
  have hcells : (newM 0 4 vs n).cells = #[.int .i64 0, .int .i64 4, .int .i64 vs, .int .i64 n, .slice none 0 0, .bool false, .int .i64 0] := rfl
  rw [hcells] at hbm hb3 hk3
  generalize w2.alloc (.cells #[.int .i64 0, .int .i64 4, .int .i64 vs, .int .i64 n, .slice none 0 0, .bool false, .int .i64 0] 56) = w3 at hbm hb3 hk3 ⊢
  generalize w2.heap.size = b at *
  have hA0 : ArrM w w3 b vs n 0 (newM 0 4 vs n) := ⟨⟨hk3, ⟨hbm, .inl ⟨rfl, rfl⟩, fun e he => by simp [newM] at he, by simp [newM], by simp [newM], by simp [newM]⟩, fun j hj => by
    rcases hj with rfl | hj | ⟨e, he, _⟩
    · exact hs
    · simp [newM, Value.ownBlock] at hj
    · simp [newM] at he⟩, rfl, rfl, rfl, rfl, rfl, rfl, rfl, fun j e hj => by simp [newM] at hj⟩
  generalize newM 0 4 vs n = M0 at hA0
  have hpb : w.heap.size ≠ b := heap_ne hb3 hA0.mp.map.blk (by decide)
  generalize hsp : w.heap.size = sp at *
  refine W_yes (by simp [wcell_of hb3]) ?_
  simp [wcell_of hb3]
  refine W_loop (fun env w' => ∃ (i : Nat) (M : BMap), env = [undef, undef, undef, .pointer (some ⟨sp, 0, none⟩), undef, undef, undef, .pointer (some ⟨b, 0, none⟩), .int .i64 i, .int .i64 n, undef, undef, undef, undef, undef, undef, undef, undef, undef, undef] ∧ i ≤ n ∧ ArrM w w' b vs n i M ∧
      w'.heap[sp]? = some (.cells #[.int .i64 0, .int .i64 4, .int .i64 vs, .int .i64 n] 29 (0, 0))) (fun env _ => n - natAt env 8) ?_ ?_
  · exact ⟨0, M0, by simp, by omega, hA0, hb3⟩
  rintro env w4 ⟨i, M, rfl, hi, hA, hb4⟩
  by_cases hi2 : i < n
  · simp
    refine W_yes (by simp; omega) ?_
    have hAd := hA.calm (Kept.refl none' w4).drew
    have hbd : w4.drew.heap[sp]? = _ := hb4
    have e2 : IntKind.i64.wrap ((i : Int) + 1) = ((i + 1 : Nat) : Int) := i64w (by omega) (by omega)
    have hvar := hA.mp.map.row.var
    have hblk := hA.mp.map.blk
    simp [wcell_of hblk, BMap.cells, hvar, wcell_of hb4]
    generalize w4.drew = w5 at hAd hbd ⊢
    have hm5 := hAd.mp.map
    have hown5 : ∀ j, M.own b j → j < w5.heap.size := fun j hj => hAd.mp.lt hj
    have hs5 := hAd.mp.kept.size
    rw [hsp] at hs5
    have hlen := hA.len
    have stab : ∀ (env : Eng.Env) (w w' : World) (st : List Ex), (∀ e ∈ st, e = .ld none (.offp 2 (.var 3)) ∨ e = .ld none (.offp 4 (.nn (.var 7)))) → env[3]? = some (.pointer (some ⟨sp, 0, none⟩)) → env[7]? = some (.pointer (some ⟨b, 0, none⟩)) →
        w'.heap[sp]? = w.heap[sp]? → w'.heap[b]? = w.heap[b]? → Stab st env w w' := by
      intro env w w' st hst h3 h7 hsp' hb' e he v hv
      rcases hst e he with rfl | rfl
      · simp [h3, wcell] at hv ⊢
        rw [hsp']; exact hv
      · simp [h7, wcell] at hv ⊢
        rw [hb']; exact hv
    have hsn : ¬ M.own b sp := own_not hm5 hbd (by decide) (by decide) (by decide) (by decide) (by decide)
    rw [W_alt]
    refine ⟨?_, ?_⟩
    · simp
      refine W_call (by simp) (little4_ret i (by omega) w5) ?_
      rintro v w6 ⟨hk6, g, cap, rfl, hg, hby⟩
      refine ⟨stab _ _ _ _ (by simp) rfl rfl (hk6.block sp (blk_lt hbd) (fun h => h)) (hk6.block b (blk_lt hm5.blk) (fun h => h)), ?_⟩
      have hbs := list_bstr4 (c := cap) (o := 0) (n := i) (by omega) (fun j hj => by rw [Nat.zero_add]; exact hby j hj)
      have hA6 := hAd.calm hk6
      have hb6 := hk6.has hbd (fun h => h)
      have hbk6 := hA6.mp.map.blk
      have hgl := wcell_lt (hby 0 (by omega))
      have hs6 := hk6.size
      simp [hbs]
      refine W_sem (by simp) (run_mkb vs (by omega) w6) ?_ ?_
      · intro e he v hv
        simp at he
        rcases he with rfl | rfl
        · have hbs' := list_bstr4 (c := cap) (o := 0) (n := i) (w := w6.alloc (.cells (madeCells #[.int .u8 0] vs) 5)) (by omega) (fun j hj => by rw [Nat.zero_add]; exact wcell_kept ((Kept.refl none' w6).alloc _) (fun h => h) (hby j hj))
          simp [hbs] at hv
          simp [hbs']
          exact hv
        · have hb7 := hp_old hbk6 (.cells (madeCells #[.int .u8 0] vs) 5)
          simp [wcell_of hbk6, BMap.cells] at hv
          simp [wcell_of hb7, BMap.cells]
          exact hv
      simp
      have f3 := hp_new w6 (.cells (madeCells #[.int .u8 0] vs) 5)
      have k3 : Kept none' w6 (w6.alloc (.cells (madeCells #[.int .u8 0] vs) 5)) := (Kept.refl _ _).alloc _
      have z3 : (w6.alloc (.cells (madeCells #[.int .u8 0] vs) 5)).heap.size = w6.heap.size + 1 := by simp
      generalize w6.alloc (.cells (madeCells #[.int .u8 0] vs) 5) = w7 at f3 k3 z3 ⊢
      have f2 := hp_new w7 (.cells #[.slice (some ⟨w6.heap.size, 0, none⟩) vs vs] 60)
      have k2 : Kept none' w7 (w7.alloc (.cells #[.slice (some ⟨w6.heap.size, 0, none⟩) vs vs] 60)) := (Kept.refl _ _).alloc _
      have z2 : (w7.alloc (.cells #[.slice (some ⟨w6.heap.size, 0, none⟩) vs vs] 60)).heap.size = w7.heap.size + 1 := by simp
      generalize w7.alloc (.cells #[.slice (some ⟨w6.heap.size, 0, none⟩) vs vs] 60) = w8 at f2 k2 z2 ⊢
      have f1 := hp_new w8 (.cells #[.string (key4 (lit4 i)), .pointer (some ⟨w6.heap.size + 1, 0, none⟩), .int .i64 0] 62)
      have k1 : Kept none' w8 (w8.alloc (.cells #[.string (key4 (lit4 i)), .pointer (some ⟨w6.heap.size + 1, 0, none⟩), .int .i64 0] 62)) := (Kept.refl _ _).alloc _
      have z1 : (w8.alloc (.cells #[.string (key4 (lit4 i)), .pointer (some ⟨w6.heap.size + 1, 0, none⟩), .int .i64 0] 62)).heap.size = w8.heap.size + 1 := by simp
      generalize w8.alloc (.cells #[.string (key4 (lit4 i)), .pointer (some ⟨w6.heap.size + 1, 0, none⟩), .int .i64 0] 62) = w9 at f1 k1 z1 ⊢
      have f4 := hp_new w9 (.cells #[.pointer (some ⟨w6.heap.size + 1 + 1, 0, none⟩)] 57)
      have k4 : Kept none' w9 (w9.alloc (.cells #[.pointer (some ⟨w6.heap.size + 1 + 1, 0, none⟩)] 57)) := (Kept.refl _ _).alloc _
      generalize w9.alloc (.cells #[.pointer (some ⟨w6.heap.size + 1 + 1, 0, none⟩)] 57) = w10 at f4 k4 ⊢
      have hK : Kept none' w5 w10 := ((((hk6.trans k3).trans k2).trans k1).trans k4)
      refine arr_end_W (p := w6.heap.size + 1 + 1) (cb := w6.heap.size + 1) (vb := w6.heap.size) hAd hK (by omega) (k4.has (by rw [show w6.heap.size + 1 + 1 = w8.heap.size by omega]; exact f1) (fun h => h)) ((k1.trans k4).has (by rw [show w6.heap.size + 1 = w7.heap.size by omega]; exact f2) (fun h => h)) (((k2.trans k1).trans k4).has f3 (fun h => h)) (by rw [show w6.heap.size + 1 + 1 + 1 = w9.heap.size by omega]; exact f4) ⟨by omega, by omega, by omega⟩ hbd hsn ?_
      intro w' M' y19 hA' hsp'
      simp
      exact ⟨⟨i + 1, e2, by omega, ⟨M', hA'⟩, hsp'⟩, by simp [natAt, e2]; omega⟩
    · simp
      refine W_sem (by simp) (run_mkb vs (by omega) w5) ?_ ?_
      · intro e he v hv
        simp at he
        rcases he with rfl | rfl
        · have hb7 := hp_old hbd (.cells (madeCells #[.int .u8 0] vs) 5)
          simp [wcell_of hbd] at hv
          simp [wcell_of hb7]
          exact hv
        · have hb7 := hp_old hm5.blk (.cells (madeCells #[.int .u8 0] vs) 5)
          simp [wcell_of hm5.blk, BMap.cells] at hv
          simp [wcell_of hb7, BMap.cells]
          exact hv
      have f3 := hp_new w5 (.cells (madeCells #[.int .u8 0] vs) 5)
      have k3 : Kept none' w5 (w5.alloc (.cells (madeCells #[.int .u8 0] vs) 5)) := (Kept.refl _ _).alloc _
      have z3 : (w5.alloc (.cells (madeCells #[.int .u8 0] vs) 5)).heap.size = w5.heap.size + 1 := by simp
      generalize w5.alloc (.cells (madeCells #[.int .u8 0] vs) 5) = w6 at f3 k3 z3 ⊢
      simp
      rw [W_alt]
      refine ⟨?_, ?_⟩
      · simp
        refine W_call (by simp) (little4_ret i (by omega) w6) ?_
        rintro v w7 ⟨hk6, g, cap, rfl, hg, hby⟩
        refine ⟨stab _ _ _ _ (by simp) rfl rfl (hk6.block sp (blk_lt (k3.has hbd (fun h => h))) (fun h => h)) (hk6.block b (blk_lt (k3.has hm5.blk (fun h => h))) (fun h => h)), ?_⟩
        have hbs := list_bstr4 (c := cap) (o := 0) (n := i) (by omega) (fun j hj => by rw [Nat.zero_add]; exact hby j hj)
        have hs6 := hk6.size
        simp [hbs]
        have f2 := hp_new w7 (.cells #[.slice (some ⟨w5.heap.size, 0, none⟩) vs vs] 60)
        have k2 : Kept none' w7 (w7.alloc (.cells #[.slice (some ⟨w5.heap.size, 0, none⟩) vs vs] 60)) := (Kept.refl _ _).alloc _
        have z2 : (w7.alloc (.cells #[.slice (some ⟨w5.heap.size, 0, none⟩) vs vs] 60)).heap.size = w7.heap.size + 1 := by simp
        generalize w7.alloc (.cells #[.slice (some ⟨w5.heap.size, 0, none⟩) vs vs] 60) = w8 at f2 k2 z2 ⊢
        have f1 := hp_new w8 (.cells #[.string (key4 (lit4 i)), .pointer (some ⟨w7.heap.size, 0, none⟩), .int .i64 0] 62)
        have k1 : Kept none' w8 (w8.alloc (.cells #[.string (key4 (lit4 i)), .pointer (some ⟨w7.heap.size, 0, none⟩), .int .i64 0] 62)) := (Kept.refl _ _).alloc _
        have z1 : (w8.alloc (.cells #[.string (key4 (lit4 i)), .pointer (some ⟨w7.heap.size, 0, none⟩), .int .i64 0] 62)).heap.size = w8.heap.size + 1 := by simp
        generalize w8.alloc (.cells #[.string (key4 (lit4 i)), .pointer (some ⟨w7.heap.size, 0, none⟩), .int .i64 0] 62) = w9 at f1 k1 z1 ⊢
        have f4 := hp_new w9 (.cells #[.pointer (some ⟨w7.heap.size + 1, 0, none⟩)] 57)
        have k4 : Kept none' w9 (w9.alloc (.cells #[.pointer (some ⟨w7.heap.size + 1, 0, none⟩)] 57)) := (Kept.refl _ _).alloc _
        generalize w9.alloc (.cells #[.pointer (some ⟨w7.heap.size + 1, 0, none⟩)] 57) = w10 at f4 k4 ⊢
        have hK : Kept none' w5 w10 := ((((k3.trans hk6).trans k2).trans k1).trans k4)
        refine arr_end_W (p := w7.heap.size + 1) (cb := w7.heap.size) (vb := w5.heap.size) hAd hK (by omega) (k4.has (by rw [show w7.heap.size + 1 = w8.heap.size by omega]; exact f1) (fun h => h)) ((k1.trans k4).has f2 (fun h => h)) ((((hk6.trans k2).trans k1).trans k4).has f3 (fun h => h)) (by rw [show w7.heap.size + 1 + 1 = w9.heap.size by omega]; exact f4) ⟨by omega, by omega, by omega⟩ hbd hsn ?_
        intro w' M' y19 hA' hsp'
        simp
        exact ⟨⟨i + 1, e2, by omega, ⟨M', hA'⟩, hsp'⟩, by simp [natAt, e2]; omega⟩
      · simp
        have f2 := hp_new w6 (.cells #[.slice (some ⟨w5.heap.size, 0, none⟩) vs vs] 60)
        have k2 : Kept none' w6 (w6.alloc (.cells #[.slice (some ⟨w5.heap.size, 0, none⟩) vs vs] 60)) := (Kept.refl _ _).alloc _
        have z2 : (w6.alloc (.cells #[.slice (some ⟨w5.heap.size, 0, none⟩) vs vs] 60)).heap.size = w6.heap.size + 1 := by simp
        generalize w6.alloc (.cells #[.slice (some ⟨w5.heap.size, 0, none⟩) vs vs] 60) = w7 at f2 k2 z2 ⊢
        refine W_call (by simp) (little4_ret i (by omega) w7) ?_
        rintro v w8 ⟨hk6, g, cap, rfl, hg, hby⟩
        refine ⟨stab _ _ _ _ (by simp) rfl rfl (hk6.block sp (blk_lt ((k3.trans k2).has hbd (fun h => h))) (fun h => h)) (hk6.block b (blk_lt ((k3.trans k2).has hm5.blk (fun h => h))) (fun h => h)), ?_⟩
        have hbs := list_bstr4 (c := cap) (o := 0) (n := i) (by omega) (fun j hj => by rw [Nat.zero_add]; exact hby j hj)
        have hs6 := hk6.size
        simp [hbs]
        have f1 := hp_new w8 (.cells #[.string (key4 (lit4 i)), .pointer (some ⟨w6.heap.size, 0, none⟩), .int .i64 0] 62)
        have k1 : Kept none' w8 (w8.alloc (.cells #[.string (key4 (lit4 i)), .pointer (some ⟨w6.heap.size, 0, none⟩), .int .i64 0] 62)) := (Kept.refl _ _).alloc _
        have z1 : (w8.alloc (.cells #[.string (key4 (lit4 i)), .pointer (some ⟨w6.heap.size, 0, none⟩), .int .i64 0] 62)).heap.size = w8.heap.size + 1 := by simp
        generalize w8.alloc (.cells #[.string (key4 (lit4 i)), .pointer (some ⟨w6.heap.size, 0, none⟩), .int .i64 0] 62) = w9 at f1 k1 z1 ⊢
        have f4 := hp_new w9 (.cells #[.pointer (some ⟨w8.heap.size, 0, none⟩)] 57)
        have k4 : Kept none' w9 (w9.alloc (.cells #[.pointer (some ⟨w8.heap.size, 0, none⟩)] 57)) := (Kept.refl _ _).alloc _
        generalize w9.alloc (.cells #[.pointer (some ⟨w8.heap.size, 0, none⟩)] 57) = w10 at f4 k4 ⊢
        have hK : Kept none' w5 w10 := ((((k3.trans k2).trans hk6).trans k1).trans k4)
        refine arr_end_W (p := w8.heap.size) (cb := w6.heap.size) (vb := w5.heap.size) hAd hK (by omega) (k4.has f1 (fun h => h)) (((hk6.trans k1).trans k4).has f2 (fun h => h)) ((((k2.trans hk6).trans k1).trans k4).has f3 (fun h => h)) (by rw [show w8.heap.size + 1 = w9.heap.size by omega]; exact f4) ⟨by omega, by omega, by omega⟩ hbd hsn ?_
        intro w' M' y19 hA' hsp'
        simp
        exact ⟨⟨i + 1, e2, by omega, ⟨M', hA'⟩, hsp'⟩, by simp [natAt, e2]; omega⟩
  · simp
    refine W_no (by simp; omega) ?_
    have hin : i = n := by omega
    subst hin
    simp
    exact ⟨M, hA⟩
end Go.Proofs.Ythfchnaocbkofaa
