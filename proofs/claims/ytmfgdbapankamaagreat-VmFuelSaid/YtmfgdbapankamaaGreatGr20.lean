/- Layer 9, part O: New of an Array. -/
import Derived.Test.YtmfgdbapankamaaGreatGr19
set_option linter.unusedSimpArgs false
set_option linter.unusedVariables false
set_option maxRecDepth 8000
namespace Go.Proofs.YtmfgdbapankamaaGreat
open Go.Eng
def lit4 (n j : Nat) : Nat := if j = 0 then n else 0
theorem lit_byte (n : Nat) (hn : n < 256) (i : Nat) (hi : i < 4) : IntKind.u8.wrap ((n : Int).fdiv (2 ^ min (8 * (i : Int)).toNat IntKind.i64.bits)) = ((lit4 n i : Nat) : Int) := by
  have e5 : min (8 * (i : Int)).toNat IntKind.i64.bits = 8 * i := by
    have : IntKind.i64.bits = 64 := rfl
    omega
  have hp : (0 : Int) ≤ 256 ^ i := Int.le_of_lt (Int.pow_pos (by omega))
  rw [e5, pow_256, IntKind.wrap_u8, Int.fdiv_eq_ediv_of_nonneg _ hp]
  unfold lit4
  have : i = 0 ∨ i = 1 ∨ i = 2 ∨ i = 3 := by omega
  rcases this with rfl | rfl | rfl | rfl <;> simp <;> omega
theorem little4_ret (n : Nat) (hn : n < 256) (w : World) : Ret Tryz.prog 19 [.int .i64 n] w fun v w' => Kept none' w w' ∧ ∃ g cap, v = .slice (some ⟨g, 0, none⟩) 4 cap ∧ w.heap.size ≤ g ∧ ∀ j, j < 4 → wcell w' g j = some (.int .u8 (lit4 n j)) := by
  refine ret_of_W Tryz.func19 rfl ok_bmap_little ?_
  simp [c_bmap_little]
  refine W_loop (fun env w' => Kept none' w w' ∧ ∃ (i : Nat) (v : Value), env = [.int .i64 n, undef, v, .int .i64 i, undef, undef, undef] ∧ i ≤ 4 ∧ Bys w' v ((List.range i).map (lit4 n)) ∧ ∀ j, v.ownBlock = some j → w.heap.size ≤ j)
    (fun env _ => 4 - natAt env 3) ?_ ?_
  · exact ⟨Kept.refl _ _, 0, _, by simp, by omega, .inl ⟨rfl, rfl⟩, fun j hj => by simp [Value.ownBlock] at hj⟩
  · rintro env w1 ⟨hk, i, v, rfl, hi, hB, hown⟩
    have hvar := hB.var
    by_cases hi2 : i < 4
    · simp
      refine W_yes (by simp; omega) ?_
      have e2 : IntKind.i64.wrap ((i : Int) + 1) = ((i + 1 : Nat) : Int) := i64w (by omega) (by omega)
      have e3 : IntKind.i64.wrap (8 * (i : Int)) = 8 * (i : Int) := i64w (by omega) (by omega)
      have e4 := lit_byte n hn i hi2
      simp [hvar, e3]
      rw [intBin_shr _ _ _ _ (by omega)]
      simp [e4]
      have hp := hp_new w1 (.cells #[.int .u8 (lit4 n i)] 5)
      have hk1 : Kept none' w1 (w1.alloc (.cells #[.int .u8 (lit4 n i)] 5)) := (Kept.refl _ _).alloc _
      have hB1 := hB.keep hk1 (fun _ _ h => h)
      have hs1 : (w1.alloc (.cells #[.int .u8 (lit4 n i)] 5)).heap.size = w1.heap.size + 1 := by simp
      have hsz := hk.size
      generalize w1.alloc (.cells #[.int .u8 (lit4 n i)] 5) = w2 at hp hk1 hB1 hs1 ⊢
      have hkk := hk.trans hk1
      obtain ⟨v', w3, hr, hB3, hk3, ho3⟩ := bys_append (sb := w1.heap.size) (so := 0) (c := 1) (m := [lit4 n i]) hB1 (by simp; omega) (fun j x hj => by
        have hj0 : j = 0 := by have := (List.getElem?_eq_some_iff.1 hj).1; simp at this; omega
        subst hj0
        simp at hj
        subst hj
        rw [wcell_of hp]; rfl)
      have hv3 := hB3.var
      refine W_bi (by simp [hvar]) hr (stab_nil _ _ _) ?_
      simp [hv3]
      refine ⟨⟨hkk.then hk3 (fun j hj ho => by have := hown j ho; omega), i + 1, v', ⟨rfl, e2⟩, by omega, ?_, ?_⟩, by simp [natAt, e2]; omega⟩
      · rw [List.range_succ, List.map_append]; exact hB3
      · intro j hj
        rcases ho3 with q | q
        · rw [q] at hj; exact hown j hj
        · rw [q] at hj; simp at hj; omega
    · have hi4 : i = 4 := by omega
      subst hi4
      simp
      refine W_no (by simp) ?_
      obtain ⟨g, cap, rfl, hcap, ho, hby⟩ := hB.form (by simp)
      simp
      refine ⟨hk, hown g ho, fun j hj => ?_⟩
      refine hby j (lit4 n j) ?_
      simp [hj]
structure ArrM (w0 w : World) (b : Nat) (vs n i : Nat) (M : BMap) : Prop where
  mp : Mp w0 w b M
  ty : M.ty = 0
  ks : M.ks = 4
  vs : M.vs = vs
  cap : M.cap = n
  fr : M.frozen = false
  clock : M.clock = 0
  len : M.l.length = i
  ent : ∀ (j : Nat) (e : BEnt), M.l[j]? = some e → e.key = key4 (lit4 j) ∧ e.val = fun _ => 0
  zero : ∀ e ∈ M.l, e.used = 0
theorem ArrM.calm {w0 w w' : World} {b vs n i : Nat} {M : BMap} (h : ArrM w0 w b vs n i M) (hk : Kept none' w w') : ArrM w0 w' b vs n i M :=
  ⟨h.mp.calm hk, h.ty, h.ks, h.vs, h.cap, h.fr, h.clock, h.len, h.ent, h.zero⟩
theorem ArrM.push {w0 w w9 : World} {b vs n i cb vb : Nat} {M : BMap} {L' : Value} {p : Nat} (h : ArrM w0 w b vs n i M) (hi : i < 100)
    (hE : EntAt w M.vs ⟨p, cb, vb, key4 (lit4 i), 0, fun _ => 0⟩) (hf : ∀ j, M.own b j → j ≠ p ∧ j ≠ cb ∧ j ≠ vb) (hlow : w0.heap.size ≤ p ∧ w0.heap.size ≤ cb ∧ w0.heap.size ≤ vb) (hr : RowAt w9 L' (M.l ++ [⟨p, cb, vb, key4 (lit4 i), 0, fun _ => 0⟩])) (hk : Kept (fun j => M.L.ownBlock = some j) w w9)
    (ho : L'.ownBlock = M.L.ownBlock ∨ L'.ownBlock = some w.heap.size) :
    stv w9 1 (.pointer (some ⟨b, 4, none⟩)) L' = some (put w9 b (.cells { M with L := L' }.cells 78 (0, 0))) ∧ ArrM w0 (put w9 b (.cells { M with L := L' }.cells 78 (0, 0))) b vs n (i + 1) { M with L := L', l := M.l ++ [⟨p, cb, vb, key4 (lit4 i), 0, fun _ => 0⟩] } := by
  have hm := h.mp.map
  have hb9 := hk.has hm.blk (by
    intro ho
    rcases hm.row with ⟨hL, _⟩ | ⟨g, cap, cur, hL, hg, _⟩
    · rw [hL] at ho; simp [Value.ownBlock] at ho
    · rw [hL] at ho
      simp [Value.ownBlock] at ho
      subst ho
      exact heap_ne hg hm.blk (by decide) rfl)
  refine ⟨store_L hb9 hr.one hr.cellsL, ?_⟩
  have hk10 : Kept (fun j => j = b ∨ M.L.ownBlock = some j) w (put w9 b (.cells { M with L := L' }.cells 78 (0, 0))) := (hk.mono fun _ _ h => .inr h).put (fun _ => .inl rfl) _
  have hr10 : RowAt (put w9 b (.cells { M with L := L' }.cells 78 (0, 0))) L' (M.l ++ [⟨p, cb, vb, key4 (lit4 i), 0, fun _ => 0⟩]) := by
    refine hr.keep (S := fun j => j = b) ((Kept.refl (fun j => j = b) _).put (b := b) (fun _ => rfl) _) ?_
    rintro j hj rfl
    rcases hr with ⟨hL, _⟩ | ⟨g, cap, cur, hL, hg, _⟩
    · rw [hL] at hj; simp [Value.ownBlock] at hj
    · rw [hL] at hj
      simp [Value.ownBlock] at hj
      subst hj
      exact heap_ne hg hb9 (by decide) rfl
  have hlen := h.len
  have hm10 := hm.push (L' := L') hE hf (put_same (blk_lt hb9)) hr10 hk10 (by omega)
  have hk10' : Kept (M.own b) w (put w9 b (.cells { M with L := L' }.cells 78 (0, 0))) := hk10.mono fun j _ hj => by
    rcases hj with hj | hj
    · exact .inl hj
    · exact .inr (.inl hj)
  refine ⟨⟨h.mp.kept.then hk10' (fun j hj ho => by have := h.mp.low j ho; omega), hm10, ?_⟩, h.ty, h.ks, h.vs, h.cap, h.fr, h.clock, by simp [hlen], ?_, fun e he => by
    rcases List.mem_append.1 he with he | he
    · exact h.zero e he
    · cases List.mem_singleton.1 he; rfl⟩
  · rintro j (hj | hj | ⟨a, ha, hj⟩)
    · exact h.mp.low j (.inl hj)
    · rcases ho with q | q
      · exact h.mp.low j (.inr (.inl (by rw [← q]; exact hj)))
      · simp only at hj
        rw [q] at hj
        simp at hj
        have := h.mp.kept.size
        omega
    · rcases List.mem_append.1 ha with ha | ha
      · exact h.mp.low j (.inr (.inr ⟨a, ha, hj⟩))
      · simp at ha
        subst ha
        rcases hj with rfl | rfl | rfl
        · exact hlow.1
        · exact hlow.2.1
        · exact hlow.2.2
  · intro j e hj
    by_cases hjl : j < M.l.length
    · rw [List.getElem?_append_left hjl] at hj
      exact h.ent j e hj
    · rw [List.getElem?_append_right (by omega)] at hj
      have hj0 : j - M.l.length = 0 := by have := (List.getElem?_eq_some_iff.1 hj).1; simp at this; omega
      rw [hj0] at hj
      simp at hj
      subst hj
      have : j = i := by omega
      subst this
      exact ⟨rfl, rfl⟩
theorem list_bstr4 {w : World} {b o c : Nat} {n : Nat} (hn : n < 256) (h : ∀ j, j < 4 → wcell w b (o + j) = some (.int .u8 (lit4 n j))) : bstrv w (.slice (some ⟨b, o, none⟩) 4 c) = some (.string (key4 (lit4 n))) := by
  obtain ⟨b', o', c', e1, e2, _⟩ := keyAt4 (c := c) (x := lit4 n) (fun j => by unfold lit4; split <;> omega) h
  exact e2
theorem own_not {w : World} {b j : Nat} {M : BMap} {c : Array Value} {T : TypeId} {f : Nat × Nat} (h : MapAt w b M) (hj : w.heap[j]? = some (.cells c T f)) (h1 : T ≠ 78) (h2 : T ≠ 79) (h3 : T ≠ 84) (h4 : T ≠ 82) (h5 : T ≠ 5) : ¬ M.own b j := by
  rintro (rfl | ho | ⟨e, he, rfl | rfl | rfl⟩)
  · exact heap_ne hj h.blk h1 rfl
  · rcases h.row with ⟨hL, _⟩ | ⟨g, cap, cur, hL, hg, _⟩
    · rw [hL] at ho; simp [Value.ownBlock] at ho
    · rw [hL] at ho
      simp [Value.ownBlock] at ho
      subst ho
      exact heap_ne hj hg h2 rfl
  · exact heap_ne hj (h.ents e he).ent h3 rfl
  · obtain ⟨c, _, hc⟩ := (h.ents e he).cell
    exact heap_ne hj hc h4 rfl
  · obtain ⟨c, hc, _⟩ := (h.ents e he).val
    exact heap_ne hj hc h5 rfl
theorem ent_made {w : World} {V p cb vb : Nat} {k : ByteArray} (h1 : w.heap[p]? = some (.cells #[.string k, .pointer (some ⟨cb, 0, none⟩), .int .i64 0] 84 (0, 0))) (h2 : w.heap[cb]? = some (.cells #[.slice (some ⟨vb, 0, none⟩) V V] 82 (0, 0)))
    (h3 : w.heap[vb]? = some (.cells (madeCells #[.int .u8 0] V) 5 (0, 0))) : EntAt w V ⟨p, cb, vb, k, 0, fun _ => 0⟩ :=
  ⟨h1, ⟨V, Nat.le_refl _, h2⟩, ⟨_, h3, by rw [size_madeCells]; exact Nat.le_refl _, fun j hj => made_get V j hj⟩, fun _ => by simp⟩
theorem arr_end_W {R : Eng.Env → World → Prop} {ks : List It} {w0 w w8 : World} {b vs n i cb vb p rp sp : Nat} {M : BMap} {so : Obj} {y3 y10 y11 y12 y13 y14 y15 y16 y19 : Value} (hA : ArrM w0 w b vs n i M) (hk : Kept none' w w8) (hi : i < 100)
    (h1 : w8.heap[p]? = some (.cells #[.string (key4 (lit4 i)), .pointer (some ⟨cb, 0, none⟩), .int .i64 0] 84 (0, 0))) (h2 : w8.heap[cb]? = some (.cells #[.slice (some ⟨vb, 0, none⟩) vs vs] 82 (0, 0)))
    (h3 : w8.heap[vb]? = some (.cells (madeCells #[.int .u8 0] vs) 5 (0, 0))) (h4 : w8.heap[rp]? = some (.cells #[.pointer (some ⟨p, 0, none⟩)] 79 (0, 0))) (hf : w.heap.size ≤ p ∧ w.heap.size ≤ cb ∧ w.heap.size ≤ vb)
    (hsp : w.heap[sp]? = some so) (hsn : ¬ M.own b sp)
    (h : ∀ (w' : World) (M' : BMap) (y19 : Value), ArrM w0 w' b vs n (i + 1) M' → w'.heap[sp]? = some so → W Tryz.prog R ks [undef, undef, undef, y3, undef, undef, undef, .pointer (some ⟨b, 0, none⟩), .int .i64 i, .int .i64 n, y10, y11, y12, y13, y14, y15, y16, .slice (some ⟨rp, 0, none⟩) 1 1, M.L, y19] w') :
    W Tryz.prog R (.c (.bi (some 19) .append [76, 76] 76 [(.var 18), (.var 17)] []) :: .c (.store 1 (.offp 4 (.nn (.var 7))) (.var 19) []) :: ks)
      [undef, undef, undef, y3, undef, undef, undef, .pointer (some ⟨b, 0, none⟩), .int .i64 i, .int .i64 n, y10, y11, y12, y13, y14, y15, y16, .slice (some ⟨rp, 0, none⟩) 1 1, M.L, y19] w8 := by
  have hA8 := hA.calm hk
  have hm8 := hA8.mp.map
  have hlen := hA.len
  have hvar := hm8.row.var
  have hown : ∀ j, M.own b j → j < w.heap.size := fun j hj => hA.mp.lt hj
  have hlow := hA.mp.kept.size
  obtain ⟨L', w9, hrun, hr9, hk9, ho9⟩ := row_append (a := ⟨p, cb, vb, key4 (lit4 i), 0, fun _ => 0⟩) hm8.row (by omega) h4
  refine W_bi (by simp [hvar]) hrun (stab_nil _ _ _) ?_
  have hE : EntAt w8 M.vs ⟨p, cb, vb, key4 (lit4 i), 0, fun _ => 0⟩ := by rw [hA.vs]; exact ent_made h1 h2 h3
  obtain ⟨hst, hA10⟩ := hA8.push hi hE (fun j hj => by have := hown j hj; omega) ⟨by omega, by omega, by omega⟩ hr9 hk9 ho9
  have hvv := hr9.var
  refine W_store (by simp) (by simp [hvv]) hst (stab_nil _ _ _) ?_
  refine h _ _ _ hA10 ?_
  have hk10 : Kept (fun j => j = b ∨ M.L.ownBlock = some j) w8 (put w9 b (.cells { M with L := L' }.cells 78 (0, 0))) := (hk9.mono fun _ _ h => .inr h).put (fun _ => .inl rfl) _
  refine hk10.has (hk.has hsp (fun h => h)) ?_
  rintro (q | q)
  · exact hsn (.inl q)
  · exact hsn (.inr (.inl q))
set_option maxHeartbeats 8000000 in
theorem newarr_ret (vs n : Nat) (w : World) (hvs : 1 ≤ vs ∧ vs ≤ 64) (hn : 1 ≤ n ∧ n ≤ 64) : Ret Tryz.prog 8 [.agg #[.int .i64 0, .int .i64 4, .int .i64 vs, .int .i64 n]] w
    fun v w' => ∃ b M, v = .tuple #[.pointer (some ⟨b, 0, none⟩), .int .i64 0] ∧ ArrM w w' b vs n n M := by
  refine ret_of_W Tryz.func8 rfl ok_bmap_New ?_
  simp [c_bmap_New]
  have hb := hp_new w (.cells #[.int .i64 0, .int .i64 4, .int .i64 vs, .int .i64 n] 48)
  have hk : Kept none' w (w.alloc (.cells #[.int .i64 0, .int .i64 4, .int .i64 vs, .int .i64 n] 48)) := (Kept.refl _ _).alloc _
  generalize w.alloc (.cells #[.int .i64 0, .int .i64 4, .int .i64 vs, .int .i64 n] 48) = w1 at hb hk ⊢
  have hrow : ∀ w', w'.heap[w.heap.size]? = some (.cells #[.int .i64 0, .int .i64 4, .int .i64 vs, .int .i64 n] 48 (0, 0)) → wrow w' w.heap.size 0 4 = some #[.int .i64 0, .int .i64 4, .int .i64 vs, .int .i64 n] := by
    intro w' h'
    rw [wrow_of h' (by simp)]
    simp
  refine W_call0 (by simp [hrow _ hb]) (check_ret 0 4 vs n w1 (by unfold specOk; omega)) ?_
  rintro v w2 ⟨rfl, hk2⟩
  have hb2 := hk2.has hb (fun h => h)
  simp
  refine W_no (by simp) ?_
  simp [hrow _ hb2]
  have hbm := hp_new w2 (.cells (newM 0 4 vs n).cells 78)
  have hb3 := hp_old hb2 (.cells (newM 0 4 vs n).cells 78)
  have hk3 := (hk.trans hk2).alloc (.cells (newM 0 4 vs n).cells 78)
  have hs := (hk.trans hk2).size
  have hcells : (newM 0 4 vs n).cells = #[.int .i64 0, .int .i64 4, .int .i64 vs, .int .i64 n, .slice none 0 0, .bool false, .int .i64 0] := rfl
  rw [hcells] at hbm hb3 hk3
  generalize w2.alloc (.cells #[.int .i64 0, .int .i64 4, .int .i64 vs, .int .i64 n, .slice none 0 0, .bool false, .int .i64 0] 78) = w3 at hbm hb3 hk3 ⊢
  generalize w2.heap.size = b at *
  have hA0 : ArrM w w3 b vs n 0 (newM 0 4 vs n) := ⟨⟨hk3, ⟨hbm, .inl ⟨rfl, rfl⟩, fun e he => by simp [newM] at he, by simp [newM], by simp [newM], by simp [newM]⟩, fun j hj => by
    rcases hj with rfl | hj | ⟨e, he, _⟩
    · exact hs
    · simp [newM, Value.ownBlock] at hj
    · simp [newM] at he⟩, rfl, rfl, rfl, rfl, rfl, rfl, rfl, fun j e hj => by simp [newM] at hj, fun e he => by simp [newM] at he⟩
  generalize newM 0 4 vs n = M0 at hA0
  have hpb : w.heap.size ≠ b := heap_ne hb3 hA0.mp.map.blk (by decide)
  generalize hsp : w.heap.size = sp at *
  refine W_yes (by simp [wcell_of hb3]) ?_
  simp [wcell_of hb3]
  refine W_loop (fun env w' => ∃ (i : Nat) (M : BMap), env = [undef, undef, undef, .pointer (some ⟨sp, 0, none⟩), undef, undef, undef, .pointer (some ⟨b, 0, none⟩), .int .i64 i, .int .i64 n, undef, undef, undef, undef, undef, undef, undef, undef, undef, undef] ∧ i ≤ n ∧ ArrM w w' b vs n i M ∧
      w'.heap[sp]? = some (.cells #[.int .i64 0, .int .i64 4, .int .i64 vs, .int .i64 n] 48 (0, 0))) (fun env _ => n - natAt env 8) ?_ ?_
  · exact ⟨0, M0, by simp, by omega, hA0, hb3⟩
  rintro env w4 ⟨i, M, rfl, hi, hA, hb4⟩
  by_cases hi2 : i < n
  · simp
    refine W_yes (by simp; omega) ?_
    have hAd := hA.calm (Kept.refl none' w4).drew
    have hbd : w4.drew.heap[sp]? = _ := hb4
    have e2 : IntKind.i64.wrap ((i : Int) + 1) = ((i + 1 : Nat) : Int) := i64w (by omega) (by omega)
    have hvar := hA.mp.map.row.var
    have hblk := hA.mp.map.blk
    simp [wcell_of hblk, BMap.cells, hvar, wcell_of hb4]
    generalize w4.drew = w5 at hAd hbd ⊢
    have hm5 := hAd.mp.map
    have hown5 : ∀ j, M.own b j → j < w5.heap.size := fun j hj => hAd.mp.lt hj
    have hs5 := hAd.mp.kept.size
    rw [hsp] at hs5
    have hlen := hA.len
    have stab : ∀ (env : Eng.Env) (w w' : World) (st : List Ex), (∀ e ∈ st, e = .ld none (.offp 2 (.var 3)) ∨ e = .ld none (.offp 4 (.nn (.var 7)))) → env[3]? = some (.pointer (some ⟨sp, 0, none⟩)) → env[7]? = some (.pointer (some ⟨b, 0, none⟩)) →
        w'.heap[sp]? = w.heap[sp]? → w'.heap[b]? = w.heap[b]? → Stab st env w w' := by
      intro env w w' st hst h3 h7 hsp' hb' e he v hv
      rcases hst e he with rfl | rfl
      · simp [h3, wcell] at hv ⊢
        rw [hsp']; exact hv
      · simp [h7, wcell] at hv ⊢
        rw [hb']; exact hv
    have hsn : ¬ M.own b sp := own_not hm5 hbd (by decide) (by decide) (by decide) (by decide) (by decide)
    rw [W_alt]
    refine ⟨?_, ?_⟩
    · simp
      refine W_call (by simp) (little4_ret i (by omega) w5) ?_
      rintro v w6 ⟨hk6, g, cap, rfl, hg, hby⟩
      refine ⟨stab _ _ _ _ (by simp) rfl rfl (hk6.block sp (blk_lt hbd) (fun h => h)) (hk6.block b (blk_lt hm5.blk) (fun h => h)), ?_⟩
      have hbs := list_bstr4 (c := cap) (o := 0) (n := i) (by omega) (fun j hj => by rw [Nat.zero_add]; exact hby j hj)
      have hA6 := hAd.calm hk6
      have hb6 := hk6.has hbd (fun h => h)
      have hbk6 := hA6.mp.map.blk
      have hgl := wcell_lt (hby 0 (by omega))
      have hs6 := hk6.size
      simp [hbs]
      refine W_sem (by simp) (run_mkb vs (by omega) w6) ?_ ?_
      · intro e he v hv
        simp at he
        rcases he with rfl | rfl
        · have hbs' := list_bstr4 (c := cap) (o := 0) (n := i) (w := w6.alloc (.cells (madeCells #[.int .u8 0] vs) 5)) (by omega) (fun j hj => by rw [Nat.zero_add]; exact wcell_kept ((Kept.refl none' w6).alloc _) (fun h => h) (hby j hj))
          simp [hbs] at hv
          simp [hbs']
          exact hv
        · have hb7 := hp_old hbk6 (.cells (madeCells #[.int .u8 0] vs) 5)
          simp [wcell_of hbk6, BMap.cells] at hv
          simp [wcell_of hb7, BMap.cells]
          exact hv
      simp
      have f3 := hp_new w6 (.cells (madeCells #[.int .u8 0] vs) 5)
      have k3 : Kept none' w6 (w6.alloc (.cells (madeCells #[.int .u8 0] vs) 5)) := (Kept.refl _ _).alloc _
      have z3 : (w6.alloc (.cells (madeCells #[.int .u8 0] vs) 5)).heap.size = w6.heap.size + 1 := by simp
      generalize w6.alloc (.cells (madeCells #[.int .u8 0] vs) 5) = w7 at f3 k3 z3 ⊢
      have f2 := hp_new w7 (.cells #[.slice (some ⟨w6.heap.size, 0, none⟩) vs vs] 82)
      have k2 : Kept none' w7 (w7.alloc (.cells #[.slice (some ⟨w6.heap.size, 0, none⟩) vs vs] 82)) := (Kept.refl _ _).alloc _
      have z2 : (w7.alloc (.cells #[.slice (some ⟨w6.heap.size, 0, none⟩) vs vs] 82)).heap.size = w7.heap.size + 1 := by simp
      generalize w7.alloc (.cells #[.slice (some ⟨w6.heap.size, 0, none⟩) vs vs] 82) = w8 at f2 k2 z2 ⊢
      have f1 := hp_new w8 (.cells #[.string (key4 (lit4 i)), .pointer (some ⟨w6.heap.size + 1, 0, none⟩), .int .i64 0] 84)
      have k1 : Kept none' w8 (w8.alloc (.cells #[.string (key4 (lit4 i)), .pointer (some ⟨w6.heap.size + 1, 0, none⟩), .int .i64 0] 84)) := (Kept.refl _ _).alloc _
      have z1 : (w8.alloc (.cells #[.string (key4 (lit4 i)), .pointer (some ⟨w6.heap.size + 1, 0, none⟩), .int .i64 0] 84)).heap.size = w8.heap.size + 1 := by simp
      generalize w8.alloc (.cells #[.string (key4 (lit4 i)), .pointer (some ⟨w6.heap.size + 1, 0, none⟩), .int .i64 0] 84) = w9 at f1 k1 z1 ⊢
      have f4 := hp_new w9 (.cells #[.pointer (some ⟨w6.heap.size + 1 + 1, 0, none⟩)] 79)
      have k4 : Kept none' w9 (w9.alloc (.cells #[.pointer (some ⟨w6.heap.size + 1 + 1, 0, none⟩)] 79)) := (Kept.refl _ _).alloc _
      generalize w9.alloc (.cells #[.pointer (some ⟨w6.heap.size + 1 + 1, 0, none⟩)] 79) = w10 at f4 k4 ⊢
      have hK : Kept none' w5 w10 := ((((hk6.trans k3).trans k2).trans k1).trans k4)
      refine arr_end_W (p := w6.heap.size + 1 + 1) (cb := w6.heap.size + 1) (vb := w6.heap.size) hAd hK (by omega) (k4.has (by rw [show w6.heap.size + 1 + 1 = w8.heap.size by omega]; exact f1) (fun h => h)) ((k1.trans k4).has (by rw [show w6.heap.size + 1 = w7.heap.size by omega]; exact f2) (fun h => h)) (((k2.trans k1).trans k4).has f3 (fun h => h)) (by rw [show w6.heap.size + 1 + 1 + 1 = w9.heap.size by omega]; exact f4) ⟨by omega, by omega, by omega⟩ hbd hsn ?_
      intro w' M' y19 hA' hsp'
      simp
      exact ⟨⟨i + 1, e2, by omega, ⟨M', hA'⟩, hsp'⟩, by simp [natAt, e2]; omega⟩
    · simp
      refine W_sem (by simp) (run_mkb vs (by omega) w5) ?_ ?_
      · intro e he v hv
        simp at he
        rcases he with rfl | rfl
        · have hb7 := hp_old hbd (.cells (madeCells #[.int .u8 0] vs) 5)
          simp [wcell_of hbd] at hv
          simp [wcell_of hb7]
          exact hv
        · have hb7 := hp_old hm5.blk (.cells (madeCells #[.int .u8 0] vs) 5)
          simp [wcell_of hm5.blk, BMap.cells] at hv
          simp [wcell_of hb7, BMap.cells]
          exact hv
      have f3 := hp_new w5 (.cells (madeCells #[.int .u8 0] vs) 5)
      have k3 : Kept none' w5 (w5.alloc (.cells (madeCells #[.int .u8 0] vs) 5)) := (Kept.refl _ _).alloc _
      have z3 : (w5.alloc (.cells (madeCells #[.int .u8 0] vs) 5)).heap.size = w5.heap.size + 1 := by simp
      generalize w5.alloc (.cells (madeCells #[.int .u8 0] vs) 5) = w6 at f3 k3 z3 ⊢
      simp
      rw [W_alt]
      refine ⟨?_, ?_⟩
      · simp
        refine W_call (by simp) (little4_ret i (by omega) w6) ?_
        rintro v w7 ⟨hk6, g, cap, rfl, hg, hby⟩
        refine ⟨stab _ _ _ _ (by simp) rfl rfl (hk6.block sp (blk_lt (k3.has hbd (fun h => h))) (fun h => h)) (hk6.block b (blk_lt (k3.has hm5.blk (fun h => h))) (fun h => h)), ?_⟩
        have hbs := list_bstr4 (c := cap) (o := 0) (n := i) (by omega) (fun j hj => by rw [Nat.zero_add]; exact hby j hj)
        have hs6 := hk6.size
        simp [hbs]
        have f2 := hp_new w7 (.cells #[.slice (some ⟨w5.heap.size, 0, none⟩) vs vs] 82)
        have k2 : Kept none' w7 (w7.alloc (.cells #[.slice (some ⟨w5.heap.size, 0, none⟩) vs vs] 82)) := (Kept.refl _ _).alloc _
        have z2 : (w7.alloc (.cells #[.slice (some ⟨w5.heap.size, 0, none⟩) vs vs] 82)).heap.size = w7.heap.size + 1 := by simp
        generalize w7.alloc (.cells #[.slice (some ⟨w5.heap.size, 0, none⟩) vs vs] 82) = w8 at f2 k2 z2 ⊢
        have f1 := hp_new w8 (.cells #[.string (key4 (lit4 i)), .pointer (some ⟨w7.heap.size, 0, none⟩), .int .i64 0] 84)
        have k1 : Kept none' w8 (w8.alloc (.cells #[.string (key4 (lit4 i)), .pointer (some ⟨w7.heap.size, 0, none⟩), .int .i64 0] 84)) := (Kept.refl _ _).alloc _
        have z1 : (w8.alloc (.cells #[.string (key4 (lit4 i)), .pointer (some ⟨w7.heap.size, 0, none⟩), .int .i64 0] 84)).heap.size = w8.heap.size + 1 := by simp
        generalize w8.alloc (.cells #[.string (key4 (lit4 i)), .pointer (some ⟨w7.heap.size, 0, none⟩), .int .i64 0] 84) = w9 at f1 k1 z1 ⊢
        have f4 := hp_new w9 (.cells #[.pointer (some ⟨w7.heap.size + 1, 0, none⟩)] 79)
        have k4 : Kept none' w9 (w9.alloc (.cells #[.pointer (some ⟨w7.heap.size + 1, 0, none⟩)] 79)) := (Kept.refl _ _).alloc _
        generalize w9.alloc (.cells #[.pointer (some ⟨w7.heap.size + 1, 0, none⟩)] 79) = w10 at f4 k4 ⊢
        have hK : Kept none' w5 w10 := ((((k3.trans hk6).trans k2).trans k1).trans k4)
        refine arr_end_W (p := w7.heap.size + 1) (cb := w7.heap.size) (vb := w5.heap.size) hAd hK (by omega) (k4.has (by rw [show w7.heap.size + 1 = w8.heap.size by omega]; exact f1) (fun h => h)) ((k1.trans k4).has f2 (fun h => h)) ((((hk6.trans k2).trans k1).trans k4).has f3 (fun h => h)) (by rw [show w7.heap.size + 1 + 1 = w9.heap.size by omega]; exact f4) ⟨by omega, by omega, by omega⟩ hbd hsn ?_
        intro w' M' y19 hA' hsp'
        simp
        exact ⟨⟨i + 1, e2, by omega, ⟨M', hA'⟩, hsp'⟩, by simp [natAt, e2]; omega⟩
      · simp
        have f2 := hp_new w6 (.cells #[.slice (some ⟨w5.heap.size, 0, none⟩) vs vs] 82)
        have k2 : Kept none' w6 (w6.alloc (.cells #[.slice (some ⟨w5.heap.size, 0, none⟩) vs vs] 82)) := (Kept.refl _ _).alloc _
        have z2 : (w6.alloc (.cells #[.slice (some ⟨w5.heap.size, 0, none⟩) vs vs] 82)).heap.size = w6.heap.size + 1 := by simp
        generalize w6.alloc (.cells #[.slice (some ⟨w5.heap.size, 0, none⟩) vs vs] 82) = w7 at f2 k2 z2 ⊢
        refine W_call (by simp) (little4_ret i (by omega) w7) ?_
        rintro v w8 ⟨hk6, g, cap, rfl, hg, hby⟩
        refine ⟨stab _ _ _ _ (by simp) rfl rfl (hk6.block sp (blk_lt ((k3.trans k2).has hbd (fun h => h))) (fun h => h)) (hk6.block b (blk_lt ((k3.trans k2).has hm5.blk (fun h => h))) (fun h => h)), ?_⟩
        have hbs := list_bstr4 (c := cap) (o := 0) (n := i) (by omega) (fun j hj => by rw [Nat.zero_add]; exact hby j hj)
        have hs6 := hk6.size
        simp [hbs]
        have f1 := hp_new w8 (.cells #[.string (key4 (lit4 i)), .pointer (some ⟨w6.heap.size, 0, none⟩), .int .i64 0] 84)
        have k1 : Kept none' w8 (w8.alloc (.cells #[.string (key4 (lit4 i)), .pointer (some ⟨w6.heap.size, 0, none⟩), .int .i64 0] 84)) := (Kept.refl _ _).alloc _
        have z1 : (w8.alloc (.cells #[.string (key4 (lit4 i)), .pointer (some ⟨w6.heap.size, 0, none⟩), .int .i64 0] 84)).heap.size = w8.heap.size + 1 := by simp
        generalize w8.alloc (.cells #[.string (key4 (lit4 i)), .pointer (some ⟨w6.heap.size, 0, none⟩), .int .i64 0] 84) = w9 at f1 k1 z1 ⊢
        have f4 := hp_new w9 (.cells #[.pointer (some ⟨w8.heap.size, 0, none⟩)] 79)
        have k4 : Kept none' w9 (w9.alloc (.cells #[.pointer (some ⟨w8.heap.size, 0, none⟩)] 79)) := (Kept.refl _ _).alloc _
        generalize w9.alloc (.cells #[.pointer (some ⟨w8.heap.size, 0, none⟩)] 79) = w10 at f4 k4 ⊢
        have hK : Kept none' w5 w10 := ((((k3.trans k2).trans hk6).trans k1).trans k4)
        refine arr_end_W (p := w8.heap.size) (cb := w6.heap.size) (vb := w5.heap.size) hAd hK (by omega) (k4.has f1 (fun h => h)) (((hk6.trans k1).trans k4).has f2 (fun h => h)) ((((k2.trans hk6).trans k1).trans k4).has f3 (fun h => h)) (by rw [show w8.heap.size + 1 = w9.heap.size by omega]; exact f4) ⟨by omega, by omega, by omega⟩ hbd hsn ?_
        intro w' M' y19 hA' hsp'
        simp
        exact ⟨⟨i + 1, e2, by omega, ⟨M', hA'⟩, hsp'⟩, by simp [natAt, e2]; omega⟩
  · simp
    refine W_no (by simp; omega) ?_
    have hin : i = n := by omega
    subst hin
    simp
    exact ⟨M, hA⟩
end Go.Proofs.YtmfgdbapankamaaGreat
namespace Go.Proofs.YtmfgdbapankamaaGreat
open Go.Eng
def bs (m : List Nat) : ByteArray := ⟨(m.map UInt8.ofNat).toArray⟩
def nb (k : ByteArray) : List Nat := k.data.toList.map UInt8.toNat
@[simp] theorem nb_len (k : ByteArray) : (nb k).length = k.size := by
  show (k.data.toList.map UInt8.toNat).length = k.data.size
  rw [List.length_map, Array.length_toList]
@[simp] theorem bs_size (m : List Nat) : (bs m).size = m.length := by
  show (m.map UInt8.ofNat).toArray.size = _
  rw [List.size_toArray, List.length_map]
theorem nb_le (k : ByteArray) : ∀ x ∈ nb k, x ≤ 255 := by
  intro x hx
  simp only [nb, List.mem_map] at hx
  obtain ⟨y, _, rfl⟩ := hx
  have := y.toNat_lt
  omega
theorem bs_nb (k : ByteArray) : bs (nb k) = k := by
  refine ByteArray.ext ?_
  simp [bs, nb, Function.comp_def]
theorem nb_bs {m : List Nat} (h : ∀ x ∈ m, x ≤ 255) : nb (bs m) = m := by
  simp only [bs, nb, List.map_map]
  conv => rhs; rw [← List.map_id m]
  refine List.map_congr_left fun x hx => ?_
  have := h x hx
  simp
  omega
theorem bs_inj {m l : List Nat} (hm : ∀ x ∈ m, x ≤ 255) (hl : ∀ x ∈ l, x ≤ 255) (h : bs m = bs l) : m = l := by
  rw [← nb_bs hm, ← nb_bs hl, h]
theorem bytesIn_map (m : List Nat) : bytesIn (m.map fun (x : Nat) => Value.int .u8 (x : Int)) = some (m.map UInt8.ofNat) := by
  induction m with
  | nil => rfl
  | cons a r ih => simp [bytesIn, ih]
theorem bytes_bstr {w : World} {b off c : Nat} {m : List Nat} (h0 : 0 < m.length) (h : ∀ (j x : Nat), m[j]? = some x → wcell w b (off + j) = some (.int .u8 x)) :
    bstrv w (.slice (some ⟨b, off, none⟩) m.length c) = some (.string (bs m)) := by
  have hw := wrow_list (w := w) (b := b) (off := off) (r := m.map fun (x : Nat) => Value.int .u8 (x : Int)) (by simpa using h0) (by
    intro j hj
    have hj' : j < m.length := by simpa using hj
    rw [h j m[j] (List.getElem?_eq_getElem hj')]
    simp [hj'])
  rw [List.length_map] at hw
  simp only [bstrv, hw, Option.bind_some, bytesIn_map, Option.map_some]
  rfl
def KeyP (w : World) (v : Value) (k : ByteArray) : Prop := ∃ b off c, v = .slice (some ⟨b, off, none⟩) k.size c ∧ k.size ≤ c ∧ ∀ (j x : Nat), (nb k)[j]? = some x → wcell w b (off + j) = some (.int .u8 x)
theorem KeyP.var {w : World} {v : Value} {k : ByteArray} (h : KeyP w v k) : varV v = some v := by obtain ⟨b, o, c, rfl, _⟩ := h; rfl
theorem KeyP.at {w : World} {v : Value} {k : ByteArray} (h : KeyP w v k) (h0 : 0 < k.size) : KeyAt w v k := by
  obtain ⟨b, o, c, rfl, hc, hx⟩ := h
  refine ⟨b, o, c, rfl, ?_, fun j hj => ?_⟩
  · have := bytes_bstr (c := c) (by simpa using h0) hx
    rw [nb_len, bs_nb] at this
    exact this
  · have hj' : j < (nb k).length := by simpa using hj
    refine ⟨(nb k)[j], nb_le k _ (List.getElem_mem hj'), ?_, hx j _ (List.getElem?_eq_getElem hj')⟩
    have e : (bs (nb k)).data[j]? = some (UInt8.ofNat (nb k)[j]) := by simp [bs, hj]
    rw [bs_nb] at e
    exact e
theorem KeyP.of {w : World} {b o c : Nat} {m : List Nat} (hle : ∀ x ∈ m, x ≤ 255) (hc : m.length ≤ c) (h : ∀ (j x : Nat), m[j]? = some x → wcell w b (o + j) = some (.int .u8 x)) : KeyP w (.slice (some ⟨b, o, none⟩) m.length c) (bs m) :=
  ⟨b, o, c, by rw [bs_size], by rw [bs_size]; exact hc, fun j x hj => h j x (by rwa [nb_bs hle] at hj)⟩
theorem KeyP.keep {w w' : World} {v : Value} {k : ByteArray} {S : Nat → Prop} (h : KeyP w v k) (hk : Kept S w w') (hS : ∀ j, v.ownBlock = some j → ¬ S j) : KeyP w' v k := by
  obtain ⟨b, o, c, rfl, hc, hx⟩ := h
  exact ⟨b, o, c, rfl, hc, fun j x hj => wcell_kept hk (hS b rfl) (hx j x hj)⟩
theorem KeyP.calm {w w' : World} {v : Value} {k : ByteArray} (h : KeyP w v k) (hk : Kept none' w w') : KeyP w' v k := h.keep hk fun _ _ h => h
def nbk (k : ByteArray) (j : Nat) : Int := (((nb k).getD j 0 : Nat) : Int)
def cnt (k : ByteArray) : Int := leN (nbk k) 4
theorem nbk_le (k : ByteArray) (j : Nat) : 0 ≤ nbk k j ∧ nbk k j ≤ 255 := by
  unfold nbk
  have : (nb k).getD j 0 ≤ 255 := by
    rw [List.getD_eq_getElem?_getD]
    cases h : (nb k)[j]? with
    | none => simp
    | some x => exact nb_le k x (List.mem_of_getElem? h)
  omega
theorem cnt_range (k : ByteArray) : 0 ≤ cnt k ∧ cnt k < 4294967296 := by
  have := leN_bound (nbk k) (nbk_le k) 4
  exact ⟨this.1, this.2⟩
theorem or_addI (a c : Int) (n : Nat) (hn : n < 4) (ha0 : 0 ≤ a) (ha : a < 256 ^ n) (hc0 : 0 ≤ c) (hc : c ≤ 255) :
    bitOr .i64 a (c * 256 ^ n) = a + c * 256 ^ n := by
  have h := or_add a c n (by omega) ha0 ha hc0 hc
  have hp0 : (0 : Int) < 256 ^ n := Int.pow_pos (by omega)
  have hp : (256 : Int) ^ n ≤ 16777216 := by
    have : n = 0 ∨ n = 1 ∨ n = 2 ∨ n = 3 := by omega
    rcases this with rfl | rfl | rfl | rfl <;> decide
  have hm : c * 256 ^ n ≤ 255 * 16777216 := by
    have h1 : c * 256 ^ n ≤ 255 * 256 ^ n := Int.mul_le_mul_of_nonneg_right hc (by omega)
    omega
  have hm0 : 0 ≤ c * 256 ^ n := Int.mul_nonneg hc0 (by omega)
  have e : bitOr .i64 a (c * 256 ^ n) = IntKind.i64.wrap ((BitVec.ofInt 64 a ||| BitVec.ofInt 64 (c * 256 ^ n)).toNat : Nat) := rfl
  have e' : bitOr .u64 a (c * 256 ^ n) = IntKind.u64.wrap ((BitVec.ofInt 64 a ||| BitVec.ofInt 64 (c * 256 ^ n)).toNat : Nat) := rfl
  have hlt := (BitVec.ofInt 64 a ||| BitVec.ofInt 64 (c * 256 ^ n)).isLt
  rw [e'] at h
  rw [u64w (by omega) (by omega)] at h
  rw [e, h, i64w (by omega) (by omega)]
theorem counted_ret (kv : Value) (k : ByteArray) (w : World) (hk : KeyP w kv k) (h4 : 4 ≤ k.size) :
    Ret Tryz.prog 44 [kv] w fun v w' => v = .int .i64 (cnt k) ∧ w' = w := by
  refine ret_of_W Tryz.func44 rfl ok_bmap_counted ?_
  obtain ⟨kb, ko, kc, rfl, hkc, hx⟩ := hk
  have c1 : (4 : Int) ≤ kc := by omega
  simp [c_bmap_counted, c1]
  refine W_loop (fun env w' => w' = w ∧ ∃ i : Nat, env = [undef, undef, .int .i64 (leN (nbk k) i), .int .i64 i, .int .i64 4, .slice (some ⟨kb, ko, none⟩) 4 kc, undef, undef] ∧ i ≤ 4) (fun env _ => 4 - natAt env 3) ?_ ?_
  · refine ⟨rfl, 0, ?_, by omega⟩
    simp [leN]
  · rintro env w' ⟨rfl, i, rfl, hi⟩
    by_cases hgo : i < 4
    · have e1 : IntKind.i64.wrap ((i : Int) + 1) = ((i + 1 : Nat) : Int) := i64w (by omega) (by omega)
      have e3 : IntKind.i64.wrap (8 * (i : Int)) = 8 * (i : Int) := i64w (by omega) (by omega)
      have hj' : i < (nb k).length := by simp; omega
      have hc := hx i _ (List.getElem?_eq_getElem hj')
      have hcn : (((nb k)[i] : Nat) : Int) = nbk k i := by simp [nbk, List.getD, List.getElem?_eq_getElem hj']
      rw [hcn] at hc
      simp
      refine W_yes (by simp; omega) ?_
      have hi4 : (i : Int) < 4 := by omega
      have hb := nbk_le k i
      have e4 : IntKind.i64.wrap (nbk k i) = nbk k i := i64w (by omega) (by omega)
      have hl := leN_bound (nbk k) (nbk_le k) i
      have e5 : min (8 * (i : Int)).toNat IntKind.i64.bits = 8 * i := by
        have : IntKind.i64.bits = 64 := rfl
        omega
      have e6 : IntKind.i64.wrap (nbk k i * 256 ^ i) = nbk k i * 256 ^ i := by
        have hp0 : (0 : Int) < 256 ^ i := Int.pow_pos (by omega)
        have hp : (256 : Int) ^ i ≤ 16777216 := by
          have : i = 0 ∨ i = 1 ∨ i = 2 ∨ i = 3 := by omega
          rcases this with rfl | rfl | rfl | rfl <;> decide
        have h1 : nbk k i * 256 ^ i ≤ 255 * 256 ^ i := Int.mul_le_mul_of_nonneg_right hb.2 (by omega)
        have h2 : 0 ≤ nbk k i * 256 ^ i := Int.mul_nonneg hb.1 (by omega)
        exact i64w (by omega) (by omega)
      have e7 := or_addI (leN (nbk k) i) (nbk k i) i hgo hl.1 hl.2 hb.1 hb.2
      simp [hi4, hc, e3, convV, e4]
      rw [intBin_shl _ _ _ _ (by omega), e5, pow_256]
      simp [e6, e7, e1]
      exact ⟨⟨i + 1, ⟨rfl, rfl⟩, by omega⟩, by simp [natAt]; omega⟩
    · have : i = 4 := by omega
      subst this
      simp
      refine W_no (by simp) ?_
      simp [cnt]
def left8 (n : Int) (i : Nat) : Nat := (min (max (n - 8 * i) 0) 8).toNat
def maskb (x l : Nat) : Nat := x / 2 ^ (8 - l) * 2 ^ (8 - l)
def maskI (n : Int) (i : Nat) (j x : Nat) : Nat := if j < 4 ∨ i + 4 ≤ j then x else maskb x (left8 n (j - 4))
def maskl (m : List Nat) (n : Int) : List Nat := m.mapIdx (maskI n m.length)
theorem left8_le (n : Int) (i : Nat) : left8 n i ≤ 8 := by unfold left8; omega
theorem maskb_eq : ∀ x < 256, ∀ l < 9, bitAnd .u8 (x : Nat) (IntKind.u8.wrap (BitVec.ofInt IntKind.u8.bits (if IntKind.u8.signed then -1 else IntKind.u8.max) ^^^ BitVec.ofInt IntKind.u8.bits ((255 : Int).fdiv (2 ^ min l 8))).toNat) = ((maskb x l : Nat) : Int) := by decide +kernel
theorem maskb_le (x l : Nat) : maskb x l ≤ x := Nat.div_mul_le_self _ _
theorem maskI_le (n : Int) (i j x : Nat) : maskI n i j x ≤ x := by
  unfold maskI
  split
  · omega
  · exact maskb_le _ _
theorem maskl_len (m : List Nat) (n : Int) : (maskl m n).length = m.length := by simp [maskl]
theorem maskl_le {m : List Nat} (h : ∀ x ∈ m, x ≤ 255) (n : Int) : ∀ x ∈ maskl m n, x ≤ 255 := by
  intro x hx
  obtain ⟨j, hj, rfl⟩ := List.mem_iff_getElem.1 hx
  simp only [maskl, List.getElem_mapIdx]
  rw [maskl_len] at hj
  have := h m[j] (List.getElem_mem hj)
  have := maskI_le n m.length j m[j]
  omega
theorem Bys.store {w : World} {g cap : Nat} {l : List Nat} {j y : Nat} (h : Bys w (.slice (some ⟨g, 0, none⟩) l.length cap) l) (hj : j < l.length) :
    ∃ w', stv w 1 (.pointer (some ⟨g, j, none⟩)) (.int .u8 y) = some w' ∧ Bys w' (.slice (some ⟨g, 0, none⟩) l.length cap) (l.set j y) ∧ Kept (fun i => i = g) w w' := by
  rcases h with ⟨q, _⟩ | ⟨g', cap', cur, q, h2, h3, h4, h5, h6⟩
  · simp at q
  · simp at q
    obtain ⟨rfl, rfl⟩ := q
    refine ⟨put w g (.cells (cur.setIfInBounds j (.int .u8 y)) 5 (0, 0)), ?_, .inr ⟨g, cap, cur.setIfInBounds j (.int .u8 y), by simp, put_same (blk_lt h2), by simpa using h3, h4, by simpa using h5, ?_⟩, (Kept.refl (fun i => i = g) w).put (b := g) (fun _ => rfl) _⟩
    · rw [stv_of (n := 1) (v := .int .u8 y) h2 rfl (by omega) (.inl (by simp)) (by simp [Value.oneCell'])]
      simp
    · intro i x hi
      rw [List.getElem?_set] at hi
      rw [Array.getElem?_setIfInBounds]
      by_cases e : j = i
      · subst e
        rw [if_pos rfl, if_pos hj] at hi
        rw [if_pos rfl, if_pos (by omega)]
        simp at hi
        rw [hi]
      · rw [if_neg e] at hi
        rw [if_neg e]
        exact h6 i x hi
theorem Bys.cell {w : World} {g cap : Nat} {l : List Nat} {j x : Nat} (h : Bys w (.slice (some ⟨g, 0, none⟩) l.length cap) l) (hj : l[j]? = some x) : wcell w g j = some (.int .u8 x) := by
  rcases h with ⟨q, _⟩ | ⟨g', cap', cur, q, h2, h3, h4, h5, h6⟩
  · simp at q
  · simp at q
    obtain ⟨rfl, rfl⟩ := q
    rw [wcell_of h2]
    exact h6 j x hj
theorem sclone_ret (kv : Value) (k : ByteArray) (w : World) (hk : KeyP w kv k) (hn : k.size ≤ 1000) :
    Ret Tryz.prog 67 [kv] w fun v w' => Kept none' w w' ∧ Bys w' v (nb k) ∧ ∀ j, v.ownBlock = some j → w.heap.size ≤ j := by
  obtain ⟨b, off, c, rfl, hc, hx⟩ := hk
  refine ret_of_W Tryz.func67 rfl ok_slices_Clone ?_
  simp [c_slices_Clone]
  refine W_no (by simp) ?_
  simp
  have hk0 : Kept none' w (w.alloc (.cells #[] 5)) := (Kept.refl _ _).alloc _
  have hB0 : Bys (w.alloc (.cells #[] 5)) (.slice (some ⟨w.heap.size, 0, none⟩) 0 0) [] := .inr ⟨_, 0, #[], rfl, hp_new w _, Nat.le_refl _, by simp, rfl, fun i x h => by simp at h⟩
  have hs0 : (w.alloc (.cells #[] 5)).heap.size = w.heap.size + 1 := by simp
  generalize w.alloc (.cells #[] 5) = w1 at hk0 hB0 hs0 ⊢
  obtain ⟨v', w2, hr, hB, hk2, ho⟩ := bys_append (sb := b) (so := off) (c := c) (m := nb k) hB0 (by simpa using hn) (fun j x hj => wcell_kept hk0 (fun h => h) (hx j x hj))
  rw [nb_len] at hr
  refine W_bi (by simp) hr (stab_nil _ _ _) ?_
  have hv := hB.var
  simp [hv]
  refine ⟨hk0.then hk2 (fun j hj h => by simp [Value.ownBlock] at h; omega), by simpa using hB, fun j hj => ?_⟩
  rcases ho with q | q
  · rw [q] at hj; simp [Value.ownBlock] at hj; omega
  · rw [q] at hj; simp at hj; omega
theorem maskI_zero (m : List Nat) (n : Int) : m.mapIdx (maskI n 0) = m := by
  apply List.ext_getElem?
  intro j
  rw [List.getElem?_mapIdx]
  cases m[j]? with
  | none => rfl
  | some x => simp [maskI]; omega
theorem maskI_step (m : List Nat) (n : Int) (i x : Nat) (hx : m[i + 4]? = some x) : (m.mapIdx (maskI n i)).set (i + 4) (maskb x (left8 n i)) = m.mapIdx (maskI n (i + 1)) := by
  apply List.ext_getElem?
  intro j
  rw [List.getElem?_set, List.getElem?_mapIdx, List.getElem?_mapIdx, List.length_mapIdx]
  have hl := (List.getElem?_eq_some_iff.1 hx).1
  by_cases e : i + 4 = j
  · subst e
    rw [if_pos rfl, if_pos hl, hx]
    simp [maskI]
    omega
  · rw [if_neg e]
    cases m[j]? with
    | none => rfl
    | some y =>
      simp only [Option.map_some]
      congr 1
      unfold maskI
      by_cases h : j < 4 ∨ i + 4 ≤ j
      · rw [if_pos h, if_pos (by omega)]
      · rw [if_neg h, if_neg (by omega)]
theorem maskI_end (m : List Nat) (n : Int) (h : 4 ≤ m.length) : m.mapIdx (maskI n (m.length - 4)) = maskl m n := by
  apply List.ext_getElem?
  intro j
  unfold maskl
  rw [List.getElem?_mapIdx, List.getElem?_mapIdx]
  cases hj : m[j]? with
  | none => rfl
  | some y =>
    have hl := (List.getElem?_eq_some_iff.1 hj).1
    simp only [Option.map_some]
    congr 1
    unfold maskI
    by_cases h4 : j < 4
    · rw [if_pos (.inl h4), if_pos (.inl h4)]
    · rw [if_neg (by omega), if_neg (by omega)]
theorem masked_ret (kv : Value) (k : ByteArray) (n : Int) (w : World) (hk : KeyP w kv k) (h4 : 4 ≤ k.size) (hs : k.size ≤ 1000) (hn : 0 ≤ n ∧ n < 4294967296) :
    Ret Tryz.prog 52 [kv, .int .i64 n] w fun v w' => Kept none' w w' ∧ Bys w' v (maskl (nb k) n) ∧ ∀ j, v.ownBlock = some j → w.heap.size ≤ j := by
  refine ret_of_W Tryz.func52 rfl ok_bmap_masked ?_
  simp [c_bmap_masked, hk.var]
  refine W_call0 (by simp [hk.var]) (sclone_ret kv k w hk hs) ?_
  rintro v w1 ⟨hk1, hB, hown⟩
  obtain ⟨g, cap, rfl, hcap, hog, hby⟩ := hB.form (by simp; omega)
  have c1 : ((nb k).length : Int) ≤ cap := by omega
  have c2 : (4 : Int) ≤ (nb k).length := by simp; omega
  have hgs := hown g hog
  simp at c1 c2
  simp [c1, c2]
  rw [nb_len] at hB
  clear hown hog hby
  refine W_loop (fun env w' => ∃ i : Nat, env = [undef, .int .i64 n, undef, undef, .slice (some ⟨g, 0, none⟩) k.size cap, .int .i64 i, .int .i64 ((k.size - 4 : Nat) : Int), undef, undef] ∧ i ≤ k.size - 4 ∧ Kept none' w w' ∧ Bys w' (.slice (some ⟨g, 0, none⟩) k.size cap) ((nb k).mapIdx (maskI n i))) (fun env _ => k.size - natAt env 5) ?_ ?_
  · refine ⟨0, by simp, by omega, hk1, ?_⟩
    rw [maskI_zero]
    exact hB
  · rintro env w2 ⟨i, rfl, hi, hk2, hB2⟩
    by_cases hgo : i < k.size - 4
    · have e1 : IntKind.i64.wrap ((i : Int) + 1) = ((i + 1 : Nat) : Int) := i64w (by omega) (by omega)
      have e2 : IntKind.i64.wrap (8 * (i : Int)) = 8 * (i : Int) := i64w (by omega) (by omega)
      have e3 : IntKind.i64.wrap (n - 8 * (i : Int)) = n - 8 * (i : Int) := i64w (by omega) (by omega)
      have e4 : IntKind.i64.wrap (4 + (i : Int)) = ((i + 4 : Nat) : Int) := by rw [i64w (by omega) (by omega)]; omega
      have e5 : (if (8 : Int) < (if (0 : Int) > n - 8 * (i : Int) then 0 else n - 8 * (i : Int)) then 8 else (if (0 : Int) > n - 8 * (i : Int) then 0 else n - 8 * (i : Int))) = ((left8 n i : Nat) : Int) := by
        unfold left8
        split <;> split <;> omega
      have hl8 := left8_le n i
      have hlen : ((nb k).mapIdx (maskI n i)).length = k.size := by simp
      have hj' : i + 4 < (nb k).length := by simp; omega
      have hget : ((nb k).mapIdx (maskI n i))[i + 4]? = some (nb k)[i + 4] := by
        rw [List.getElem?_mapIdx, List.getElem?_eq_getElem hj']
        simp [maskI]
      have hBx : Bys w2 (.slice (some ⟨g, 0, none⟩) ((nb k).mapIdx (maskI n i)).length cap) ((nb k).mapIdx (maskI n i)) := by rw [hlen]; exact hB2
      have hcell := hBx.cell hget
      have hx := nb_le k _ (List.getElem_mem hj')
      have hme := maskb_eq (nb k)[i + 4] (by omega) (left8 n i) (by omega)
      have hB3 : Bys w2.drew (.slice (some ⟨g, 0, none⟩) ((nb k).mapIdx (maskI n i)).length cap) ((nb k).mapIdx (maskI n i)) := hBx.keep (Kept.refl none' w2).drew (fun _ _ h => h)
      obtain ⟨w4, hst, hB4, hk4⟩ := hB3.store (j := i + 4) (y := maskb (nb k)[i + 4] (left8 n i)) (by rw [hlen]; omega)
      rw [maskI_step _ _ _ _ (List.getElem?_eq_getElem hj'), hlen] at hB4
      have hi4 : ((i + 4 : Nat) : Int) < k.size := by omega
      have hi4' : i + 4 < k.size := by omega
      have hcd : wcell w2.drew g (i + 4) = _ := hcell
      have hwd : Kept none' w w2.drew := hk2.trans (Kept.refl none' w2).drew
      simp
      refine W_yes (by simp; omega) ?_
      simp [e2, e3]
      rw [e5]
      generalize w2.drew = w3 at hB3 hst hk4 hcd hwd ⊢
      generalize left8 n i = l at hme hl8 hst hB4 ⊢
      have hshr : binV .shr (.int .u8 255) (.int .i64 (l : Int)) = some (.int .u8 ((255 : Int).fdiv (2 ^ min l 8))) := by
        show intBin .shr .u8 255 .i64 (l : Int) = _
        rw [intBin_shr _ _ _ _ (by omega)]
        rfl
      have hti : ((i : Int) + 4).toNat = i + 4 := by omega
      simp at hme
      have hi6 : 0 ≤ (i : Int) + 4 ∧ (i : Int) + 4 < k.size := by omega
      refine W_store (w' := w4) (by simp [e4, hi4, hi4', hi6]) (by simp [e4, hi4, hi4', hi6, hti, hcd, hshr, hme]) hst (stab_nil _ _ _) ?_
      simp
      refine ⟨⟨i + 1, e1, by omega, hwd.then hk4 (fun j hj h => by omega), hB4⟩, by simp [natAt, e1]; omega⟩
    · have hie : i = k.size - 4 := by omega
      subst hie
      simp
      refine W_no (by simp) ?_
      simp
      have := maskI_end (nb k) n (by simp; omega)
      rw [nb_len] at this
      rw [this] at hB2
      refine ⟨hk2, hB2, fun j hj => ?_⟩
      simp [Value.ownBlock] at hj
      omega
end Go.Proofs.YtmfgdbapankamaaGreat
