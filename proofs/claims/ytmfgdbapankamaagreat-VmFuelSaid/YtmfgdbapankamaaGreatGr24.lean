/- Layer 9: operations on maps among others: contracts, part 2. -/
import Derived.Test.YtmfgdbapankamaaGreatGr23
set_option linter.unusedSimpArgs false
set_option linter.unusedVariables false
set_option maxRecDepth 8000
namespace Go.Proofs.YtmfgdbapankamaaGreat
open Go.Eng
section
variable {w : World} {N : Names} {ms : List XMap} {cs : List XCell} {i b : Nat} {A : XMap} {M : BMap}
theorem pdelete_ret (h : Placed w N ms cs) (hA : ms[i]? = some A) (hq : N.mm[i]? = some (b, M)) (ok : AOk A) {kv : Value} {k : ByteArray} (hk : KeyP w kv k) (hS : k.size ≤ 1000) (hfz : A.frozen = false) :
    Ret Tryz.prog 93 [.pointer (some ⟨b, 0, none⟩), kv] w fun v w' => DoneP w N ms cs i ((delX A k).1, (delX A k).2, cs) v w' := by
  obtain ⟨hm, hl⟩ := h.low hA hq
  obtain ⟨s1, s2, s3, s4, s5, s6, s7, s8, s9, _⟩ := spec_facts ok
  have hr := hl.right k
  refine (xdelete_ret b M kv k w hm hk hS (fun e => by rw [hl.ty] at e; have := s7 e; rw [hl.ks]; omega) (fun e => by rw [hr] at e; have := s8 (right_lined e); have := right_size e; omega) (by rw [hl.frozen]; exact hfz)).mono fun v w' hv => ?_
  unfold delX
  unfold DelX at hv
  rw [hr] at hv
  rcases hv with ⟨h1, rfl, hkk⟩ | ⟨h1, h2, hv⟩
  · rw [hl.ty] at h1
    rw [if_pos h1]
    exact done_same h hA hkk 22
  · rw [hl.ty] at h2
    rw [if_neg (by rw [h1]; simp; exact h2)]
    rcases hv with ⟨j, q, L', hj, hkey, rfl, hkk, hL', hm'⟩ | ⟨hno, rfl, hkk⟩
    · rw [exact_one ok h1 (hl.exact hj hkey)]
      refine ⟨rfl, h.same hA hq hkk (fun p hp => ?_) hm' (hl.erase j L') rfl hL' (fun y hy => ⟨y, List.mem_of_mem_eraseIdx hy, rfl⟩)⟩
      rcases hp with hp | hp
      · exact .inl hp
      · exact .inr (.inl hp)
    · rw [pick_none (hl.noexact hno)]
      exact done_same h hA hkk 2
theorem ppush_ret (h : Placed w N ms cs) (hA : ms[i]? = some A) (hq : N.mm[i]? = some (b, M)) (ok : AOk A) (hfz : A.frozen = false) {xb xo xc : Nat} {m : List Nat} {fl : Int} (hV : A.vs = m.length) (hmx : ∀ x ∈ m, x ≤ 255)
    (hx : ∀ (j x : Nat), m[j]? = some x → wcell w xb (xo + j) = some (.int .u8 x)) :
    Ret Tryz.prog 13 [.pointer (some ⟨b, 0, none⟩), .slice (some ⟨xb, xo, none⟩) m.length xc, .int .u64 fl] w fun v w' => DoneP w N ms cs i (pushX A cs i (fun j => ((m.getD j 0 : Nat) : Int)) fl) v w' := by
  obtain ⟨hm, hl⟩ := h.low hA hq
  obtain ⟨s1, s2, s3, s4, s5, s6, s7, s8, s9, _⟩ := spec_facts ok
  have hlen := ok.len
  have hll := hl.len
  refine (xpush_ret b M xb xo xc m fl w hm (by rw [hl.vs]; exact hV) (by omega) (by omega) hmx (by omega) (by rw [hl.frozen]; exact hfz) hx).mono fun v w' hv => ?_
  unfold pushX
  unfold PushG at hv
  rcases hv with ⟨h1, rfl, hkk⟩ | ⟨h1, h2, hv⟩
  · rw [hl.ty] at h1
    rw [if_pos (by rcases h1 with h1 | h1; exact .inl (by simp [linedX, h1]); exact .inr h1)]
    exact done_same h hA hkk 22
  · rw [hl.ty] at h1
    rw [if_neg (by simp [linedX, h2]; omega)]
    rcases hv with ⟨f1, rfl, hkk⟩ | ⟨f1, rfl, hkk, L', a, a1, a3, a2, a4, a5, a6, a7, hm'⟩
    · rw [hl.cap, hll] at f1
      rw [if_pos f1]
      exact done_same h hA hkk 7
    · rw [hl.cap, hll] at f1
      rw [if_neg f1]
      refine ⟨rfl, h.grow hA hq hkk (fun p hp => ?_) hm' (a := a) (x := fun j => ((m.getD j 0 : Nat) : Int)) ?_ rfl a7 (fun e he => ?_) a2 (List.mem_append.2 (.inr (List.mem_singleton.2 rfl))) a4 a5 a6⟩
      · rcases hp with hp | hp
        · exact .inl hp
        · exact .inr (.inl hp)
      · have := hl.snoc (a := a) (e := ⟨⟨#[]⟩, cs.length, 0⟩) (ck := A.clock) (L := L') (cb' := fun c => if c = cs.length then a.cb else N.cb c) (vb' := fun c => if c = cs.length then a.vb else N.vb c) (x := ⟨i, fun j => ((m.getD j 0 : Nat) : Int)⟩) rfl rfl a1 a3 (by rw [if_pos rfl]) (by rw [if_pos rfl]) a2 (fun c hc => if_neg (by omega)) (fun c hc => if_neg (by omega))
        rw [← hl.clock] at this
        have hc2 := hl.clock
        have hA2 : ({ A with clock := M.clock, l := A.l ++ [⟨⟨#[]⟩, cs.length, 0⟩] } : XMap) = { A with l := A.l ++ [⟨⟨#[]⟩, cs.length, 0⟩] } := by rw [hc2]
        rw [hA2] at this
        exact this
      · rcases List.mem_append.1 he with he | he
        · exact .inr ⟨e, he, rfl⟩
        · exact .inl (List.mem_singleton.1 he)
def NextP (w : World) (cs : List XCell) (A : XMap) (v : Value) (w' : World) : Prop :=
  match peekX A with
  | none => v = .tuple #[.slice none 0 0, .int .i64 2]
  | some id => ∃ c nb cap, cs[id]? = some c ∧ v = .tuple #[.slice (some ⟨nb, 0, none⟩) A.vs cap, .int .i64 0] ∧ w.heap.size ≤ nb ∧ ∀ j, j < A.vs → wcell w' nb j = some (.int .u8 (c.val j))
theorem next_like {cb vb : Nat → Nat} {s : Nat} (hl : Like cb vb cs s A M) : nextAtM M = nextX A := by unfold nextAtM nextX; rw [hl.ty, hl.len]
theorem ppeek_ret (h : Placed w N ms cs) (hA : ms[i]? = some A) (hq : N.mm[i]? = some (b, M)) (ok : AOk A) (hty : linedX A = true) :
    Ret Tryz.prog 95 [.pointer (some ⟨b, 0, none⟩)] w fun v w' => NextP w cs A v w' ∧ Kept none' w w' := by
  obtain ⟨hm, hl⟩ := h.low hA hq
  obtain ⟨s1, s2, s3, s4, s5, s6, s7, s8, s9, _⟩ := spec_facts ok
  have hty' : M.ty = 3 ∨ M.ty = 4 := by rw [hl.ty]; simpa [linedX] using hty
  refine (peek_ret b M w hm hty' (by rw [hl.vs]; omega)).mono fun v w' hv => ?_
  obtain ⟨hkk, hv⟩ := hv
  refine ⟨?_, hkk⟩
  unfold NextP peekX
  rcases hv with ⟨h0, rfl⟩ | ⟨e, nb, c, he, rfl, hnb, hby⟩
  · have h0' : A.l = [] := List.length_eq_zero_iff.1 (by rw [← hl.len]; exact h0)
    simp [h0']
  · rw [next_like hl] at he
    obtain ⟨x, y, g1, g2, g3, g4, g5, g6, g7, g8⟩ := hl.back he
    rw [g1]
    simp only [Option.map_some]
    rw [hl.vs] at hby ⊢
    exact ⟨y, nb, c, g2, rfl, hnb, fun j hj => by rw [← g8]; exact hby j hj⟩
theorem ppop_ret (h : Placed w N ms cs) (hA : ms[i]? = some A) (hq : N.mm[i]? = some (b, M)) (ok : AOk A) (hty : linedX A = true) (hfz : A.frozen = false) :
    Ret Tryz.prog 96 [.pointer (some ⟨b, 0, none⟩)] w fun v w' => NextP w cs A v w' ∧ OutP w N cs (ms.set i (popX A)) cs w' := by
  obtain ⟨hm, hl⟩ := h.low hA hq
  obtain ⟨s1, s2, s3, s4, s5, s6, s7, s8, s9, _⟩ := spec_facts ok
  have hty' : M.ty = 3 ∨ M.ty = 4 := by rw [hl.ty]; simpa [linedX] using hty
  refine (pop_ret b M w hm hty' (by rw [hl.vs]; omega) (by rw [hl.frozen]; exact hfz)).mono fun v w' hv => ?_
  unfold NextP peekX popX
  rcases hv with ⟨h0, rfl, hkk⟩ | ⟨e, nb, c, L', he, rfl, hnb, hby, hkk, hL', hm'⟩
  · have h0' : A.l = [] := List.length_eq_zero_iff.1 (by rw [← hl.len]; exact h0)
    refine ⟨by simp [h0'], ?_⟩
    rw [if_pos (by rw [h0']; rfl), set_self hA]
    exact out_same h hkk
  · rw [next_like hl] at he hm'
    obtain ⟨x, y, g1, g2, g3, g4, g5, g6, g7, g8⟩ := hl.back he
    have hlt := (List.getElem?_eq_some_iff.1 g1).1
    rw [if_neg (by omega), g1]
    simp only [Option.map_some]
    refine ⟨?_, h.same hA hq hkk (fun p hp => ?_) hm' (hl.erase _ L') rfl hL' (fun y hy => ⟨y, List.mem_of_mem_eraseIdx hy, rfl⟩)⟩
    · rw [hl.vs] at hby ⊢
      exact ⟨y, nb, c, g2, rfl, hnb, fun j hj => by rw [← g8]; exact hby j hj⟩
    · rcases hp with hp | hp
      · exact .inl hp
      · exact .inr (.inl hp)
end
end Go.Proofs.YtmfgdbapankamaaGreat
namespace Go.Proofs.YtmfgdbapankamaaGreat
open Go.Eng
def reval (vb : Nat) (y : Nat → Int) (e : BEnt) : BEnt := if e.vb = vb then { e with val := y } else e
theorem reval_eb (vb : Nat) (y : Nat → Int) (e : BEnt) : (reval vb y e).eb = e.eb := by unfold reval; split <;> rfl
theorem reval_cb (vb : Nat) (y : Nat → Int) (e : BEnt) : (reval vb y e).cb = e.cb := by unfold reval; split <;> rfl
theorem reval_vb (vb : Nat) (y : Nat → Int) (e : BEnt) : (reval vb y e).vb = e.vb := by unfold reval; split <;> rfl
theorem reval_cells (vb : Nat) (y : Nat → Int) (e : BEnt) : (reval vb y e).cells = e.cells := by unfold reval; split <;> rfl
theorem MapAt.reval {w w' : World} {b vb : Nat} {M : BMap} {y : Nat → Int} (h : MapAt w b M) (hk : Kept (· = vb) w w') (hu : ∃ cs, w.heap[vb]? = some (.cells cs 5 (0, 0))) (hv : VBytes w' vb M.vs y) (hy : ∀ j, 0 ≤ y j ∧ y j ≤ 255) :
    MapAt w' b { M with l := M.l.map (Go.Proofs.YtmfgdbapankamaaGreat.reval vb y) } := by
  obtain ⟨us, hu⟩ := hu
  have nb : ∀ {j : Nat} {cs : Array Value} {T : TypeId}, w.heap[j]? = some (.cells cs T (0, 0)) → T ≠ 5 → j ≠ vb := fun hj hT => heap_ne hj hu hT
  refine ⟨hk.has h.blk (nb h.blk (by decide)), ?_, ?_, ?_, by simpa using h.small, h.clock⟩
  · have hr : RowAt w' M.L M.l := h.row.keep hk fun j hj => by obtain ⟨cur, g⟩ := h.row.blk hj; exact nb g (by decide)
    rcases hr with ⟨h1, h2⟩ | ⟨g, cap, cur, h1, h2, h3, h4, h5, h6⟩
    · exact .inl ⟨h1, by rw [h2]; rfl⟩
    · refine .inr ⟨g, cap, cur, by rw [List.length_map]; exact h1, h2, by rw [List.length_map]; exact h3, h4, h5, fun i e hi => ?_⟩
      rw [List.getElem?_map, Option.map_eq_some_iff] at hi
      obtain ⟨e0, h7, rfl⟩ := hi
      rw [reval_eb]
      exact h6 i e0 h7
  · intro e he
    obtain ⟨e0, h1, rfl⟩ := List.mem_map.1 he
    have hE := h.ents e0 h1
    obtain ⟨c, hc1, hc2⟩ := hE.cell
    refine ⟨by rw [reval_eb, reval_cells]; exact hk.has hE.ent (nb hE.ent (by decide)), ⟨c, hc1, by rw [reval_cb, reval_vb]; exact hk.has hc2 (nb hc2 (by decide))⟩, ?_, ?_⟩
    · rw [reval_vb]
      by_cases hq : e0.vb = vb
      · have : (Go.Proofs.YtmfgdbapankamaaGreat.reval vb y e0).val = y := by unfold Go.Proofs.YtmfgdbapankamaaGreat.reval; rw [if_pos hq]
        rw [this, hq]
        exact hv
      · have : (Go.Proofs.YtmfgdbapankamaaGreat.reval vb y e0).val = e0.val := by unfold Go.Proofs.YtmfgdbapankamaaGreat.reval; rw [if_neg hq]
        rw [this]
        exact VBytes.keep hE.val hk hq
    · unfold Go.Proofs.YtmfgdbapankamaaGreat.reval
      split
      · exact hy
      · exact hE.byte
  · refine List.pairwise_map.2 (h.apart.imp fun {a c} hac => ?_)
    unfold Go.Proofs.YtmfgdbapankamaaGreat.apart at hac ⊢
    rw [reval_eb, reval_eb, reval_cb, reval_cb, reval_vb, reval_vb]
    exact hac
theorem cset_get {cs : List XCell} {c : Nat} {x y : XCell} (hc : cs[c]? = some x) (d : Nat) : (cs.set c y)[d]? = if d = c then some y else cs[d]? := by
  rw [List.getElem?_set]
  by_cases h : c = d
  · subst h
    rw [if_pos rfl, if_pos (List.getElem?_eq_some_iff.1 hc).1, if_pos rfl]
  · rw [if_neg h, if_neg (fun e => h e.symm)]
theorem Placed.write {w w' : World} {N : Names} {ms : List XMap} {cs : List XCell} (h : Placed w N ms cs) {c : Nat} {x : XCell} (hc : cs[c]? = some x) {y : Nat → Int} (hk : Kept (· = N.vb c) w w') (hv : VBytes w' (N.vb c) (vsOf ms x.slot) y) (hy : ∀ j, 0 ≤ y j ∧ y j ≤ 255) :
    OutP w N cs ms (cs.set c { x with val := y }) w' := by
  obtain ⟨hsl, hcell⟩ := h.cell c x hc
  have hA : ms[x.slot]? = some ms[x.slot] := List.getElem?_eq_getElem hsl
  generalize ms[x.slot] = A at hA
  obtain ⟨b, M, hq, hm, hl⟩ := h.get hA
  have hmem := List.mem_of_getElem? hq
  have hclt := (List.getElem?_eq_some_iff.1 hc).1
  have hvs : vsOf ms x.slot = M.vs := by unfold vsOf; rw [hA, hl.vs]; rfl
  have hu := hcell.vblk
  have hM' := hm.reval hk hu (hvs ▸ hv) hy
  have hget := cset_get (y := { x with val := y }) hc
  have hL' : Like N.cb N.vb (cs.set c { x with val := y }) x.slot A { M with l := M.l.map (reval (N.vb c) y) } := by
    refine ⟨hl.ty, hl.ks, hl.vs, hl.cap, hl.frozen, hl.clock, by show (M.l.map _).length = _; rw [List.length_map]; exact hl.len, fun j e hj => ?_⟩
    obtain ⟨q, d, g1, g2, g3, g4, g5, g6, g7, g8⟩ := hl.ent j e hj
    have gl := (List.getElem?_eq_some_iff.1 g2).1
    show ∃ q d, (M.l.map _)[j]? = some q ∧ _
    rw [List.getElem?_map, g1, Option.map_some]
    by_cases he : e.id = c
    · have hqv : q.vb = N.vb c := by rw [g7, he]
      refine ⟨_, { x with val := y }, rfl, by rw [hget, if_pos he], rfl, ?_⟩
      unfold reval
      rw [if_pos hqv]
      exact ⟨g4, g5, g6, g7, rfl⟩
    · have hqv : ¬ q.vb = N.vb c := by rw [g7]; exact fun e1 => he (h.ivb _ _ gl hclt e1)
      refine ⟨_, d, rfl, by rw [hget, if_neg he]; exact g2, g3, ?_⟩
      unfold reval
      rw [if_neg hqv]
      exact ⟨g4, g5, g6, g7, g8⟩
  have hst := h.step hA hq hk (fun j _ hj => .inr (.inr (.inr ⟨c, x, hc, rfl, hj⟩))) hM' hL' rfl (fun _ _ => rfl) (fun _ _ => rfl) (fun d z hd => by
      rw [hget]
      by_cases he : d = c
      · subst he
        rw [hc] at hd; cases hd
        exact ⟨{ x with val := y }, by rw [if_pos rfl], rfl, fun hn => absurd rfl hn⟩
      · exact ⟨z, by rw [if_neg he]; exact hd, rfl, fun _ => rfl⟩) (fun d z hd => by
      rw [hget] at hd
      by_cases he : d = c
      · subst he
        rw [if_pos rfl] at hd; cases hd
        refine ⟨hsl, ⟨?_, hv, hy⟩⟩
        obtain ⟨k, k1, k2⟩ := hcell.box
        obtain ⟨us, hu⟩ := hu
        exact ⟨k, k1, hk.has k2 (heap_ne k2 hu (by decide))⟩
      · rw [if_neg he] at hd
        obtain ⟨d1, d2⟩ := h.cell d z hd
        refine ⟨d1, d2.keep hk (fun e1 => ?_) (fun e1 => he (h.ivb _ _ (List.getElem?_eq_some_iff.1 hd).1 hclt e1))⟩
        obtain ⟨_, k1⟩ := d2.cblk
        obtain ⟨us, hu⟩ := hu
        exact heap_ne k1 hu (by decide) e1) (by rw [List.length_set]; exact h.icb) (by rw [List.length_set]; exact h.ivb) (.inl rfl) (fun e he => by
      obtain ⟨e0, h1, rfl⟩ := List.mem_map.1 he
      exact .inl ⟨e0, h1, by rw [reval_eb]⟩)
  rw [set_self hA] at hst
  refine ⟨_, hst, ⟨fun _ _ => rfl, fun _ _ => rfl, mm_set hq, fun j hj => .inl ?_, by rw [List.length_set]; exact Nat.le_refl _⟩, hk.mono fun j _ hj => .inr ⟨c, hclt, .inr hj⟩⟩
  rw [List.length_set] at hj
  rcases hj with ⟨r, hr, hj⟩ | hj
  · rcases List.mem_or_eq_of_mem_set hr with h4 | rfl
    · exact .inl ⟨r, h4, hj⟩
    · rcases hj with h4 | h4 | ⟨e, h4, h5⟩
      · exact .inl ⟨_, hmem, .inl h4⟩
      · exact .inl ⟨_, hmem, .inr (.inl h4)⟩
      · obtain ⟨e0, h6, rfl⟩ := List.mem_map.1 h4
        exact .inl ⟨_, hmem, .inr (.inr ⟨e0, h6, by rw [h5, reval_eb]⟩)⟩
  · exact .inr hj
end Go.Proofs.YtmfgdbapankamaaGreat
namespace Go.Proofs.YtmfgdbapankamaaGreat
open Go.Eng
set_option maxHeartbeats 4000000 in
theorem xvload_ret (b : Nat) (k : VK) (s : VSt) (x : Ins) (p : Parts) (w : World) (hm : IsMach w b k s) (hd : x.dst < 11) (hx : x.src < 11) (v : RVal) (e : Int) (hv : Ext w.heap.size (.pointer v.cell)) (t1 : T Tryz.prog w 63 [.pointer (some ⟨k.bm, 0, none⟩), .agg (s.r x.src).arr, .int .i64 (IntKind.i64.wrap x.off), .int .i64 p.size] = some (.tuple #[.agg v.arr, .int .i64 e])) :
    Ret Tryz.prog 38 [.pointer (some ⟨b, 0, none⟩), .agg x.arr, .agg p.arr] w (OutS b k s w (if e = 0 then setOf s x.dst v else none)) := by
  refine ret_of_W Tryz.func38 rfl ok_vm_machine_load ?_
  have hb := blk_lt hm
  have hx' : (x.src : Int) < 11 := by omega
  have e0 := mach_rrow hm x.src hx
  have e37 := mach_bm hm
  have xv := rval_ext w.heap.size _ hv
  simp only [c_vm_machine_load, zero_val]
  rw [W_assoc, W_seq]
  refine W_seg [.v (.pointer (some ⟨b, 0, none⟩)), .v (.agg x.arr), .v (.agg p.arr), .v (.bool false), .p 74 x.arr, .p 103 p.arr, .any, .p 68 v.arr, .v (.int .i64 e), .any, .any, .any, .any, .any, .any] (by simp [hb]) (by simp_all [slsOk, Sl.ok]) (fun B hB => ?_) fun w1 hk =>
    open_v (open_v (open_v (open_v (open_p fun p4 _ h4 => open_p fun p5 _ h5 => open_any fun u6 => open_p fun p7 _ h7 => open_v (open_any fun _ => open_any fun _ => open_any fun _ => open_any fun _ => open_any fun _ => open_any fun _ => open_nil ?_)))))
  · have e1 : ∀ l, wrow (ownW B l) b (38 + x.src * 4) 4 = some (s.r x.src).arr := fun l => own_extR hB e0
    have e2 : ∀ l, wcell (ownW B l) b 37 = some (.pointer (some ⟨k.bm, 0, none⟩)) := fun l => own_ext hB e37
    simp [C_cond_eq, C_alt, e1, e2, hx', t1, slsIs, Sl.is]
  · have hm1 : IsMach w1 b k s := mach_keep hm hk (fun h => h)
    have hkb : Kept (· = b) w w1 := hk.mono fun _ _ h => h.elim
    by_cases he : e = 0
    · subst he
      rw [if_pos rfl]
      simp [wcell_of h4, rval_row h7]
      refine W_yes (by simp) ?_
      refine W_call0 (by simp [wcell_of h4, rval_row h7]) (set_ret b k s x.dst v w1 hm1 hd) ?_
      rintro r w5 ⟨hk5, rfl, hm5⟩
      simp
      exact ⟨hkb.trans hk5, rfl, hm5⟩
    · rw [if_neg he]
      simp [he]
      refine W_no (by simp [he]) ?_
      simp [he]
      exact ⟨hkb, rfl, hm1⟩
structure GAt (w : World) (b : Nat) (k : VK) (N : Names) (mv : Value) (G : GSt) : Prop where
  mach : IsMach w b k (G.s.ren N.cb)
  mem : IsMem w k.bm (G.m.ren N.cb mv)
  maps : MapsAt w mv (N.mm.map (·.1))
  apart : ∀ j, mv.ownBlock = some j → ¬ N.own G.cs.length j ∧ j ≠ b ∧ j ≠ k.bm
  placed : Placed w N G.ms G.cs
  low : ∀ j, mv.ownBlock = some j → j < k.bm
structure GOk (G : GSt) : Prop where
  reg : ∀ i, VOk G.cs (G.s.r i)
  kept : ∀ i, VOk G.cs (G.m.kept i)
  bytes : BytesOk G.m
  maps : ∀ A ∈ G.ms, AOk A
  slots : ∀ c ∈ G.cs, c.slot < G.ms.length
  luck : 0 ≤ G.s.luck
section
variable {w : World} {b : Nat} {k : VK} {N : Names} {mv : Value} {G : GSt}
theorem GAt.nb (h : GAt w b k N mv G) : ¬ N.own G.cs.length b := fun hj => by
  obtain ⟨cs, T, h1, h2⟩ := h.placed.own_ty hj
  refine heap_ne h1 h.mach (by rcases h2 with rfl | rfl | rfl | rfl | rfl <;> decide) rfl
theorem GAt.nm (h : GAt w b k N mv G) : ¬ N.own G.cs.length k.bm := fun hj => by
  obtain ⟨cs, T, h1, h2⟩ := h.placed.own_ty hj
  refine heap_ne h1 h.mem (by rcases h2 with rfl | rfl | rfl | rfl | rfl <;> decide) rfl
theorem GAt.ne (h : GAt w b k N mv G) : k.bm ≠ b := heap_ne h.mem h.mach (by decide)
theorem GAt.calm (h : GAt w b k N mv G) {w' : World} (hk : Kept none' w w') : GAt w' b k N mv G :=
  ⟨hk.has h.mach fun h => h, hk.has h.mem fun h => h, h.maps.keep hk fun _ _ h => h, h.apart, h.placed.calm hk, h.low⟩
theorem VOk.ext (h : Placed w N G.ms G.cs) {v : RVal} (hv : VOk G.cs v) : Ext w.heap.size (.pointer (v.ren N.cb).cell) := by
  by_cases h5 : v.tag = 5
  · obtain ⟨id, c, h1, h2, _⟩ := hv.five h5
    have hlt := h.own_lt (j := N.cb id) (.inr ⟨id, (List.getElem?_eq_some_iff.1 h2).1, .inl rfl⟩)
    unfold RVal.ren
    rw [h1]
    simpa using hlt
  · have := hv.none h5
    unfold RVal.ren
    rw [this]
    simp
theorem GAt.ext (h : GAt w b k N mv G) {v : RVal} (hv : VOk G.cs v) : Ext w.heap.size (.pointer (v.ren N.cb).cell) := hv.ext h.placed
theorem GOk.se (h : GAt w b k N mv G) (ok : GOk G) : SE w.heap.size (G.s.ren N.cb) := fun i => ⟨h.ext (ok.reg i), (ok.reg i).n⟩
theorem vok_loadOf {cs : List XCell} {m : RMem} (hk : ∀ i, VOk cs (m.kept i)) (hb : BytesOk m) (a : RVal) (off n : Int) : VOk cs (loadOf m a off n).1 := by
  unfold loadOf
  split
  · unfold loadC
    split
    · exact ⟨(leN_bound _ (fun j => hb.2 _) _).1, fun h => by simp at h, fun _ => rfl, fun _ => rfl⟩
    · exact vok_zero cs
  · split
    · unfold loadS
      split
      · split
        · exact hk _
        · split
          · exact ⟨(leN_bound _ (fun j => hb.1 _) _).1, fun h => by simp at h, fun _ => rfl, fun _ => rfl⟩
          · exact vok_zero cs
      · exact vok_zero cs
    · exact vok_zero cs
theorem vok_loadV {cs : List XCell} {x : Nat → Int} (hx : ∀ j, 0 ≤ x j ∧ x j ≤ 255) (V : Nat) (s n : Int) : VOk cs (loadV x V s n).1 := by
  unfold loadV
  split
  · exact ⟨(leN_bound _ (fun j => hx _) _).1, fun h => by simp at h, fun _ => rfl, fun _ => rfl⟩
  · exact vok_zero cs
theorem vok_load (h : Placed w N G.ms G.cs) (ok : GOk G) (a : RVal) (off n : Int) : VOk G.cs (gloadOf G a off n).1 := by
  unfold gloadOf
  split
  · split
    · rename_i c hc
      cases ha : a.cell with
      | none => rw [ha] at hc; cases hc
      | some p =>
        rw [ha] at hc
        exact vok_loadV (h.cell _ _ hc).2.byte _ _ _
    · exact vok_zero _
  · exact vok_loadOf ok.kept ok.bytes _ _ _
theorem vs_small (ok : ∀ A ∈ G.ms, AOk A) (i : Nat) : vsOf G.ms i ≤ 64 := by
  unfold vsOf
  cases h : G.ms[i]? with
  | none => simp
  | some A => have := (spec_facts (ok A (List.mem_of_getElem? h))).2.1; simpa using this
theorem gload_ret (h : GAt w b k N mv G) (ok : GOk G) {a : RVal} (ha : VOk G.cs a) (off n : Int) (ho1 : -9223372036854775808 ≤ off) (ho2 : off ≤ 9223372036854775807) :
    Ret Tryz.prog 63 [.pointer (some ⟨k.bm, 0, none⟩), (a.ren N.cb).val, .int .i64 off, .int .i64 n] w
      fun v w' => Kept none' w w' ∧ v = .tuple #[((gloadOf G a off n).1.ren N.cb).val, .int .i64 (gloadOf G a off n).2] := by
  by_cases h5 : a.tag = 5
  · obtain ⟨id, c, h1, h2, h3⟩ := ha.five h5
    obtain ⟨hs, hcell⟩ := h.placed.cell id c h2
    obtain ⟨q, hbox⟩ := hcell.box
    have hc : (a.ren N.cb).cell = some ⟨N.cb id, 0, none⟩ := by unfold RVal.ren; rw [h1]; rfl
    refine (load_cell k.bm (N.cb id) (N.vb id) (vsOf G.ms c.slot) q _ c.val (a.ren N.cb) off n w h.mem h5 hc hbox hcell.val hcell.byte (by have := vs_small ok.maps c.slot; omega) ho1 ho2).mono fun v w' hv => ⟨hv.1, ?_⟩
    rw [hv.2]
    unfold gloadOf
    rw [if_pos h5, h1]
    simp only [Option.bind_some, h2, ren_n]
    have : (loadV c.val (vsOf G.ms c.slot) (IntKind.i64.wrap a.n + off) n).1.ren N.cb = (loadV c.val (vsOf G.ms c.slot) (IntKind.i64.wrap a.n + off) n).1 := by
      unfold loadV
      split <;> rfl
    rw [this]
  · refine (load_any k.bm _ (a.ren N.cb) off n w h.mem (by simpa using h5) ho1 ho2 ⟨ok.bytes.1, ok.bytes.2⟩).mono fun v w' hv => ⟨hv.1, ?_⟩
    rw [hv.2, loadOf_ren]
    unfold gloadOf
    rw [if_neg h5]
theorem gload_T (h : GAt w b k N mv G) (ok : GOk G) {a : RVal} (ha : VOk G.cs a) (off n : Int) (ho1 : -9223372036854775808 ≤ off) (ho2 : off ≤ 9223372036854775807) :
    T Tryz.prog w 63 [.pointer (some ⟨k.bm, 0, none⟩), .agg (a.ren N.cb).arr, .int .i64 off, .int .i64 n] = some (.tuple #[.agg ((gloadOf G a off n).1.ren N.cb).arr, .int .i64 (gloadOf G a off n).2]) :=
  T_of_ret (by kernel_rfl) (by have := rval_ext w.heap.size _ (h.ext ha); have := blk_lt h.mem; simp_all) (by have := rval_ext w.heap.size _ (h.ext (vok_load h.placed ok a off n)); simp_all) fun w' hk =>
    (gload_ret (h.calm hk) ok ha off n ho1 ho2).mono fun v w'' hv => ⟨hv.2, hv.1⟩
def OutG (b : Nat) (k : VK) (N : Names) (mv : Value) (G : GSt) (w : World) (o : Option GSt) (r : Value) (w' : World) : Prop :=
  r = .bool o.isSome ∧ ∃ N', GAt w' b k N' mv (o.getD G) ∧ NExt w N N' G.cs.length (o.getD G).cs.length ∧ Kept (fun j => j = b ∨ j = k.bm ∨ N.own G.cs.length j) w w'
theorem out_keep (h : GAt w b k N mv G) {w' : World} (hk : Kept none' w w') : OutG b k N mv G w none (.bool false) w' :=
  ⟨rfl, N, h.calm hk, NExt.refl _ _ _, hk.mono fun _ _ h => h.elim⟩
theorem GAt.out (h : GAt w b k N mv G) {o : Option VSt} {r : Value} {w' : World} (ho : OutS b k (G.s.ren N.cb) w (o.map (·.ren N.cb)) r w') : OutG b k N mv G w (o.map fun s => { G with s := s }) r w' := by
  obtain ⟨h1, h2, h3⟩ := ho
  have hk : ∀ j, mv.ownBlock = some j → ¬ (j = b) := fun j hj => (h.apart j hj).2.1
  refine ⟨by rw [h2]; cases o <;> rfl, N, ?_, by cases o <;> exact NExt.refl _ _ _, h1.mono fun j _ hj => .inl hj⟩
  cases o with
  | none => exact ⟨h3, h1.has h.mem h.ne, h.maps.keep h1 hk, h.apart, h.placed.keep h1 fun i hi e => h.nb (e ▸ hi), h.low⟩
  | some s => exact ⟨h3, h1.has h.mem h.ne, h.maps.keep h1 hk, h.apart, h.placed.keep h1 fun i hi e => h.nb (e ▸ hi), h.low⟩
def gloadStep (G : GSt) (x : Ins) (p : Parts) : Option GSt :=
  if (gloadOf G (G.s.r x.src) (IntKind.i64.wrap x.off) p.size).2 = 0 then (setOf G.s x.dst (gloadOf G (G.s.r x.src) (IntKind.i64.wrap x.off) p.size).1).map fun s => { G with s := s } else none
theorem gvload_ret (h : GAt w b k N mv G) (ok : GOk G) (x : Ins) (p : Parts) (hd : x.dst < 11) (hx : x.src < 11) :
    Ret Tryz.prog 38 [.pointer (some ⟨b, 0, none⟩), .agg x.arr, .agg p.arr] w (OutG b k N mv G w (gloadStep G x p)) := by
  have t1 := gload_T h ok (ok.reg x.src) (IntKind.i64.wrap x.off) p.size (i64_lo _) (i64_hi _)
  have hv := h.ext (vok_load h.placed ok (G.s.r x.src) (IntKind.i64.wrap x.off) p.size)
  refine (xvload_ret b k (G.s.ren N.cb) x p w h.mach hd hx _ _ hv t1).mono fun r w' hr => ?_
  unfold gloadStep
  rw [setOf_ren] at hr
  by_cases he : (gloadOf G (G.s.r x.src) (IntKind.i64.wrap x.off) p.size).2 = 0
  · rw [if_pos he] at hr ⊢
    exact h.out hr
  · rw [if_neg he] at hr ⊢
    exact h.out (o := none) hr
end
end Go.Proofs.YtmfgdbapankamaaGreat
