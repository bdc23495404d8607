/- Layer 20: a step leaves a machine that may be. -/
import Derived.Test.YtmfgdbapankamaaGreatGr29
import Derived.Test.YtmfgdbapankamaaGreatGr4
import Derived.Test.YtmfgdbapankamaaGreatRows
import Derived.Test.YtmfgdbapankamaaGreatGr18
import Derived.Test.YtmfgdbapankamaaGreatGr20
import Derived.Test.YtmfgdbapankamaaGreatGr13
import Derived.Test.YtmfgdbapankamaaGreatGr27
set_option linter.unusedSimpArgs false
set_option linter.unusedVariables false
set_option maxRecDepth 8000
namespace Go.Proofs.YtmfgdbapankamaaGreat
open Go.Eng
def Clk (ms ms' : List XMap) : Prop := ms'.length = ms.length ∧ ∀ C : Int, (∀ A ∈ ms, A.clock ≤ C) → ∀ A ∈ ms', A.clock ≤ C + 1
theorem Clk.refl (ms : List XMap) : Clk ms ms := ⟨rfl, fun C h A hA => by have := h A hA; omega⟩
theorem clk_set {ms : List XMap} {i : Nat} {A A' : XMap} (hA : ms[i]? = some A) (h : A'.clock ≤ A.clock + 1) : Clk ms (ms.set i A') :=
  ⟨List.length_set, fun C hC B hB => by
    rcases mem_set_or hB with rfl | hB
    · have := hC A (List.mem_of_getElem? hA); omega
    · have := hC B hB; omega⟩
theorem clk_cell {A A' : XMap} {k : ByteArray} {id : Nat} (h : cellX A k = some (A', id)) : A'.clock ≤ A.clock + 1 := by
  unfold cellX at h
  split at h
  · cases h
  split at h
  · cases h
  split at h
  · cases h
  · cases h
    show A.clock + 1 ≤ A.clock + 1
    omega
theorem clk_upd (A : XMap) (cs : List XCell) (slot : Nat) (k : ByteArray) (x : Nat → Int) (fl : Int) : (updX A cs slot k x fl).2.1.clock ≤ A.clock + 1 := by
  unfold updX
  repeat' split
  all_goals first | (show A.clock ≤ A.clock + 1; omega) | (show A.clock + 1 ≤ A.clock + 1; omega)
theorem clk_del (A : XMap) (k : ByteArray) : (delX A k).2.clock ≤ A.clock + 1 := by
  unfold delX
  repeat' split
  all_goals (show A.clock ≤ A.clock + 1; omega)
theorem clk_push (A : XMap) (cs : List XCell) (slot : Nat) (x : Nat → Int) (fl : Int) : (pushX A cs slot x fl).2.1.clock ≤ A.clock + 1 := by
  unfold pushX
  repeat' split
  all_goals (show A.clock ≤ A.clock + 1; omega)
theorem clk_pop (A : XMap) : (popX A).clock ≤ A.clock + 1 := by
  unfold popX
  split
  all_goals (show A.clock ≤ A.clock + 1; omega)
theorem cell_id {A A' : XMap} {k : ByteArray} {id : Nat} (h : cellX A k = some (A', id)) : ∃ e ∈ A.l, e.id = id := by
  unfold cellX at h
  split at h
  · cases h
  split at h
  · cases h
  split at h
  · cases h
  · rename_i e he
    cases h
    exact ⟨e, List.mem_of_getElem? he, rfl⟩
def EOk (ms : List XMap) (cs : List XCell) : Prop := ∀ (i : Nat) (A : XMap), ms[i]? = some A → ∀ e ∈ A.l, ∃ c, cs[e.id]? = some c ∧ c.slot = i
theorem Placed.eok {w : World} {N : Names} {ms : List XMap} {cs : List XCell} (h : Placed w N ms cs) : EOk ms cs := fun i A hA e he => by
  obtain ⟨b, M, _, _, hl⟩ := h.get hA
  obtain ⟨j, hj⟩ := List.mem_iff_getElem?.1 he
  obtain ⟨_, c, _, h1, h2, _⟩ := hl.ent j e hj
  exact ⟨c, h1, h2⟩
section
variable {G : GSt}
theorem fill_bytes (hb : CBytes G.cs) (a : RVal) {y : Nat → Int} (hy : ∀ j, 0 ≤ y j ∧ y j ≤ 255) (n : Nat) : CBytes (gfillOf G a y n).1.cs := by
  unfold gfillOf
  split
  · split
    · exact hb
    · exact hb
  · split
    · split
      · exact hb
      · split
        · exact hb
        · rename_i c hc
          split
          · refine mem_set_all hb fun j => ?_
            show 0 ≤ rowV _ _ _ _ j ∧ rowV _ _ _ _ j ≤ 255
            unfold rowV
            split
            · exact hy _
            · exact hb c (List.mem_of_getElem? hc) j
          · exact hb
    · exact hb
theorem hfind_ok (ok : GOk G) (he : EOk G.ms G.cs) {i : Nat} {A : XMap} (hA : G.ms[i]? = some A) (h1 : (G.s.r 1).slot = (i : Nat)) {q : GSt × RVal} (h : hfindOf G i A = some q) : GOk q.1 ∧ VOk q.1.cs q.2 ∧ Clk G.ms q.1.ms := by
  unfold hfindOf at h
  split at h
  · cases h
  split at h
  · cases h
  split at h
  · cases h; exact ⟨ok, vok_num _ (by omega), Clk.refl _⟩
  · rename_i A' id hc
    cases h
    obtain ⟨e, hm, rfl⟩ := cell_id hc
    obtain ⟨c, hc1, hc2⟩ := he i A hA e hm
    exact ⟨ok.maps' ((ok.maps A (List.mem_of_getElem? hA)).cell hc) (fun _ h => h) ok.slots, ⟨by simp, fun _ => ⟨e.id, c, rfl, hc1, by show (G.s.r 1).slot = _; rw [h1, hc2]⟩, fun h => absurd rfl h, fun h => by simp at h⟩, clk_set hA (clk_cell hc)⟩
theorem hchange_ok (ok : GOk G) {i : Nat} {A : XMap} (hA : G.ms[i]? = some A) {helper : Int} {q : GSt × RVal} (h : hchangeOf G i A helper = some q) : GOk q.1 ∧ VOk q.1.cs q.2 ∧ Clk G.ms q.1.ms := by
  unfold hchangeOf at h
  have okA := ok.maps A (List.mem_of_getElem? hA)
  have hi := (List.getElem?_eq_some_iff.1 hA).1
  split at h
  · cases h
  split at h
  · cases h
  split at h
  · split at h
    · cases h
    · cases h
      exact ⟨ok.maps' (okA.del _) (fun _ h => h) ok.slots, minus_ok _ _, clk_set hA (clk_del _ _)⟩
  · split at h
    · cases h
    · split at h
      · cases h
        exact ⟨ok.maps' (okA.upd _ _ _ _ _) (fun _ h => vok_upd h _ _ _ _ _) (slot_upd ok.slots _ hi _ _ _), minus_ok _ _, clk_set hA (clk_upd _ _ _ _ _ _)⟩
      · cases h
theorem hpush_ok (ok : GOk G) {i : Nat} {A : XMap} (hA : G.ms[i]? = some A) {q : GSt × RVal} (h : hpushOf G i A = some q) : GOk q.1 ∧ VOk q.1.cs q.2 ∧ Clk G.ms q.1.ms := by
  unfold hpushOf at h
  have okA := ok.maps A (List.mem_of_getElem? hA)
  have hi := (List.getElem?_eq_some_iff.1 hA).1
  split at h
  · cases h
  split at h
  · cases h
  split at h
  · cases h
    exact ⟨ok.maps' (okA.push _ _ _ _) (fun _ h => vok_push h _ _ _ _) (slot_push ok.slots _ hi _ _), minus_ok _ _, clk_set hA (clk_push _ _ _ _ _)⟩
  · cases h
theorem hnext_ok (ok : GOk G) (hb : CBytes G.cs) {i : Nat} {A : XMap} (hA : G.ms[i]? = some A) {helper : Int} {q : GSt × RVal} (h : hnextOf G i A helper = some q) : GOk q.1 ∧ VOk q.1.cs q.2 ∧ Clk G.ms q.1.ms := by
  unfold hnextOf at h
  have okA := ok.maps A (List.mem_of_getElem? hA)
  have ok1 := ok.fill (G.s.r 2) (y := fun _ => 0) (fun _ => by simp) A.vs
  have hb1 := fill_bytes hb (G.s.r 2) (y := fun _ => 0) (fun _ => by simp) A.vs
  have hk1 := gfill_keeps G (G.s.r 2) (fun _ => 0) A.vs
  split at h
  · cases h
  split at h
  · cases h
  split at h
  · cases h
    refine ⟨ok1, minus_ok _ _, ?_⟩
    show Clk G.ms (gfillOf G (G.s.r 2) (fun _ => 0) A.vs).1.ms
    rw [hk1.2.1]
    exact Clk.refl _
  split at h
  · cases h
  rename_i id _ c hc
  cases h
  have hbc := hb1 c (List.mem_of_getElem? hc)
  generalize gfillOf G (G.s.r 2) (fun _ => 0) A.vs = F at *
  have ok2 : GOk (if helper = 88 then { F.1 with ms := G.ms.set i (popX A) } else F.1) := by
    split
    · rw [← hk1.2.1]
      exact ok1.maps' okA.pop (fun _ h => h) ok1.slots
    · exact ok1
  have hk2 : Clk G.ms (if helper = 88 then { F.1 with ms := G.ms.set i (popX A) } else F.1).ms := by
    split
    · exact clk_set hA (clk_pop A)
    · rw [hk1.2.1]; exact Clk.refl _
  refine ⟨ok2.fill _ hbc _, minus_ok _ _, ?_⟩
  show Clk G.ms (gfillOf _ _ _ _).1.ms
  rw [(gfill_keeps _ _ _ _).2.1]
  exact hk2
theorem ghelp_ok (ok : GOk G) (hb : CBytes G.cs) (he : EOk G.ms G.cs) {clock : Int} (hcl : 0 ≤ clock) {us : List Int} (hus : ∀ n ∈ us, 0 ≤ n) (hul : us.length < 4611686018427387904) {imm : Int} {q : GSt × RVal} (h : ghelpOf G clock us imm = some q) : GOk q.1 ∧ VOk q.1.cs q.2 ∧ Clk G.ms q.1.ms := by
  unfold ghelpOf at h
  split at h
  · cases h; exact ⟨ok, vok_num _ hcl, Clk.refl _⟩
  split at h
  · cases h
    obtain ⟨n, hn, hv⟩ := lucky_num G.s us hus
    have hl := ok.luck
    refine ⟨?_, by rw [hv]; exact vok_num _ hn, Clk.refl _⟩
    unfold luckyOf
    split
    · rename_i u hu
      have hlt : G.s.luck.toNat < us.length := (List.getElem?_eq_some_iff.1 hu).1
      refine ⟨ok.reg, ok.kept, ok.bytes, ok.maps, ok.slots, ?_⟩
      show 0 ≤ IntKind.i64.wrap (G.s.luck + 1)
      rw [i64w (by omega) (by omega)]
      omega
    · exact ok
  split at h
  · cases h
  rename_i i hi
  have h1 : (G.s.r 1).slot = (i : Nat) := by
    unfold argOf at hi
    split at hi
    · rename_i hh; cases hi; omega
    · cases hi
  split at h
  · cases h
  rename_i A hA
  split at h
  · exact hfind_ok ok he hA h1 h
  split at h
  · exact hchange_ok ok hA h
  split at h
  · exact hpush_ok ok hA h
  split at h
  · exact hnext_ok ok hb hA h
  · cases h
theorem GOk.pos (ok : GOk G) (x : Int) : GOk { G with s := { G.s with pos := x } } := ⟨ok.reg, ok.kept, ok.bytes, ok.maps, ok.slots, ok.luck⟩
theorem gsaveStep_ok (ok : GOk G) {x : Ins} {n : Int} {v : RVal} (hv : VOk G.cs v) {G' : GSt} (h : gsaveStep G x n v = some G') : GOk G' ∧ Clk G.ms G'.ms := by
  unfold gsaveStep at h
  split at h
  · cases h
    have h1 := ok.save (G.s.r x.dst) (IntKind.i64.wrap x.off) n hv
    have h2 := gsave_s G (G.s.r x.dst) (IntKind.i64.wrap x.off) n v
    refine ⟨?_, ?_⟩
    · have h3 := h1.pos (IntKind.i64.wrap (G.s.pos + 1))
      rw [h2.1] at h3
      exact h3
    · show Clk G.ms (gsaveOf G (G.s.r x.dst) (IntKind.i64.wrap x.off) n v).1.ms
      rw [h2.2.1]
      exact Clk.refl _
  · cases h
theorem gstep_ok (ok : GOk G) (hb : CBytes G.cs) (he : EOk G.ms G.cs) {xs : List Ins} {clock : Int} (hcl : 0 ≤ clock) {us : List Int} (hus : ∀ n ∈ us, 0 ≤ n) (hul : us.length < 4611686018427387904) {G' : GSt} (h : gstep xs clock us G = some G') : GOk G' ∧ Clk G.ms G'.ms := by
  unfold gstep at h
  split at h
  · cases h
  split at h
  · cases h
  rename_i x hx
  split at h
  · cases h
  generalize partsOf x.op = p at h
  have one : ∀ (o : Option VSt), (o.map fun s => { G with s := s }) = some G' → (∀ s, o = some s → GOk { G with s := s }) → GOk G' ∧ Clk G.ms G'.ms := by
    intro o ho hq
    cases o with
    | none => cases ho
    | some s => cases ho; exact ⟨hq _ rfl, Clk.refl _⟩
  unfold gstep1 at h
  split at h
  · exact one _ h fun s hs => ok.alu hs
  split at h
  · exact one _ h fun s hs => ok.jump hs
  split at h
  · cases h
    exact ⟨⟨ok.reg, ok.kept, ok.bytes, ok.maps, ok.slots, ok.luck⟩, Clk.refl _⟩
  split at h
  · unfold gcallOf at h
    cases hq : ghelpOf G clock us x.imm with
    | none => rw [hq] at h; cases h
    | some q =>
      rw [hq] at h
      cases h
      obtain ⟨k1, k2, k3⟩ := ghelp_ok ok hb he hcl hus hul hq
      refine ⟨⟨fun i => ?_, k1.kept, k1.bytes, k1.maps, k1.slots, k1.luck⟩, k3⟩
      show VOk q.1.cs (fset (clr5 q.1.s 6).r 0 q.2 i)
      unfold fset
      split
      · exact k2
      · show VOk q.1.cs (if 1 ≤ i ∧ i < 6 then RVal.zero else q.1.s.r i)
        split
        · exact vok_zero _
        · exact k1.reg i
  split at h
  · split at h
    · cases h; exact ⟨⟨ok.reg, ok.kept, ok.bytes, ok.maps, ok.slots, ok.luck⟩, Clk.refl _⟩
    · cases h
  split at h
  · unfold gloadStep at h
    split at h
    · exact one _ h fun s hs => ok.setR (vok_loadA ok hb _ _ _) hs
    · cases h
  split at h
  · exact gsaveStep_ok ok (ok.second x p.reg) h
  split at h
  · unfold gatomicStep at h
    split at h
    · cases hn : atomN x.imm (gloadOf G (G.s.r x.dst) (IntKind.i64.wrap x.off) p.size).1.n (G.s.r x.src).n with
      | none => rw [hn] at h; cases h
      | some n => rw [hn] at h; exact gsaveStep_ok ok (vok_num _ (atomN_ok hn)) h
    · cases h
  split at h
  · unfold gwideOf at h
    split at h
    · cases h
    split at h
    · split at h
      · cases h
      · rename_i v hv
        refine one ((setOf G.s x.dst v).map fun s => { s with pos := IntKind.i64.wrap (s.pos + 1) }) ?_ ?_
        · rw [Option.map_map]; exact h
        · intro s hs
          cases hq : setOf G.s x.dst v with
          | none => rw [hq] at hs; cases hs
          | some t =>
            rw [hq] at hs
            cases hs
            exact (ok.setR (gwideV_ok hv).1 hq).pos (IntKind.i64.wrap (t.pos + 1))
    · cases h
  · cases h
end
end Go.Proofs.YtmfgdbapankamaaGreat
namespace Go.Proofs.YtmfgdbapankamaaGreat
open Go.Eng
end Go.Proofs.YtmfgdbapankamaaGreat
namespace Go.Proofs.YtmfgdbapankamaaGreat
open Go.Eng
theorem mapsAt_row {w : World} {v : Value} {bs : List Nat} (hl : bs.length ≤ 1000) (h : Eng.Row 45 1 w v bs.length (bs.map fun b => Value.pointer (some ⟨b, 0, none⟩))) : MapsAt w v bs := by
  rcases h.2 with ⟨rfl, h0⟩ | ⟨g, cap, cur, rfl, hb, h2, h3, h4, h5, h6⟩
  · have : bs = [] := List.eq_nil_of_length_eq_zero h0
    subst this
    exact ⟨none, 0, rfl, by simp, .inl rfl⟩
  · refine ⟨some ⟨g, 0, none⟩, cap, rfl, hl, .inr ⟨g, rfl, fun i b hi => ?_⟩⟩
    rw [wcell_of h2]
    have hil : i < bs.length := (List.getElem?_eq_some_iff.1 hi).1
    have : (cur.toList.take (bs.length * 1))[i]? = (bs.map fun b => Value.pointer (some ⟨b, 0, none⟩))[i]? := by rw [h6]
    rw [List.getElem?_take, if_pos (by omega), List.getElem?_map, hi] at this
    simpa using this
theorem MapAt.turned {w w' : World} {b : Nat} {M : BMap} {e : BEnt} {y : Nat → Int} (h : MapAt w b M) (hl : M.l = [e]) (hk : Kept (· = e.vb) w w') (hv : VBytes w' e.vb M.vs y) (hy : ∀ j, 0 ≤ y j ∧ y j ≤ 255) :
    MapAt w' b { M with l := [{ e with val := y }] } := by
  have hi : M.l[0]? = some e := by rw [hl]; rfl
  have hE := h.mem hi
  obtain ⟨c0, hc0, hcell⟩ := hE.cell
  obtain ⟨cs, hval, hv1, hv2⟩ := hE.val
  have hE1 : EntAt w' M.vs { e with val := y } :=
    ⟨hk.has hE.ent (fun q => heap_ne hE.ent hval (by decide) q), ⟨c0, hc0, hk.has hcell (fun q => heap_ne hcell hval (by decide) q)⟩, hv, hy⟩
  have := h.set (x := M.clock) hi hE1 rfl rfl rfl (hk.has h.blk (fun q => heap_ne h.blk hval (by decide) q)) h.clock (hk.mono fun j _ hj => .inr (.inr (.inr hj)))
  rw [hl] at this
  exact this
structure Rc (w0 w : World) (b V rb g : Nat) (M : BMap) (e : BEnt) (m : RMem) (c : Int) : Prop where
  mp : Mp w0 w b M
  ty : M.ty = 0
  ks : M.ks = 4
  vs : M.vs = V
  one : M.l = [e]
  key : e.key = key4 (lit4 0)
  clock : M.clock ≤ c
  mem : IsMem w rb m
  maps : MapsAt w m.maps [b]
  mown : ∀ i, m.maps.ownBlock = some i → ∃ cs, w.heap[i]? = some (.cells cs 45 (0, 0))
  gout : ¬ M.own b g
  glt : g < w.heap.size
section
variable {w0 w w' : World} {b V rb g : Nat} {M : BMap} {e : BEnt} {m : RMem} {c : Int}
theorem Rc.calm (h : Rc w0 w b V rb g M e m c) (hk : Kept none' w w') : Rc w0 w' b V rb g M e m c :=
  ⟨h.mp.calm hk, h.ty, h.ks, h.vs, h.one, h.key, h.clock, isMem_kept hk h.mem, h.maps.keep hk (fun _ _ h => h), fun i hi => by
    obtain ⟨cs, hc⟩ := h.mown i hi; exact ⟨cs, hk.has hc (fun h => h)⟩, h.gout, Nat.lt_of_lt_of_le h.glt hk.size⟩
theorem Mp.base {w1 : World} (h : Mp w1 w b M) (hk : Kept none' w0 w1) : Mp w0 w b M := ⟨hk.trans h.kept, h.map, fun i hi => Nat.le_trans hk.size (h.low i hi)⟩
theorem Rc.beside (h : Rc w0 w b V rb g M e m c) (hk : Kept (fun j => j = g) w w') (hg0 : w0.heap.size ≤ g) (hgT : ∃ cs, w.heap[g]? = some (.cells cs 5 (0, 0))) : Rc w0 w' b V rb g M e m c := by
  obtain ⟨cs, hcs⟩ := hgT
  refine ⟨⟨h.mp.kept.then hk fun i hi hj => by omega, h.mp.map.keep hk fun i hi hj => by subst hj; exact h.gout hi, h.mp.low⟩, h.ty, h.ks, h.vs, h.one, h.key, h.clock, hk.has h.mem (fun e => heap_ne h.mem hcs (by decide) e), h.maps.keep hk (fun i hi e => ?_), fun i hi => ?_, h.gout, Nat.lt_of_lt_of_le h.glt hk.size⟩
  · obtain ⟨cs', hc'⟩ := h.mown i hi; exact heap_ne hc' hcs (by decide) e
  · obtain ⟨cs', hc'⟩ := h.mown i hi; exact ⟨cs', hk.has hc' (fun e => heap_ne hc' hcs (by decide) e)⟩
theorem Rc.get (h : Rc w0 w b V rb g M e m c) : M.l[0]? = some e := by rw [h.one]; rfl
theorem Rc.ent (h : Rc w0 w b V rb g M e m c) : EntAt w V e := by have := h.mp.map.mem h.get; rw [h.vs] at this; exact this
theorem Rc.only (h : Rc w0 w b V rb g M e m c) {i : Nat} {e' : BEnt} (hi : M.l[i]? = some e') : i = 0 ∧ e' = e := by
  rw [h.one] at hi
  have := (List.getElem?_eq_some_iff.1 hi).1
  have h0 : i = 0 := by simp at this; exact this
  subst h0
  simp at hi
  exact ⟨rfl, hi.symm⟩
theorem Rc.not (h : Rc w0 w b V rb g M e m c) {j : Nat} {cs : Array Value} {T : TypeId} {f : Nat × Nat} (hj : w.heap[j]? = some (.cells cs T f)) (h1 : T ≠ 78) (h2 : T ≠ 79) (h3 : T ≠ 84) (h4 : T ≠ 82) (h5 : T ≠ 5) : ¬ M.own b j :=
  own_not h.mp.map hj h1 h2 h3 h4 h5
theorem Rc.step {M' : BMap} {e' : BEnt} {c' : Int} (h : Rc w0 w b V rb g M e m c) (hk : Kept (M.own b) w w') (hm : MapAt w' b M') (ho : ∀ j, M'.own b j → M.own b j) (h1 : M'.ty = M.ty) (h2 : M'.ks = M.ks) (h3 : M'.vs = M.vs)
    (hl : M'.l = [e']) (he : e'.key = e.key) (hc : M'.clock ≤ c') : Rc w0 w' b V rb g M' e' m c' :=
  ⟨h.mp.step hk hm fun j hj => .inl (ho j hj), h1.trans h.ty, h2.trans h.ks, h3.trans h.vs, hl, he.trans h.key, hc, hk.has h.mem (h.not h.mem (by decide) (by decide) (by decide) (by decide) (by decide)),
    h.maps.keep hk (fun i hi => by obtain ⟨cs, hc⟩ := h.mown i hi; exact h.not hc (by decide) (by decide) (by decide) (by decide) (by decide)),
    fun i hi => by obtain ⟨cs, hc⟩ := h.mown i hi; exact ⟨cs, hk.has hc (h.not hc (by decide) (by decide) (by decide) (by decide) (by decide))⟩, fun hg => h.gout (ho g hg), Nat.lt_of_lt_of_le h.glt hk.size⟩
theorem Rc.used (h : Rc w0 w b V rb g M e m c) (hk : Kept (fun j => j = b ∨ j = e.eb) w w') (hm : MapAt w' b (usedM M 0 e)) : Rc w0 w' b V rb g (usedM M 0 e) { e with used := M.clock + 1 } m (c + 1) :=
  h.step (hk.mono fun j _ hj => own_ent h.get hj) hm (fun j hj => own_set (x := M.clock + 1) (e' := { e with used := M.clock + 1 }) h.get rfl rfl rfl hj) rfl rfl rfl (by simp [usedM, h.one]) rfl (by have := h.clock; show M.clock + 1 ≤ c + 1; omega)
theorem Rc.turned {y : Nat → Int} (h : Rc w0 w b V rb g M e m c) (hk : Kept (· = e.vb) w w') (hv : VBytes w' e.vb V y) (hy : ∀ j, 0 ≤ y j ∧ y j ≤ 255) : Rc w0 w' b V rb g { M with l := [{ e with val := y }] } { e with val := y } m c := by
  have hm := h.mp.map.turned h.one hk (by rw [h.vs]; exact hv) hy
  refine h.step (hk.mono fun j _ hj => .inr (.inr ⟨e, by rw [h.one]; simp, .inr (.inr hj)⟩)) hm ?_ rfl rfl rfl rfl rfl h.clock
  rintro j (hj | hj | ⟨a, ha, hj⟩)
  · exact .inl hj
  · exact .inr (.inl hj)
  · simp at ha
    subst ha
    exact .inr (.inr ⟨e, by rw [h.one]; simp, hj⟩)
theorem Rc.frozen (h : Rc w0 w b V rb g M e m c) (hk : Kept (fun j => j = b) w w') (hm : MapAt w' b { M with frozen := true }) : Rc w0 w' b V rb g { M with frozen := true } e m c :=
  h.step (hk.mono fun j _ hj => .inl hj) hm (fun j hj => hj) rfl rfl rfl h.one rfl h.clock
theorem Rc.vb (h : Rc w0 w b V rb g M e m c) : VBytes w e.vb V e.val := h.ent.val
theorem Rc.cb (h : Rc w0 w b V rb g M e m c) : ∃ k, CellBox w e.cb e.vb V k := h.ent.cell
end
end Go.Proofs.YtmfgdbapankamaaGreat
namespace Go.Proofs.YtmfgdbapankamaaGreat
open Go.Eng
theorem gnew_ret (cs : Array Value) (c : Nat → Int) (mvs : Value) (bs : List Nat) (w : World) (hs : cs.size = 32) (hc : ∀ i, i < 32 → cs[i]? = some (.int .u8 (c i))) (h : MapsAt w mvs bs) (h0 : bs = [] → mvs = .slice none 0 0) :
    Ret Tryz.prog 16 [.agg cs, mvs] w
    fun v w' => ∃ b maps, v = .pointer (some ⟨b, 0, none⟩) ∧ w.heap.size ≤ b ∧ Kept none' w w' ∧ IsMem w' b (RMem.fresh c maps) ∧ MapsAt w' maps bs ∧ ∀ i, maps.ownBlock = some i → w.heap.size ≤ i ∧ i < b := by
  by_cases hb : bs = []
  · rw [h0 hb]
    subst hb
    refine ret_of_W Tryz.func16 rfl ok_region_New ?_
    simp [c_region_New, hs]
    refine W_bi (by simp; rfl) (append_none (e := 45) (by kernel_rfl) (by kernel_rfl) _ 0 0 (Nat.le_refl _) _) (fun e _ v h => h) ?_
    have hk : Kept none' w ((w.alloc (.cells cs 23)).drew.alloc (.cells #[] 45)) := ((Kept.refl _ _).alloc _).drew.alloc _
    have hsz : freshMem.size = 193 := mem_size _
    simp [hs, hsz]
    have hsz2 : (setRow freshMem 0 cs.toList).size = 193 := by rw [Go.Eng.setRow_size]; exact hsz
    simp [hsz2, fresh_cells cs c _ hs hc]
    have hN : ((w.alloc (.cells cs 23)).drew.alloc (.cells #[] 45)).heap.size = w.heap.size + 1 + 1 := by simp
    generalize (w.alloc (.cells cs 23)).drew.alloc (.cells #[] 45) = w2 at hk hN ⊢
    rw [← hN]
    refine ⟨by omega, hk.alloc _, _, hp_new _ _, ⟨_, _, rfl, by simp, .inl rfl⟩, fun i hi => ?_⟩
    simp [Value.ownBlock] at hi
    omega
  · obtain ⟨p, cap, rfl, hn2, h⟩ := h
    rcases h with h | ⟨q, rfl, hq⟩
    · exact absurd h hb
    refine ret_of_W Tryz.func16 rfl ok_region_New ?_
    simp [c_region_New, hs]
    have hk : Kept none' w ((w.alloc (.cells cs 23)).drew.alloc (.cells #[] 45)) := ((Kept.refl _ _).alloc _).drew.alloc _
    have hbox : ((w.alloc (.cells cs 23)).drew.alloc (.cells #[] 45)).heap[w.heap.size]? = some (.cells cs 23 (0, 0)) := hp_old (w := (w.alloc (.cells cs 23)).drew) (hp_new w _) _
    have hrow := hp_new (w.alloc (.cells cs 23)).drew (.cells #[] 45)
    have hN : ((w.alloc (.cells cs 23)).drew.alloc (.cells #[] 45)).heap.size = w.heap.size + 1 + 1 := by simp
    have hN0 : (w.alloc (.cells cs 23)).drew.heap.size = w.heap.size + 1 := by simp
    rw [hN0] at hrow
    generalize (w.alloc (.cells cs 23)).drew.alloc (.cells #[] 45) = w2 at hk hN hbox hrow ⊢
    have hR : Eng.Row 45 1 w2 (.slice (some ⟨w.heap.size + 1, 0, none⟩) 0 0) 0 [] := ⟨by simp, .inr ⟨_, 0, #[], rfl, by omega, hrow, by omega, by unfold maxLen; omega, by simp, by simp⟩⟩
    obtain ⟨v', w', h1, h2, h3, h4⟩ := Go.Eng.row_append (P := Tryz.prog) (t := 30) (T := 45) (k := 1) (sb := q) (so := 0) (c := cap) (m := bs.length) (ys := bs.map fun b => Value.pointer (some ⟨b, 0, none⟩)) Tryz.underlying30 (by kernel_rfl) (by omega) hR (by omega) (by simp)
      (fun j y hj => by
        rw [List.getElem?_map, Option.map_eq_some_iff] at hj
        obtain ⟨b, hb, rfl⟩ := hj
        rw [Nat.zero_add]
        exact wcell_kept hk (fun h => h) (hq j b hb)) (fun y hy => by
        rw [List.mem_map] at hy
        obtain ⟨b, _, rfl⟩ := hy
        rfl)
    simp only [Nat.zero_add, List.nil_append] at h2
    have hbox' := h3.has hbox (fun e => by simp [Value.ownBlock] at e)
    have hrow32 : ∀ w', w'.heap[w.heap.size]? = some (.cells cs 23 (0, 0)) → wrow w' w.heap.size 0 32 = some cs := fun w' h => wrow_box h hs
    refine W_bi (by simp) h1 ?_ ?_
    · intro e he v hv
      simp at he
      subst he
      simp [hrow32 _ hbox] at hv
      simp [hrow32 _ hbox']
      exact hv
    have hsz : freshMem.size = 193 := mem_size _
    have hsz2 : (setRow freshMem 0 cs.toList).size = 193 := by rw [Go.Eng.setRow_size]; exact hsz
    have hv1 := Eng.rowVar h2
    have hv2 := Eng.rowCells h2
    have hs3 := h3.size
    have hk3 : Kept none' w w' := hk.then h3 (fun i hi e => by simp [Value.ownBlock] at e; omega)
    simp [hs, hsz, hsz2, hv1, hv2, fresh_cells cs c _ hs hc]
    refine ⟨by omega, hk3.alloc _, v', hp_new _ _, (mapsAt_row hn2 h2).keep ((Kept.refl none' _).alloc _) (fun _ _ h => h), fun i hi => ?_⟩
    rcases h2.2 with ⟨rfl, _⟩ | ⟨g, cap, cur, rfl, _, h5, _⟩
    · simp [Value.ownBlock] at hi
    · simp [Value.ownBlock] at hi
      subst hi
      refine ⟨?_, blk_lt h5⟩
      rcases h4 with h4 | h4 <;> simp [Value.ownBlock] at h4 <;> omega
end Go.Proofs.YtmfgdbapankamaaGreat
namespace Go.Proofs.YtmfgdbapankamaaGreat
open Go.Eng
section
variable (ctx : Nat → Int) (maps : Value) (clock : Int) (random : Value) (fuel : Int)
@[simp] theorem world_size : (WorldArr ctx maps clock random fuel).size = 36 := by simp [WorldArr]
theorem world_at (i : Nat) (h : i < 36) : (WorldArr ctx maps clock random fuel)[i]? = some (if i < 32 then .int .u8 (ctx i) else if i = 32 then maps else if i = 33 then .int .u64 clock else if i = 34 then random else .int .i64 fuel) := by
  simp [WorldArr, h]
theorem world_ctx (i : Nat) (h : i < 32) : ((WorldArr ctx maps clock random fuel).extract 0 32)[i]? = some (.int .u8 (ctx i)) := by
  rw [Array.getElem?_extract, if_pos (by simp; omega), Nat.zero_add, world_at _ _ _ _ _ _ (by omega), if_pos h]
@[simp] theorem world_maps : (WorldArr ctx maps clock random fuel)[32]? = some maps := by rw [world_at _ _ _ _ _ _ (by omega)]; rfl
@[simp] theorem world_fuel : (WorldArr ctx maps clock random fuel)[35]? = some (.int .i64 fuel) := by rw [world_at _ _ _ _ _ _ (by omega)]; rfl
end
@[simp] theorem init_size : initMach.size = 85 := by simp [initMach, mach_size]
theorem init_cells (l : Value) (ctx : Nat → Int) (clock : Int) (random : Value) (fuel : Int) (bm : Nat) :
    (setRow (initMach.setIfInBounds 0 l) 1 (WorldArr ctx (.slice none 0 0) clock random fuel).toList).setIfInBounds 37 (.pointer (some ⟨bm, 0, none⟩)) = VSt.init0.cells ⟨l, ctx, .slice none 0 0, clock, random, fuel, bm⟩ := by
  refine mach_ext (by simp [Go.Eng.setRow_size]) fun i hi => ?_
  rw [Array.getElem?_setIfInBounds, Go.Eng.setRow_size, Array.size_setIfInBounds, init_size]
  by_cases h37 : 37 = i
  · subst h37; rfl
  rw [if_neg h37, setRow_get _ _ _ _ (by simp)]
  by_cases h1 : 1 ≤ i ∧ i < 37
  · rw [if_pos (by simp; omega), Array.getElem?_toList, world_at _ _ _ _ _ _ (by omega)]
    by_cases h2 : i < 33
    · rw [if_pos (by omega)]
      unfold VSt.cellAt
      rw [if_neg (by omega), if_pos h2]
    · have : i = 33 ∨ i = 34 ∨ i = 35 ∨ i = 36 := by omega
      rcases this with rfl | rfl | rfl | rfl <;> rfl
  · rw [if_neg (by simp; omega), Array.getElem?_setIfInBounds, init_size]
    by_cases h0 : 0 = i
    · subst h0; rfl
    · rw [if_neg h0]
      unfold initMach
      rw [Array.getElem?_setIfInBounds, if_neg h37, mach_at _ _ _ hi]
      unfold VSt.cellAt
      simp only [show ¬ i = 0 by omega, show ¬ i < 33 by omega, show ¬ i = 33 by omega, show ¬ i = 34 by omega, show ¬ i = 35 by omega, show ¬ i = 36 by omega, show ¬ i = 37 by omega, if_false]
theorem good_start (ctx : Nat → Int) (hc : ∀ i, 0 ≤ ctx i ∧ ctx i ≤ 255) (p : Option Addr) (c : Nat) : GoodSt startSt (RMem.fresh ctx (.slice p 0 c)) :=
  ⟨fun i => by
    show ROk (fset (fset _ 1 _) 10 _ i)
    unfold fset
    repeat' split
    all_goals exact ⟨rfl, by simp [RVal.zero, VSt.init0], by simp [RVal.zero, VSt.init0]⟩, by simp [startSt, VSt.init0], mok_fresh ctx _ hc, ⟨p, c, rfl⟩⟩
theorem res_box {w : World} {b : Nat} {cs : Array Value} {T : TypeId} (v p n e : Int) (h : w.heap[b]? = some (.cells cs T (0, 0))) (hs : cs.size = 4) : stv w 4 (.pointer (some ⟨b, 0, none⟩)) (.agg (Res v p n e)) = some (put w b (.cells (Res v p n e) T (0, 0))) :=
  box_store h hs rfl (by simp [Res, Value.oneCell'])
@[simp] theorem res_size (v p n e : Int) : (Res v p n e).size = 4 := rfl
@[simp] theorem res_s0 (v p n e x : Int) : (Res v p n e).setIfInBounds 0 (.int .u64 x) = Res x p n e := rfl
@[simp] theorem res_s1 (v p n e x : Int) : (Res v p n e).setIfInBounds 1 (.int .i64 x) = Res v x n e := rfl
@[simp] theorem res_s2 (v p n e x : Int) : (Res v p n e).setIfInBounds 2 (.int .i64 x) = Res v p x e := rfl
@[simp] theorem res_s3 (v p n e x : Int) : (Res v p n e).setIfInBounds 3 (.int .i64 x) = Res v p n x := rfl
set_option maxHeartbeats 4000000 in
theorem run_ret (l : Value) (xs : List Ins) (ctx : Nat → Int) (clock : Int) (random : Value) (us : List Int) (fuel : Int) (w : World) (hc : Code w (fun i => w.heap.size ≤ i) l xs) (hok : CodeOk xs)
    (hu : Luck w (fun i => w.heap.size ≤ i) random us) (hctx : ∀ i, 0 ≤ ctx i ∧ ctx i ≤ 255) (hclk : 0 ≤ clock) (hus : ∀ n ∈ us, 0 ≤ n) (hf : fuel ≤ 9223372036854775807) :
    Ret Tryz.prog 5 [l, .agg (WorldArr ctx (.slice none 0 0) clock random fuel)] w
      fun r w' => Kept none' w w' ∧ ∃ maps, r = .agg (Res (runOf xs ctx clock us fuel maps).1 (runOf xs ctx clock us fuel maps).2.1 (runOf xs ctx clock us fuel maps).2.2.1 (runOf xs ctx clock us fuel maps).2.2.2) := by
  refine ret_of_W Tryz.func5 rfl nok_vm_Run ?_
  obtain ⟨cq, co, cc, hcl, hclen, hcq, hcode⟩ := id hc
  obtain ⟨ra, rc, hrv, hrl, hrcase⟩ := id hu
  simp only [nc_vm_Run]
  have h3 := hp_old (hp_new w (.cells (WorldArr ctx (.slice none 0 0) clock random fuel) 39)) (.cells (Res 0 0 0 0) 36)
  have h2 := hp_new (w.alloc (.cells (WorldArr ctx (.slice none 0 0) clock random fuel) 39)) (.cells (Res 0 0 0 0) 36)
  rw [alloc_size] at h2
  have hk0 : Kept none' w ((w.alloc (.cells (WorldArr ctx (.slice none 0 0) clock random fuel) 39)).alloc (.cells (Res 0 0 0 0) 36)).drew := (((Kept.refl _ _).alloc _).alloc _).drew
  have h31 : ((w.alloc (.cells (WorldArr ctx (.slice none 0 0) clock random fuel) 39)).alloc (.cells (Res 0 0 0 0) 36)).drew.heap[w.heap.size]? = _ := h3
  have h21 : ((w.alloc (.cells (WorldArr ctx (.slice none 0 0) clock random fuel) 39)).alloc (.cells (Res 0 0 0 0) 36)).drew.heap[w.heap.size + 1]? = _ := h2
  simp only [W_seq]
  refine W_new' (v := .agg (WorldArr ctx (.slice none 0 0) clock random fuel)) (cs := WorldArr ctx (.slice none 0 0) clock random fuel) (by simp) rfl ?_
  refine W_new' (v := .agg (Res 0 0 0 0)) (cs := Res 0 0 0 0) (by simp) rfl ?_
  simp only [W_seq, W_draw]
  generalize ((w.alloc (.cells (WorldArr ctx (.slice none 0 0) clock random fuel) 39)).alloc (.cells (Res 0 0 0 0) 36)).drew = w1 at h31 h21 hk0 ⊢
  have b3 := blk_lt h31
  have b2 := blk_lt h21
  have hsz1 := hk0.size
  have hvl : varV l = some l := by rw [hcl]; rfl
  have hlc : l.cells = #[l] := by rw [hcl]; rfl
  simp [wrow_box h31 (world_size _ _ _ _ _), hvl]
  have r32 : wrow w1 w.heap.size 0 32 = some ((WorldArr ctx (.slice none 0 0) clock random fuel).extract 0 32) := by rw [wrow_of h31 (by simp)]
  have c32 : wcell w1 w.heap.size 32 = some (.slice none 0 0) := by rw [wcell_of h31]; exact world_maps _ _ _ _ _
  have c35 : wcell w1 w.heap.size 35 = some (.int .i64 fuel) := by rw [wcell_of h31]; exact world_fuel _ _ _ _ _
  refine W_call (vs := [.agg ((WorldArr ctx (.slice none 0 0) clock random fuel).extract 0 32), .slice none 0 0]) (by simp [r32, c32]) (new_ret' _ ctx w1 (by simp) (fun i hi => world_ctx _ _ _ _ _ i hi)) ?_
  rintro r w2 ⟨bm, maps, rfl, hbm, hk2, hmm2, mp, mc, rfl⟩
  refine ⟨stab_calm hk2, ?_⟩
  have h32 := hk2.has h31 (fun h => h)
  have h22 := hk2.has h21 (fun h => h)
  have hk02 := hk0.trans hk2
  simp [wrow_box h32 (world_size _ _ _ _ _), hvl, hlc, Go.Eng.setRow_size, init_cells]
  have h6 := hp_new w2 (.cells (VSt.init0.cells ⟨l, ctx, .slice none 0 0, clock, random, fuel, bm⟩) 71)
  have h33 := hp_old h32 (.cells (VSt.init0.cells ⟨l, ctx, .slice none 0 0, clock, random, fuel, bm⟩) 71)
  have h23 := hp_old h22 (.cells (VSt.init0.cells ⟨l, ctx, .slice none 0 0, clock, random, fuel, bm⟩) 71)
  have hmm3 : IsMem (w2.alloc (.cells (VSt.init0.cells ⟨l, ctx, .slice none 0 0, clock, random, fuel, bm⟩) 71)) bm (RMem.fresh ctx (.slice mp 0 mc)) := hp_old hmm2 _
  have hk3 : Kept none' w (w2.alloc (.cells (VSt.init0.cells ⟨l, ctx, .slice none 0 0, clock, random, fuel, bm⟩) 71)) := hk02.alloc _
  have hbm2 := blk_lt hmm2
  have hsz2 := hk2.size
  generalize hb : w2.heap.size = b at *
  generalize hkk : (⟨l, ctx, .slice none 0 0, clock, random, fuel, bm⟩ : VK) = k at *
  have hm3 : IsMach (w2.alloc (.cells (VSt.init0.cells k) 71)) b k VSt.init0 := h6
  generalize w2.alloc (.cells (VSt.init0.cells k) 71) = w3 at h33 h23 hmm3 hk3 hm3 ⊢
  refine W_store (by simp) (by simp) (mach_streg hm3 1 (by omega) { RVal.zero with tag := 2 }) (stab_nil _ _ _) ?_
  have n3 : w.heap.size ≠ b := by omega
  have n2 : w.heap.size + 1 ≠ b := by omega
  have nb : bm ≠ b := by omega
  have hm4 := mach_put hm3 { VSt.init0 with r := fset VSt.init0.r 1 { RVal.zero with tag := 2 } }
  have h34 := (put_other (o := .cells (({ VSt.init0 with r := fset VSt.init0.r 1 { RVal.zero with tag := 2 } } : VSt).cells k) 71 (0, 0)) n3).trans h33
  have h24 := (put_other (o := .cells (({ VSt.init0 with r := fset VSt.init0.r 1 { RVal.zero with tag := 2 } } : VSt).cells k) 71 (0, 0)) n2).trans h23
  have hmm4 : IsMem _ bm _ := (put_other (o := .cells (({ VSt.init0 with r := fset VSt.init0.r 1 { RVal.zero with tag := 2 } } : VSt).cells k) 71 (0, 0)) nb).trans hmm3
  have hk4 := hk3.putNew (b := b) (by omega) (.cells (({ VSt.init0 with r := fset VSt.init0.r 1 { RVal.zero with tag := 2 } } : VSt).cells k) 71 (0, 0))
  generalize put w3 b _ = w4 at hm4 h34 h24 hmm4 hk4 ⊢
  simp
  refine W_store (by simp) (by simp) (mach_streg hm4 10 (by omega) { RVal.zero with tag := 3 }) (stab_nil _ _ _) ?_
  have hm5 : IsMach _ b k startSt := mach_put hm4 startSt
  have h35 := (put_other (o := .cells (startSt.cells k) 71 (0, 0)) n3).trans h34
  have h25 := (put_other (o := .cells (startSt.cells k) 71 (0, 0)) n2).trans h24
  have hmm5 : IsMem _ bm _ := (put_other (o := .cells (startSt.cells k) 71 (0, 0)) nb).trans hmm4
  have hk5 := hk4.putNew (b := b) (by omega) (.cells (startSt.cells k) 71 (0, 0))
  have hsame : ({ VSt.init0 with r := fset (fset VSt.init0.r 1 { RVal.zero with tag := 2 }) 10 { RVal.zero with tag := 3 } } : VSt) = startSt := rfl
  simp only [hsame]
  generalize put w4 b (.cells (startSt.cells k) 71 (0, 0)) = w5 at hm5 h35 h25 hmm5 hk5 ⊢
  have c355 : wcell w5 w.heap.size 35 = some (.int .i64 fuel) := by rw [wcell_of h35]; exact world_fuel _ _ _ _ _
  simp only [W_seq]
  rw [W_set]
  refine ok_intro (.int .i64 (fuelOf fuel)) ?_ ?_
  · simp [c355]
    unfold fuelOf
    repeat' split
    all_goals omega
  have hF : fuelOf fuel ≤ 4096 := by unfold fuelOf; omega
  generalize hFF : fuelOf fuel = F at *
  simp
  have hR : runOf xs ctx clock us fuel (.slice mp 0 mc) = vrun xs clock us F 0 startSt (RMem.fresh ctx (.slice mp 0 mc)) := by unfold runOf; rw [hFF]
  have fin : ∀ {w' : World} {v p n e : Int}, Kept none' w w' → w'.heap[w.heap.size + 1]? = some (.cells (Res 0 0 0 0) 36 (0, 0)) → runOf xs ctx clock us fuel (.slice mp 0 mc) = (v, p, n, e) →
      Kept none' w (put w' (w.heap.size + 1) (.cells (Res v p n e) 36 (0, 0))) ∧ ∃ maps, Res v p n e = (Res (runOf xs ctx clock us fuel maps).1 (runOf xs ctx clock us fuel maps).2.1 (runOf xs ctx clock us fuel maps).2.2.1 (runOf xs ctx clock us fuel maps).2.2.2) :=
    fun hk h he => ⟨hk.putNew (by omega) _, .slice mp 0 mc, by rw [he]⟩
  have rb : ∀ {w' : World} {v p n e : Int}, w'.heap[w.heap.size + 1]? = some (.cells (Res 0 0 0 0) 36 (0, 0)) → wrow (put w' (w.heap.size + 1) (.cells (Res v p n e) 36 (0, 0))) (w.heap.size + 1) 0 4 = some (Res v p n e) :=
    fun h => wrow_box (put_same (blk_lt h)) rfl
  refine W_loop (fun env w' => Kept none' w w' ∧ w'.heap[w.heap.size + 1]? = some (.cells (Res 0 0 0 0) 36 (0, 0)) ∧
      ∃ (i : Nat) (s : VSt) (m : RMem), env = [undef, undef, .pointer (some ⟨w.heap.size + 1, 0, none⟩), undef, undef, undef, undef, .pointer (some ⟨b, 0, none⟩), .int .i64 F, .int .i64 i, .int .i64 F, undef, undef] ∧ i ≤ F ∧
        IsMach w' b k s ∧ IsMem w' bm m ∧ GoodSt s m ∧ s.done = false ∧ runOf xs ctx clock us fuel (.slice mp 0 mc) = vrun xs clock us (F - i) i s m)
    (fun env _ => F - natAt env 9) ?_ ?_
  · exact ⟨hk5, h25, 0, startSt, _, by simp, by omega, hm5, hmm5, good_start ctx hctx mp mc, rfl, by simpa using hR⟩
  · rintro env w6 ⟨hk6, h26, i, s, m, rfl, hi, hm6, hmm6, hg, hdn, hrun⟩
    have hkk1 : k.bm = bm := by rw [← hkk]
    have hkk2 : k.l = l := by rw [← hkk]
    have hkk3 : k.clock = clock := by rw [← hkk]
    have hkk4 : k.random = random := by rw [← hkk]
    by_cases hiF : i < F
    · simp
      refine W_yes (by simp; omega) ?_
      simp
      have hkS : Kept (fun i => w.heap.size ≤ i) w w6 := hk6.mono fun _ _ h => h.elim
      refine W_call0 (by simp) (step_ret b k s m (fun i => w.heap.size ≤ i) us xs w6 hm6 (by rw [hkk1]; exact hmm6) (by rw [hkk1]; exact nb) hg.no (show w.heap.size ≤ b by omega) (by rw [hkk4]; exact hu.keep hkS) (by rw [hkk2]; exact hc.keep hkS) hok hg.ok hg.mem hg.luck hdn) ?_
      rintro r w7 ⟨hk7, rfl, hm7, hmm7⟩
      rw [hkk1] at hk7 hmm7
      rw [hkk3] at hm7 hmm7 ⊢
      have hk67 : Kept none' w w7 := hk6.then hk7 (fun j hj h => by rcases h with rfl | rfl <;> omega)
      have h27 := hk7.has h26 (by intro h; rcases h with h | h <;> omega)
      obtain ⟨f, hf'⟩ : ∃ f, F - i = f + 1 := ⟨F - i - 1, by omega⟩
      rw [hf'] at hrun
      simp only [vrun] at hrun
      have e2 : IntKind.i64.wrap ((i : Int) + 1) = ((i + 1 : Nat) : Int) := i64w (by omega) (by omega)
      cases hv : vstep xs clock us s m with
      | none =>
        rw [hv] at hm7 hrun
        simp at hm7 hrun ⊢
        refine W_yes (by simp) ?_
        simp [mach_pos hm7]
        refine W_store (by simp) (by simp [mach_pos hm7]) (res_box 0 s.pos i 14 h27 rfl) (stab_nil _ _ _) ?_
        simp [rb h27]
        exact fin hk67 h27 hrun
      | some q =>
        obtain ⟨s', m'⟩ := q
        rw [hv] at hm7 hrun
        have hmm7' := hmm7 _ hv
        have hg' := good_step hg hus hrl hclk hdn hv
        simp at hm7 hmm7' hrun ⊢
        refine W_no (by simp) ?_
        simp [mach_done hm7]
        cases hd' : s'.done with
        | true =>
          rw [hd'] at hrun
          simp at hrun
          refine W_yes (by simp [mach_done hm7, hd']) ?_
          have hm8 : IsMach w7.drew b k s' := hm7
          have h28 : w7.drew.heap[w.heap.size + 1]? = _ := h27
          have hk8 : Kept none' w w7.drew := hk67.drew
          simp only [W_seq, W_draw]
          generalize w7.drew = w8 at hm8 h28 hk8 ⊢
          simp [mach_pos hm8, mach_n0 hm8]
          refine W_store (by simp) (by simp [mach_pos hm8, mach_n0 hm8, e2]) (res_box (s'.r 0).n s'.pos (i + 1 : Nat) 0 h28 rfl) (stab_nil _ _ _) ?_
          simp [rb h28]
          exact fin hk8 h28 hrun
        | false =>
          rw [hd'] at hrun
          simp at hrun
          refine W_no (by simp [mach_done hm7, hd']) ?_
          simp
          refine ⟨⟨hk67, h27, i + 1, e2, by omega, s', hm7, m', hmm7', hg'.1, hd', ?_⟩, ?_⟩
          · rw [hrun, show F - (i + 1) = f by omega]
          · simp [natAt, e2]; omega
    · have : i = F := by omega
      subst this
      simp
      refine W_no (by simp) ?_
      rw [Nat.sub_self] at hrun
      simp only [vrun] at hrun
      simp [mach_pos hm6]
      refine W_store (by simp) (by simp [mach_pos hm6]) (res_box 0 s.pos i 62 h26 rfl) (stab_nil _ _ _) ?_
      simp [rb h26]
      exact fin hk6 h26 hrun
end Go.Proofs.YtmfgdbapankamaaGreat
