/- Layer 20: a machine with maps stays one. -/
import Derived.Test.YtmfgdbapankamaaGreatGr27
set_option linter.unusedSimpArgs false
set_option linter.unusedVariables false
set_option maxRecDepth 8000
namespace Go.Proofs.YtmfgdbapankamaaGreat
open Go.Eng
theorem mem_set_all {α : Type} {P : α → Prop} {l : List α} {i : Nat} {a : α} (h : ∀ x ∈ l, P x) (ha : P a) : ∀ x ∈ l.set i a, P x := by
  intro x hx
  rcases mem_set_or hx with rfl | hx
  · exact ha
  · exact h x hx
theorem vok_mark {cs : List XCell} {m : RMem} (h : ∀ i, VOk cs (m.kept i)) (f n : Nat) : ∀ i, VOk cs ((mark m f n).kept i) := by
  intro i
  show VOk cs (if touched f (f + n) i ∧ (m.kept i).tag ≠ 0 then RVal.zero else m.kept i)
  split
  · exact vok_zero cs
  · exact h i
theorem vok_furth {cs : List XCell} {v : RVal} (h : VOk cs v) (ht : v.tag ≠ 1) (y : Int) : VOk cs (furth v y) := ⟨by show 0 ≤ IntKind.u64.wrap _; rw [IntKind.wrap_u64]; omega, h.five, h.none, fun e => absurd e ht⟩
theorem vok_onPlace {cs : List XCell} {op : Nat} {a b : RVal} (ha : VOk cs a) (hb : VOk cs b) : VOk cs (onPlaceOf op a b).1 := by
  unfold onPlaceOf
  have pl : ∀ v : RVal, placeOf v = true → v.tag ≠ 1 := fun v h => by simp [placeOf] at h; omega
  split
  · exact hb
  split
  · rename_i h; exact vok_furth ha (pl _ h.2.1) _
  split
  · rename_i h; exact vok_furth ha (pl _ h.2.1) _
  split
  · rename_i h; exact vok_furth hb (pl _ h.2.1) _
  · exact vok_zero cs
section
variable {G : GSt}
theorem GOk.setR (ok : GOk G) {d : Nat} {v : RVal} (hv : VOk G.cs v) {s' : VSt} (h : setOf G.s d v = some s') : GOk { G with s := s' } := by
  unfold setOf at h
  split at h
  · cases h
  · cases h
    refine ⟨fun i => ?_, ok.kept, ok.bytes, ok.maps, ok.slots, ok.luck⟩
    show VOk G.cs (fset G.s.r d v i)
    unfold fset
    split
    · exact hv
    · exact ok.reg i
theorem GOk.second (ok : GOk G) (x : Ins) (reg : Bool) : VOk G.cs (secondOf G.s x reg) := by
  unfold secondOf
  split
  · exact ok.reg _
  · exact vok_num _ (by rw [IntKind.wrap_u64]; omega)
theorem GOk.alu (ok : GOk G) {x : Ins} {p : Parts} {s' : VSt} (h : aluOf G.s x p = some s') : GOk { G with s := s' } := by
  unfold aluOf at h
  simp only at h
  have kB0 := ok.second x p.reg
  have kA : VOk G.cs (aluA p (G.s.r x.dst) (secondOf G.s x p.reg)) := by
    unfold aluA; split
    · exact vok_num _ (by omega)
    · exact ok.reg _
  have kB : VOk G.cs (aluB p (secondOf G.s x p.reg)) := by
    unfold aluB; split
    · exact kB0
    · split
      · exact vok_num _ (by omega)
      · exact kB0
  split at h
  · exact ok.setR (vok_num _ (eval_nonneg kA.n kB.n)) h
  · split at h
    · exact ok.setR (vok_onPlace kA kB) h
    · cases h
theorem GOk.jump (ok : GOk G) {x : Ins} {p : Parts} {s' : VSt} (h : jumpOf G.s x p = some s') : GOk { G with s := s' } := by
  unfold jumpOf at h
  repeat' split at h
  all_goals first | cases h
  all_goals exact ⟨ok.reg, ok.kept, ok.bytes, ok.maps, ok.slots, ok.luck⟩
theorem vok_loadA (ok : GOk G) (hb : ∀ c ∈ G.cs, ∀ j, 0 ≤ c.val j ∧ c.val j ≤ 255) (a : RVal) (off n : Int) : VOk G.cs (gloadOf G a off n).1 := by
  unfold gloadOf
  split
  · split
    · rename_i c hc
      cases ha : a.cell with
      | none => rw [ha] at hc; cases hc
      | some p =>
        rw [ha] at hc
        exact vok_loadV (hb c (List.mem_of_getElem? hc)) _ _ _
    · exact vok_zero _
  · exact vok_loadOf ok.kept ok.bytes _ _ _
def CBytes (cs : List XCell) : Prop := ∀ c ∈ cs, ∀ j, 0 ≤ c.val j ∧ c.val j ≤ 255
theorem Placed.cbytes {w : World} {N : Names} {ms : List XMap} {cs : List XCell} (h : Placed w N ms cs) : CBytes cs := fun c hc => by
  obtain ⟨j, hj⟩ := List.mem_iff_getElem?.1 hc
  exact (h.cell j c hj).2.byte
theorem GOk.cset (ok : GOk G) {id : Nat} {c : XCell} (hc : G.cs[id]? = some c) (x : Nat → Int) : GOk { G with cs := G.cs.set id { c with val := x } } :=
  ⟨fun i => (ok.reg i).cset hc x, fun i => (ok.kept i).cset hc x, ok.bytes, ok.maps, mem_set_all ok.slots (ok.slots c (List.mem_of_getElem? hc)), ok.luck⟩
theorem GOk.save (ok : GOk G) (a : RVal) (off n : Int) {v : RVal} (hv : VOk G.cs v) : GOk (gsaveOf G a off n v).1 := by
  unfold gsaveOf
  split
  · split
    · exact ok
    · split
      · exact ok
      · rename_i c hc
        split
        · exact ok.cset hc _
        · exact ok
  · refine ⟨ok.reg, ?_, ?_, ok.maps, ok.slots, ok.luck⟩
    · intro i
      show VOk G.cs ((saveOf G.m a off n v).1.kept i)
      unfold saveOf saveS
      split
      · split
        · split
          · exact vok_mark (m := withBytes G.m _ _ _) ok.kept _ _ i
          · split
            · show VOk G.cs (fset (mark G.m _ 8).kept _ v i)
              unfold fset
              split
              · exact hv
              · exact vok_mark ok.kept _ _ i
            · exact ok.kept i
        · exact ok.kept i
      · exact ok.kept i
    · show BytesOk (saveOf G.m a off n v).1
      unfold saveOf
      split
      · exact bytesOk_saveS ok.bytes _ _ _
      · exact ok.bytes
theorem GOk.fill (ok : GOk G) (a : RVal) {y : Nat → Int} (hy : ∀ j, 0 ≤ y j ∧ y j ≤ 255) (n : Nat) : GOk (gfillOf G a y n).1 := by
  unfold gfillOf
  split
  · split
    · refine ⟨ok.reg, fun i => vok_mark (m := withRow G.m _ _ y) ok.kept _ _ i, ⟨fun i => ?_, ok.bytes.2⟩, ok.maps, ok.slots, ok.luck⟩
      show 0 ≤ (withRow G.m _ _ y).stack i ∧ (withRow G.m _ _ y).stack i ≤ 255
      unfold withRow
      simp only
      split
      · exact hy _
      · exact ok.bytes.1 i
    · exact ok
  · split
    · split
      · exact ok
      · split
        · exact ok
        · rename_i c hc
          split
          · exact ok.cset hc _
          · exact ok
    · exact ok
theorem GOk.maps' (ok : GOk G) {i : Nat} {A' : XMap} {cs' : List XCell} (hA : AOk A') (hv : ∀ v, VOk G.cs v → VOk cs' v) (hs : ∀ c ∈ cs', c.slot < G.ms.length) : GOk { G with ms := G.ms.set i A', cs := cs' } :=
  ⟨fun i => hv _ (ok.reg i), fun i => hv _ (ok.kept i), ok.bytes, mem_set_all ok.maps hA, fun c hc => by show c.slot < (G.ms.set i A').length; rw [List.length_set]; exact hs c hc, ok.luck⟩
theorem vok_setVal {cs : List XCell} {v : RVal} (h : VOk cs v) (id : Nat) (x : Nat → Int) : VOk (setVal cs id x) v := by
  unfold setVal
  split
  · exact h
  · rename_i c hc; exact h.cset hc x
theorem slot_setVal {cs : List XCell} {n : Nat} (h : ∀ c ∈ cs, c.slot < n) (id : Nat) (x : Nat → Int) : ∀ c ∈ setVal cs id x, c.slot < n := by
  unfold setVal
  split
  · exact h
  · rename_i c hc; exact mem_set_all h (h c (List.mem_of_getElem? hc))
theorem vok_upd {cs : List XCell} {v : RVal} (h : VOk cs v) (A : XMap) (slot : Nat) (k : ByteArray) (x : Nat → Int) (fl : Int) : VOk (updX A cs slot k x fl).2.2 v := by
  unfold updX
  repeat' split
  all_goals first | exact h | exact vok_setVal h _ _ | exact h.more _
theorem slot_upd {cs : List XCell} {n : Nat} (h : ∀ c ∈ cs, c.slot < n) (A : XMap) {slot : Nat} (hs : slot < n) (k : ByteArray) (x : Nat → Int) (fl : Int) : ∀ c ∈ (updX A cs slot k x fl).2.2, c.slot < n := by
  have more : ∀ c ∈ cs ++ [(⟨slot, x⟩ : XCell)], c.slot < n := fun c hc => by
    rcases List.mem_append.1 hc with hc | hc
    · exact h c hc
    · cases List.mem_singleton.1 hc; exact hs
  unfold updX
  repeat' split
  all_goals first | exact h | exact slot_setVal h _ _ | exact more
theorem vok_push {cs : List XCell} {v : RVal} (h : VOk cs v) (A : XMap) (slot : Nat) (x : Nat → Int) (fl : Int) : VOk (pushX A cs slot x fl).2.2 v := by
  unfold pushX
  repeat' split
  all_goals first | exact h | exact h.more _
theorem slot_push {cs : List XCell} {n : Nat} (h : ∀ c ∈ cs, c.slot < n) (A : XMap) {slot : Nat} (hs : slot < n) (x : Nat → Int) (fl : Int) : ∀ c ∈ (pushX A cs slot x fl).2.2, c.slot < n := by
  have more : ∀ c ∈ cs ++ [(⟨slot, x⟩ : XCell)], c.slot < n := fun c hc => by
    rcases List.mem_append.1 hc with hc | hc
    · exact h c hc
    · cases List.mem_singleton.1 hc; exact hs
  unfold pushX
  repeat' split
  all_goals first | exact h | exact more
theorem AOk.cell {A A' : XMap} (h : AOk A) {k : ByteArray} {id : Nat} (hc : cellX A k = some (A', id)) : AOk A' := by
  unfold cellX at hc
  split at hc
  · cases hc
  split at hc
  · cases hc
  split at hc
  · cases hc
  · rename_i e he; cases hc; exact h.usedAt he
end
end Go.Proofs.YtmfgdbapankamaaGreat
namespace Go.Proofs.YtmfgdbapankamaaGreat
open Go.Eng
section
variable {w : World} {b : Nat} {k : VK} {N : Names} {mv : Value} {G : GSt}
noncomputable def hnextOf (G : GSt) (i : Nat) (A : XMap) (helper : Int) : Option (GSt × RVal) :=
  if linedX A = false ∨ helper = 88 ∧ A.frozen = true then none
  else if (gfillOf G (G.s.r 2) (fun _ => 0) A.vs).2 ≠ 0 then none
  else match peekX A with
    | none => some ((gfillOf G (G.s.r 2) (fun _ => 0) A.vs).1, minusOf 2)
    | some id => match (gfillOf G (G.s.r 2) (fun _ => 0) A.vs).1.cs[id]? with
      | none => none
      | some c => some ((gfillOf (if helper = 88 then { (gfillOf G (G.s.r 2) (fun _ => 0) A.vs).1 with ms := G.ms.set i (popX A) } else (gfillOf G (G.s.r 2) (fun _ => 0) A.vs).1) (G.s.r 2) c.val A.vs).1, minusOf 0)
theorem gfill_same {G G' : GSt} (h1 : ∀ i, frozenX G'.ms i = frozenX G.ms i) (h2 : ∀ i, vsOf G'.ms i = vsOf G.ms i) (h3 : ∀ j : Nat, (G'.cs[j]?).map (·.slot) = (G.cs[j]?).map (·.slot)) (a : RVal) (y y' : Nat → Int) (n : Nat) : (gfillOf G' a y' n).2 = (gfillOf G a y n).2 := by
  unfold gfillOf
  by_cases t3 : a.tag = 3
  · rw [if_pos t3, if_pos t3]
    split <;> rfl
  · rw [if_neg t3, if_neg t3]
    by_cases t5 : a.tag = 5
    · rw [if_pos t5, if_pos t5]
      cases a.cell with
      | none => rfl
      | some p =>
        have h4 := h3 p.block
        simp only
        cases hg : G.cs[p.block]? with
        | none =>
          rw [hg] at h4
          cases hg' : G'.cs[p.block]? with
          | none => rfl
          | some c => rw [hg'] at h4; cases h4
        | some c =>
          rw [hg] at h4
          cases hg' : G'.cs[p.block]? with
          | none => rw [hg'] at h4; cases h4
          | some c' =>
            rw [hg'] at h4
            have hs : c'.slot = c.slot := by simpa using h4
            simp only [hs, h1, h2]
            split <;> rfl
    · rw [if_neg t5, if_neg t5]
theorem gfill_keeps (G : GSt) (a : RVal) (y : Nat → Int) (n : Nat) : (gfillOf G a y n).1.s = G.s ∧ (gfillOf G a y n).1.ms = G.ms ∧ (gfillOf G a y n).1.cs.length = G.cs.length ∧ (∀ j : Nat, ((gfillOf G a y n).1.cs[j]?).map (·.slot) = (G.cs[j]?).map (·.slot)) ∧ (gfillOf G a y n).1.m.ctx = G.m.ctx := by
  unfold gfillOf
  by_cases t3 : a.tag = 3
  · rw [if_pos t3]
    split <;> exact ⟨rfl, rfl, rfl, fun _ => rfl, rfl⟩
  · rw [if_neg t3]
    by_cases t5 : a.tag = 5
    · rw [if_pos t5]
      cases a.cell with
      | none => exact ⟨rfl, rfl, rfl, fun _ => rfl, rfl⟩
      | some p =>
        simp only
        cases hg : G.cs[p.block]? with
        | none => exact ⟨rfl, rfl, rfl, fun _ => rfl, rfl⟩
        | some c =>
          simp only
          split
          · refine ⟨rfl, rfl, by simp, fun j => ?_, rfl⟩
            show ((G.cs.set p.block _)[j]?).map _ = _
            rw [cset_get hg]
            split
            · rename_i h; rw [h, hg]; rfl
            · rfl
          · exact ⟨rfl, rfl, rfl, fun _ => rfl, rfl⟩
    · rw [if_neg t5]; exact ⟨rfl, rfl, rfl, fun _ => rfl, rfl⟩
theorem pop_same {ms : List XMap} {i : Nat} {A : XMap} (hA : ms[i]? = some A) : (∀ j, frozenX (ms.set i (popX A)) j = frozenX ms j) ∧ ∀ j, vsOf (ms.set i (popX A)) j = vsOf ms j := by
  have h1 : (popX A).frozen = A.frozen ∧ (popX A).vs = A.vs := by unfold popX; split <;> exact ⟨rfl, rfl⟩
  refine ⟨fun j => ?_, fun j => vsOf_set hA h1.2 j⟩
  unfold frozenX
  rw [List.getElem?_set]
  by_cases h : i = j
  · subst h
    rw [if_pos rfl, if_pos (List.getElem?_eq_some_iff.1 hA).1, hA]
    simp [h1.1]
  · rw [if_neg h]
theorem SavP.grow {w1 : World} {o : GSt × Int} {r : Value} {w' : World} (h : SavP b k N mv G w1 o r w') : Kept (fun j => j = b ∨ j = k.bm ∨ N.own G.cs.length j) w1 w' := by
  obtain ⟨_, _, _, _, h⟩ := h
  exact h.mono fun j _ hj => .inr hj
theorem mm_same {N N' : Names} {i mb : Nat} {M : BMap} (hm : N'.mm.map (·.1) = N.mm.map (·.1)) (hq : N.mm[i]? = some (mb, M)) : ∃ M', N'.mm[i]? = some (mb, M') := by
  have h6 := congrArg (fun l => l[i]?) hm
  simp only [List.getElem?_map] at h6
  rw [hq] at h6
  cases h7 : N'.mm[i]? with
  | none => rw [h7] at h6; cases h6
  | some p =>
    rw [h7] at h6
    obtain ⟨x, y⟩ := p
    simp at h6
    exact ⟨y, by rw [h6]⟩
theorem kept_step {w1 w2 : World} {N1 : Names} {n n1 : Nat} (hk : Kept (fun j => j = b ∨ j = k.bm ∨ N.own n j) w w1) (hn : NExt w N N1 n n1) (hk2 : Kept (fun j => j = b ∨ j = k.bm ∨ N1.own n1 j) w1 w2) : Kept (fun j => j = b ∨ j = k.bm ∨ N.own n j) w w2 :=
  hk.then hk2 fun i hi hS => by
    rcases hS with h | h | h
    · exact .inl h
    · exact .inr (.inl h)
    · rcases hn.own i h with h | h
      · exact .inr (.inr h)
      · omega
theorem gfill_err {a : RVal} {y : Nat → Int} {n : Nat} (h : (gfillOf G a y n).2 ≠ 0) : (gfillOf G a y n).1 = G := by
  unfold gfillOf at h ⊢
  by_cases t3 : a.tag = 3
  · rw [if_pos t3] at h ⊢
    split
    · rename_i h1; rw [if_pos h1] at h; exact absurd rfl h
    · rfl
  · rw [if_neg t3] at h ⊢
    by_cases t5 : a.tag = 5
    · rw [if_pos t5] at h ⊢
      cases hc : a.cell with
      | none => rfl
      | some p =>
        rw [hc] at h
        simp only at h ⊢
        cases hg : G.cs[p.block]? with
        | none => rfl
        | some c =>
          rw [hg] at h
          simp only at h ⊢
          split
          · rename_i h1; rw [if_pos h1] at h; exact absurd rfl h
          · rfl
    · rw [if_neg t5]
theorem made_zero {w' : World} {nb n : Nat} (h : w'.heap[nb]? = some (.cells (madeCells #[.int .u8 0] n) 5 (0, 0))) : ∀ j, j < n → wcell w' nb (0 + j) = some (.int .u8 0) := fun j hj => by
  rw [Nat.zero_add, wcell_of h]
  exact made_get n j hj
set_option maxHeartbeats 8000000 in
theorem hnext_ret (h : GAt w b k N mv G) (ok : GOk G) {i mb : Nat} {A : XMap} {M : BMap} (hA : G.ms[i]? = some A) (hq : N.mm[i]? = some (mb, M)) (helper : Int) :
    Ret Tryz.prog 78 [.pointer (some ⟨b, 0, none⟩), .int .i32 helper, .pointer (some ⟨mb, 0, none⟩)] w (HelpP b k N mv G w (hnextOf G i A helper)) := by
  refine ret_of_W Tryz.func78 rfl ok_vm_machine_next ?_
  have okA := ok.maps A (List.mem_of_getElem? hA)
  obtain ⟨s1, s2, s3, s4, s5, s6, s7, s8, s9, _⟩ := spec_facts okA
  have hb := blk_lt h.mach
  have hbm := blk_lt h.mem
  simp only [c_vm_machine_next, zero_val, W_seq]
  refine W_new' (v := .agg RVal.zero.arr) (cs := RVal.zero.arr) (by simp) rfl ?_
  have h2 := hp_new w (.cells RVal.zero.arr 68)
  have hk1 : Kept none' w (w.alloc (.cells RVal.zero.arr 68)) := (Kept.refl _ _).alloc _
  have hb2 : w.heap.size ≤ w.heap.size := Nat.le_refl _
  generalize hbb : w.heap.size = b2 at *
  generalize w.alloc (.cells RVal.zero.arr 68) = w1 at *
  simp only [W_set, W_seq]
  refine ok_intro (.bool false) (by simp) ?_
  simp only [W_seq, W_draw]
  have hkd : Kept none' w w1.drew := hk1.drew
  have h2d : w1.drew.heap[b2]? = _ := h2
  generalize w1.drew = wd at *
  have h1 := h.calm hkd
  obtain ⟨hm1, hl1⟩ := h1.placed.low hA hq
  have hlin : (decide (M.ty = 3) || decide (M.ty = 4)) = linedX A := by unfold linedX; rw [hl1.ty]
  have hT := lined_T hm1
  rw [hlin] at hT
  refine W_calm (vs := [.pointer (some ⟨mb, 0, none⟩)]) (by simp) (ret_of_T hT) fun w3 hk3 => ?_
  have h3 := h1.calm hk3
  have hk03 := hkd.trans hk3
  have g2 := hk3.has h2d fun h => h
  have nbx : ∀ j, (j = b ∨ j = k.bm ∨ N.own G.cs.length j) → j ≠ b2 := fun j hj => by
    rcases hj with h | h | ho
    · omega
    · omega
    · have := h.placed.own_lt ho; omega
  unfold hnextOf
  have fault : ∀ {w' : World}, Kept none' w w' → w'.heap[b2]? = some (.cells RVal.zero.arr 68 (0, 0)) → HelpP b k N mv G w none (.tuple #[.agg RVal.zero.arr, .bool false]) (put w' b2 (.cells RVal.zero.arr 68 (0, 0))) := fun hk _ => help_none h (hk.putNew (by omega) _) _
  by_cases hbad : linedX A = false ∨ helper = 88 ∧ A.frozen = true
  · rw [if_pos hbad]
    cases hlx : linedX A with
    | false =>
      simp
      refine W_no (by simp) ?_
      simp
      refine W_no (by simp) ?_
      simp
      refine W_no (by simp) ?_
      simp
      refine W_no (by simp) ?_
      simp
      refine W_no (by simp) ?_
      simp
      refine W_no (by simp) ?_
      simp
      refine W_yes (by simp) ?_
      simp
      refine W_store (by simp) (by simp) (store_val (v := RVal.zero) g2) (stab_nil _ _ _) ?_
      simp [rval_row (put_same (o := .cells RVal.zero.arr 68) (blk_lt g2))]
      exact fault hk03 g2
    | true =>
      have hfz : helper = 88 ∧ A.frozen = true := by
        rcases hbad with h | h
        · rw [hlx] at h; cases h
        · exact h
      obtain ⟨rfl, hfz⟩ := hfz
      have hm3 := (h3.placed.low hA hq).1
      simp
      refine W_yes (by simp) ?_
      refine W_call0 (by simp) (frozen_ret mb M w3 hm3) ?_
      rintro v w4 ⟨rfl, rfl⟩
      rw [hl1.frozen, hfz]
      simp
      refine W_no (by simp) ?_
      simp
      refine W_no (by simp) ?_
      simp
      refine W_no (by simp) ?_
      simp
      refine W_no (by simp) ?_
      simp
      refine W_no (by simp) ?_
      simp
      refine W_yes (by simp) ?_
      simp
      refine W_store (by simp) (by simp) (store_val (v := RVal.zero) g2) (stab_nil _ _ _) ?_
      simp [rval_row (put_same (o := .cells RVal.zero.arr 68) (blk_lt g2))]
      exact fault hk03 g2
  · rw [if_neg hbad]
    have hlx : linedX A = true := by
      cases hq : linedX A with
      | true => rfl
      | false => exact absurd (.inl hq) hbad
    rw [hlx]
    have hm3 := (h3.placed.low hA hq).1
    simp only [W_seq]
    refine W_chkIn [if helper = 88 then .pointer (some ⟨mb, 0, none⟩) else .bool false] (by by_cases hp : helper = 88 <;> simp [hp]) ?_
    try simp only [W_seq]
    refine W_cut (fun env' w' => w' = w3 ∧ ∃ u6, (helper = 88 → u6 = .bool false) ∧ env' = [.pointer (some ⟨b, 0, none⟩), .int .i32 helper, .pointer (some ⟨mb, 0, none⟩), .pointer (some ⟨b2, 0, none⟩), .bool false, .bool true, u6, undef, undef, undef, undef, undef, undef, undef, undef, undef, undef, undef, undef, undef, undef]) ?_ ?_
    · by_cases hp : helper = 88
      · refine W_yes (by simp [hp]) ?_
        refine W_call0 (by simp) (frozen_ret mb M w3 hm3) ?_
        rintro v w4 ⟨rfl, rfl⟩
        have hfz : A.frozen = false := by
          cases hf : A.frozen with
          | false => rfl
          | true => exact absurd (.inr ⟨hp, hf⟩) hbad
        rw [hl1.frozen, hfz]
        simp
      · refine W_no (by simp [hp]) ?_
        simp [hp]
    rintro env' w' ⟨rfl, u6, hu6, rfl⟩
    have hp6 : pickV (.bool (decide (helper = 88))) (varV u6) (some (.bool false)) = some (.bool false) := by
      by_cases hp : helper = 88
      · rw [hu6 hp]; simp [hp, pickV]
      · simp [hp, pickV]
    have c37 := mach_bm h3.mach
    have r2 := mach_rrow h3.mach 2 (by omega)
    simp only [vren_r] at r2
    try simp only [W_seq]
    refine W_chkIn [.pointer (some ⟨b, 37, none⟩)] (by simp [hp6]) ?_
    try simp only [W_seq]
    refine W_yes (by simp [hp6]) ?_
    simp only [W_set]
    refine ok_intro (.pointer (some ⟨k.bm, 0, none⟩)) (by simp [c37]) ?_
    try simp only [W_seq]
    refine W_chkIn [.pointer (some ⟨b, 46, none⟩)] (by simp [hp6]) ?_
    try simp only [W_seq]
    refine W_yes (by simp [hp6]) ?_
    simp only [W_set]
    refine ok_intro (.agg ((G.s.r 2).ren N.cb).arr) (by simp [r2]) ?_
    try simp only [W_seq]
    refine W_chkIn [.pointer (some ⟨mb, 0, none⟩)] (by simp [hp6]) ?_
    try simp only [W_seq]
    refine W_yes (by simp [hp6]) ?_
    refine W_calm (vs := [.pointer (some ⟨mb, 0, none⟩)]) (by simp) (ret_of_T (mspec_T hm3)) fun w4 hk4 => ?_
    have h4 := h3.calm hk4
    have hm4 := (h4.placed.low hA hq).1
    try simp only [W_seq]
    refine W_chkIn [.int .i64 (A.vs : Nat)] (by simp [hp6, specArr, hl1.vs]) ?_
    try simp only [W_seq]
    refine W_yes (by simp [hp6]) ?_
    refine W_sem (vs := [.int .i64 (A.vs : Nat), .int .i64 (A.vs : Nat)]) (by simp [specArr, hl1.vs]) (run_mkb A.vs (by omega) w4) (stab_alloc _ _ _ _) ?_
    have hz := hp_new w4 (.cells (madeCells #[.int .u8 0] A.vs) 5)
    have hk5 : Kept none' w4 (w4.alloc (.cells (madeCells #[.int .u8 0] A.vs) 5)) := (Kept.refl _ _).alloc _
    generalize hnz : w4.heap.size = nz at *
    generalize w4.alloc (.cells (madeCells #[.int .u8 0] A.vs) 5) = w5 at *
    have h5 := h4.calm hk5
    have hkd5 := (hk3.trans hk4).trans hk5
    refine W_yes (by simp [hp6]) ?_
    refine W_call0 (vs := [.pointer (some ⟨k.bm, 0, none⟩), .agg ((G.s.r 2).ren N.cb).arr, .slice (some ⟨nz, 0, none⟩) A.vs A.vs]) (by simp) (gfill_ret h5 ok (ok.reg 2) (n := A.vs) (by omega) (y := fun _ => 0) (fun _ => by simp) (so := 0) (made_zero hz)) ?_
    rintro r w6 ⟨rfl, N1, hG6, hn6, hk6⟩
    have hk6' : Kept (fun j => j = b ∨ j = k.bm ∨ N.own G.cs.length j) w5 w6 := hk6.mono fun j _ hj => .inr hj
    have hkd6 := (hkd5.mono fun _ _ h => h.elim).trans hk6'
    have hnd6 := NExt.before hn6 hkd5.size
    have g26 := hkd6.has h2d (fun ho => nbx b2 ho rfl)
    have ok1 := ok.fill (G.s.r 2) (y := fun _ => 0) (fun _ => by simp) A.vs
    have hkeep := gfill_keeps G (G.s.r 2) (fun _ => 0) A.vs
    have herr := gfill_err (G := G) (a := G.s.r 2) (y := fun _ => 0) (n := A.vs)
    have hsame : ∀ (G' : GSt) (y' : Nat → Int), (∀ i, frozenX G'.ms i = frozenX G.ms i) → (∀ i, vsOf G'.ms i = vsOf G.ms i) → (∀ j : Nat, (G'.cs[j]?).map (·.slot) = (G.cs[j]?).map (·.slot)) → (gfillOf G' (G.s.r 2) y' A.vs).2 = (gfillOf G (G.s.r 2) (fun _ => 0) A.vs).2 := fun G' y' a1 a2 a3 => gfill_same a1 a2 a3 _ _ _ _
    generalize gfillOf G (G.s.r 2) (fun _ => 0) A.vs = F1 at *
    obtain ⟨G1, e1⟩ := F1
    simp only at hG6 hnd6 ok1 hkeep herr hsame ⊢
    by_cases he1 : e1 = 0
    · subst he1
      rw [if_neg (by simp)]
      obtain ⟨q1, q2, q3, q4, q5⟩ := hkeep
      have hA1 : G1.ms[i]? = some A := by rw [q2]; exact hA
      obtain ⟨M1, hq1⟩ := mm_same hn6.mb hq
      refine W_no (by simp [hp6]) ?_
      simp
      refine W_calmP (vs := [.pointer (some ⟨mb, 0, none⟩)]) (by simp) ((ppeek_ret hG6.placed hA1 hq1 okA hlx).mono fun _ _ hh => ⟨hh.2, hh.1⟩) ?_
      intro v w7 hk7 hv7
      have hG7 := hG6.calm hk7
      have hkd7 := hkd6.trans (hk7.mono fun _ _ h => h.elim)
      have hwd7 := hkd7.size
      have hfz1 : helper = 88 → A.frozen = false := fun hp => by
        cases hf : A.frozen with
        | false => rfl
        | true => exact absurd (.inr ⟨hp, hf⟩) hbad
      unfold NextP at hv7
      cases hpk : peekX A with
      | none =>
        rw [hpk] at hv7
        subst hv7
        have hl0 : A.l.length = 0 := by
          unfold peekX at hpk
          have h1 : A.l[nextX A]? = none := by simpa using hpk
          have h2 := List.getElem?_eq_none_iff.1 h1
          unfold nextX at h2
          split at h2 <;> omega
        have hpop : popX A = A := by unfold popX; rw [if_pos hl0]
        simp
        refine W_cut (fun env' w' => ∃ N2 u6 u7 u8 u9 u10 u11 u12 u15, GAt w' b k N2 mv G1 ∧ NExt wd N N2 G.cs.length G1.cs.length ∧ Kept (fun j => j = b ∨ j = k.bm ∨ N.own G.cs.length j) wd w' ∧
          env' = [.pointer (some ⟨b, 0, none⟩), .int .i32 helper, .pointer (some ⟨mb, 0, none⟩), .pointer (some ⟨b2, 0, none⟩), .bool false, .bool true, u6, u7, u8, u9, u10, u11, u12, .slice none 0 0, .int .i64 2, u15, undef, undef, undef, undef, undef]) ?_ ?_
        · by_cases hp : helper = 88
          · refine W_yes (by simp [hp]) ?_
            simp only [W_seq]
            refine W_call0 (vs := [.pointer (some ⟨mb, 0, none⟩)]) (by simp) (ppop_ret hG7.placed hA1 hq1 okA hlx (hfz1 hp)) ?_
            rintro v w8 ⟨hv8, hout⟩
            unfold NextP at hv8
            rw [hpk] at hv8
            subst hv8
            rw [hpop, set_self hA1] at hout
            obtain ⟨N2, hG8, hn8, hk8⟩ := hG7.outp hout (Nat.le_refl _) ok1.reg ok1.kept
            simp
            refine ⟨N2, hG8, hnd6.trans (NExt.before hn8 hk7.size) hkd6.size, ?_⟩
            exact kept_step hkd7 (NExt.before hnd6 (Nat.le_refl _)) (hk8.mono fun j _ hj => .inr (.inr hj))
          · refine W_no (by simp [hp]) ?_
            simp
            exact ⟨N1, hG7, hnd6, hkd7⟩
        rintro env' w8 ⟨N2, u6, u7, u8, u9, u10, u11, u12, u15, hG8, hn8, hk8, rfl⟩
        simp only [W_seq]
        refine W_yes (by simp) ?_
        simp only [W_seq]
        refine W_calm (vs := [.int .i64 2]) (by simp) (ret_of_T (minus_T w8 2)) fun w9 hk9 => ?_
        have hG9 := hG8.calm hk9
        have hkd9 := hk8.trans (hk9.mono fun _ _ h => h.elim)
        have g29 := hkd9.has h2d (fun ho => nbx b2 ho rfl)
        simp
        refine W_store (by simp) (by simp) (store_val (v := minusOf 2) g29) (stab_nil _ _ _) ?_
        simp [rval_row (put_same (o := .cells (minusOf 2).arr 68) (blk_lt g29))]
        exact help_end h hkd (by omega) (blk_lt h2d) hG9 hn8 hkd9 (minusOf 2)
      | some id =>
        rw [hpk] at hv7
        obtain ⟨c, nb, cap, hcc, rfl, hnb, hby⟩ := hv7
        simp only [hcc]
        have hcb := (hG7.placed.cell id c hcc).2.byte
        have hpsame := pop_same hA1
        have hG2ok : GOk (if helper = 88 then { G1 with ms := G.ms.set i (popX A) } else G1) := by
          split
          · rw [← q2]
            exact ok1.maps' okA.pop (fun _ hv => hv) ok1.slots
          · exact ok1
        have he3 : (gfillOf (if helper = 88 then { G1 with ms := G.ms.set i (popX A) } else G1) (G.s.r 2) c.val A.vs).2 = 0 := by
          have := hsame (if helper = 88 then { G1 with ms := G.ms.set i (popX A) } else G1) c.val (fun j => by
            split
            · rw [← q2]; exact hpsame.1 j
            · rw [q2]) (fun j => by
            split
            · rw [← q2]; exact hpsame.2 j
            · rw [q2]) (fun j => by
            split
            · exact q4 j
            · exact q4 j)
          exact this
        have hs2 : (if helper = 88 then { G1 with ms := G.ms.set i (popX A) } else G1).s = G.s ∧ (if helper = 88 then { G1 with ms := G.ms.set i (popX A) } else G1).cs = G1.cs := by
          split
          · exact ⟨q1, rfl⟩
          · exact ⟨q1, rfl⟩
        simp
        generalize hG2 : (if helper = 88 then ({ G1 with ms := G.ms.set i (popX A) } : GSt) else G1) = G2 at *
        refine W_cut (fun env' w' => ∃ N2 nb2 cap2 u6 u7 u8 u9 u10 u11 u12 u15, GAt w' b k N2 mv G2 ∧ NExt wd N N2 G.cs.length G2.cs.length ∧ Kept (fun j => j = b ∨ j = k.bm ∨ N.own G.cs.length j) wd w' ∧ (∀ j, j < A.vs → wcell w' nb2 (0 + j) = some (.int .u8 (c.val j))) ∧
          env' = [.pointer (some ⟨b, 0, none⟩), .int .i32 helper, .pointer (some ⟨mb, 0, none⟩), .pointer (some ⟨b2, 0, none⟩), .bool false, .bool true, u6, u7, u8, u9, u10, u11, u12, .slice (some ⟨nb2, 0, none⟩) A.vs cap2, .int .i64 0, u15, undef, undef, undef, undef, undef]) ?_ ?_
        · by_cases hp : helper = 88
          · rw [if_pos hp] at hG2
            refine W_yes (by simp [hp]) ?_
            simp only [W_seq]
            refine W_call0 (vs := [.pointer (some ⟨mb, 0, none⟩)]) (by simp) (ppop_ret hG7.placed hA1 hq1 okA hlx (hfz1 hp)) ?_
            rintro v w8 ⟨hv8, hout⟩
            unfold NextP at hv8
            rw [hpk] at hv8
            obtain ⟨c', nb', cap', hcc', rfl, hnb', hby'⟩ := hv8
            rw [hcc] at hcc'
            cases hcc'
            obtain ⟨N2, hG8, hn8, hk8⟩ := hG7.outp hout (Nat.le_refl _) ok1.reg ok1.kept
            have hGe : ({ G1 with ms := G1.ms.set i (popX A), cs := G1.cs } : GSt) = G2 := by rw [q2, ← hG2]
            rw [hGe] at hG8
            try simp only [W_seq]
            refine W_chkIn [.int .i64 0] (by simp) ?_
            try simp only [W_seq]
            rw [W_set]
            refine ok_intro (.slice (some ⟨nb', 0, none⟩) A.vs cap') (by simp) ?_
            rw [W_set]
            refine ok_intro (.int .i64 0) (by simp) ?_
            rw [W_post]
            have hnn : NExt wd N N2 G.cs.length G2.cs.length := by
              rw [hs2.2]
              exact hnd6.trans (NExt.before hn8 hk7.size) hkd6.size
            exact ⟨N2, nb', cap', _, _, _, _, _, _, _, _, hG8, hnn, kept_step hkd7 (NExt.before hnd6 (Nat.le_refl _)) (hk8.mono fun j _ hj => .inr (.inr hj)), fun j hj => by rw [Nat.zero_add]; exact hby' j hj, rfl⟩
          · rw [if_neg hp] at hG2
            refine W_no (by simp [hp]) ?_
            simp only [W_skip, W_post]
            subst hG2
            exact ⟨N1, nb, cap, _, _, _, _, _, _, _, _, hG7, hnd6, hkd7, fun j hj => by rw [Nat.zero_add]; exact hby j hj, rfl⟩
        rintro env' w8 ⟨N2, nb2, cap2, u6, u7, u8, u9, u10, u11, u12, u15, hG8, hn8, hk8, hby8, rfl⟩
        simp only [W_seq]
        refine W_no (by simp) ?_
        simp only [W_skip, W_seq, W_draw]
        have hG9 := hG8.calm ((Kept.refl none' w8).drew)
        have hk9 := hk8.drew
        have hby9 : ∀ j, j < A.vs → wcell w8.drew nb2 (0 + j) = some (.int .u8 (c.val j)) := hby8
        generalize w8.drew = w9 at *
        have c37 := mach_bm hG9.mach
        have r2 := mach_rrow hG9.mach 2 (by omega)
        simp only [vren_r, hs2.1] at r2
        refine W_chkIn [.int .i64 0] (by simp) ?_
        try simp only [W_seq, W_set]
        refine ok_intro (.pointer (some ⟨k.bm, 0, none⟩)) (by simp [c37]) ?_
        try simp only [W_seq, W_set]
        refine ok_intro (.agg ((G.s.r 2).ren N2.cb).arr) (by simp [r2]) ?_
        try simp only [W_seq]
        refine W_chkIn [.slice (some ⟨nb2, 0, none⟩) A.vs cap2] (by simp) ?_
        try simp only [W_seq]
        refine W_calm (vs := [.int .i64 0]) (by simp) (ret_of_T (minus_T w9 0)) fun w10 hk10 => ?_
        have hG10 := hG9.calm hk10
        have hkd10 := hk9.trans (hk10.mono fun _ _ h => h.elim)
        try simp only [W_seq]
        have hv2 : VOk G2.cs (G.s.r 2) := by rw [← hs2.1]; exact hG2ok.reg 2
        refine W_call0 (vs := [.pointer (some ⟨k.bm, 0, none⟩), .agg ((G.s.r 2).ren N2.cb).arr, .slice (some ⟨nb2, 0, none⟩) A.vs cap2]) (by simp) (gfill_ret hG10 hG2ok hv2 (n := A.vs) (by omega) hcb (so := 0) (fun j hj => wcell_kept hk10 (fun h => h) (hby9 j hj))) ?_
        rintro r w11 ⟨rfl, N3, hG11, hn11, hk11⟩
        have hkd11 := kept_step hkd10 hn8 (hk11.mono fun j _ hj => .inr hj)
        have hnd11 := hn8.trans (NExt.before hn11 (hk10.size)) hk9.size
        have g211 := hkd11.has h2d (fun ho => nbx b2 ho rfl)
        rw [he3]
        simp
        refine W_store (by simp) (by simp) (store_val (v := minusOf 0) g211) (stab_nil _ _ _) ?_
        simp [rval_row (put_same (o := .cells (minusOf 0).arr 68) (blk_lt g211))]
        exact help_end h hkd (by omega) (blk_lt h2d) hG11 hnd11 hkd11 (minusOf 0)
    · rw [if_pos he1]
      have hGG := herr he1
      subst hGG
      refine W_yes (by simp [hp6, he1]) ?_
      simp
      refine W_store (by simp) (by simp) (store_val (v := RVal.zero) g26) (stab_nil _ _ _) ?_
      simp [rval_row (put_same (o := .cells RVal.zero.arr 68) (blk_lt g26))]
      exact help_endN h hkd (by omega) (blk_lt h2d) hG6 hnd6 hkd6 _ _
end
end Go.Proofs.YtmfgdbapankamaaGreat
namespace Go.Proofs.YtmfgdbapankamaaGreat
open Go.Eng
theorem lucky_ren (f : Nat → Nat) (s : VSt) (us : List Int) : luckyOf (s.ren f) us = ((luckyOf s us).1.ren f, (luckyOf s us).2) := by
  unfold luckyOf
  rw [vren_luck]
  split <;> rfl
theorem lucky_num (s : VSt) (us : List Int) (hu : ∀ n ∈ us, 0 ≤ n) : ∃ n, 0 ≤ n ∧ (luckyOf s us).2 = num n := by
  unfold luckyOf
  split
  · rename_i n hn; exact ⟨n, hu n (List.mem_of_getElem? hn), rfl⟩
  · exact ⟨0, by omega, rfl⟩
def argOf (G : GSt) : Option Nat := if (G.s.r 1).tag = 4 ∧ 0 ≤ (G.s.r 1).slot ∧ (G.s.r 1).slot < G.ms.length then some (G.s.r 1).slot.toNat else none
noncomputable def ghelpOf (G : GSt) (clock : Int) (us : List Int) (imm : Int) : Option (GSt × RVal) :=
  if imm = 5 then some (G, num clock)
  else if imm = 7 then some ({ G with s := (luckyOf G.s us).1 }, (luckyOf G.s us).2)
  else match argOf G with
    | none => none
    | some i => match G.ms[i]? with
      | none => none
      | some A => if imm = 1 then hfindOf G i A else if imm = 2 ∨ imm = 3 then hchangeOf G i A imm else if imm = 87 then hpushOf G i A else if imm = 88 ∨ imm = 89 then hnextOf G i A imm else none
section
variable {w : World} {b : Nat} {k : VK} {N : Names} {mv : Value} {G : GSt}
def ArgP (N : Names) (G : GSt) (o : Option Nat) (v : Value) : Prop :=
  match o with
  | none => v = .pointer none
  | some i => ∃ mb M A, N.mm[i]? = some (mb, M) ∧ G.ms[i]? = some A ∧ v = .pointer (some ⟨mb, 0, none⟩)
theorem garg_ret (h : GAt w b k N mv G) : Ret Tryz.prog 74 [.pointer (some ⟨b, 0, none⟩)] w fun v w' => Kept none' w w' ∧ ArgP N G (argOf G) v := by
  refine ret_of_W Tryz.func74 rfl ok_vm_machine_argMap ?_
  have c42 := mach_tag1 h.mach
  simp only [vren_r, ren_tag] at c42
  unfold argOf
  simp [c_vm_machine_argMap]
  by_cases ht : (G.s.r 1).tag = 4
  · refine W_no (by simp [c42, ht]) ?_
    simp
    have h1 := h.calm ((Kept.refl none' w).drew)
    have hkd : Kept none' w w.drew := (Kept.refl _ _).drew
    generalize w.drew = w1 at *
    have c44 := mach_slot1 h1.mach
    simp only [vren_r, ren_slot] at c44
    have c37 := mach_bm h1.mach
    refine W_call0 (vs := [.pointer (some ⟨k.bm, 0, none⟩), .int .i64 (G.s.r 1).slot]) (by simp [c37, c44]) (map_ret k.bm _ _ (G.s.r 1).slot w1 h1.mem h1.maps) ?_
    rintro v w2 ⟨rfl, rfl⟩
    simp
    refine ⟨hkd, ?_⟩
    by_cases hin : 0 ≤ (G.s.r 1).slot ∧ (G.s.r 1).slot < G.ms.length
    · rw [if_pos ⟨ht, hin⟩]
      have hlt : (G.s.r 1).slot.toNat < G.ms.length := by omega
      have hA : G.ms[(G.s.r 1).slot.toNat]? = some G.ms[(G.s.r 1).slot.toNat] := List.getElem?_eq_getElem hlt
      obtain ⟨mb, M, hq, _⟩ := h.placed.get hA
      refine ⟨mb, M, _, hq, hA, ?_⟩
      have hm := map_at h.placed hq
      rw [Int.toNat_of_nonneg hin.1] at hm
      rw [hm]
      rfl
    · rw [if_neg (fun hh => hin hh.2)]
      have : mapAt (N.mm.map (·.1)) (G.s.r 1).slot = none := by
        unfold mapAt
        split
        · rfl
        · rw [List.getElem?_eq_none]
          rw [List.length_map, h.placed.len]
          omega
      rw [this]
      exact (rfl : Value.pointer none = _)
  · refine W_yes (by simp [c42, ht]) ?_
    simp
    refine ⟨Kept.refl _ _, ?_⟩
    rw [if_neg (fun hh => ht hh.1)]
    exact (rfl : Value.pointer none = _)
theorem help_pass (h0 : GAt w b k N mv G) {w1 : World} {b2 : Nat} (hk1 : Kept none' w w1) (hb2 : w.heap.size ≤ b2) (hb1 : b2 < w1.heap.size) {o : Option (GSt × RVal)} {u : RVal} {t : Bool} {w2 : World} (hr : HelpP b k N mv G w1 o (.tuple #[.agg u.arr, .bool t]) w2) (x : Obj) :
    HelpP b k N mv G w o (.tuple #[.agg u.arr, .bool t]) (put w2 b2 x) := by
  have lb := blk_lt h0.mach
  have lm := blk_lt h0.mem
  obtain ⟨u', N', h1, h2, hG, hn, hk2⟩ := hr
  have own2 : ¬ N'.own (o.elim G (·.1)).cs.length b2 := fun ho => by
    rcases hn.own b2 ho with h1 | h1
    · have := h0.placed.own_lt h1; omega
    · omega
  have hkp : Kept (· = b2) w2 (put w2 b2 x) := (Kept.refl (· = b2) w2).put (b := b2) (fun _ => rfl) _
  have hk02 : Kept (fun j => j = b ∨ j = k.bm ∨ N.own G.cs.length j) w w2 := (hk1.mono fun _ _ h => h.elim).trans hk2
  refine ⟨u', N', h1, h2, ⟨hkp.has hG.mach (by omega), hkp.has hG.mem (by omega), hG.maps.keep hkp fun j hj => ?_, hG.apart, hG.placed.keep hkp fun i hi e => own2 (e ▸ hi), hG.low⟩, NExt.before hn hk1.size, hk02.then hkp fun i hi e => ?_⟩
  · have := h0.low j hj; omega
  · omega
theorem HelpP.form {o : Option (GSt × RVal)} {r : Value} {w' : World} (h : HelpP b k N mv G w o r w') : ∃ u, r = .tuple #[.agg (RVal.arr u), .bool o.isSome] := by
  obtain ⟨u, _, h1, _⟩ := h
  exact ⟨u, h1⟩
set_option maxHeartbeats 4000000 in
theorem ghelp_ret (h : GAt w b k N mv G) (ok : GOk G) (hc : ∀ A ∈ G.ms, A.clock + 1 ≤ 1000000) {S : Nat → Prop} (hS : S b) {us : List Int} (hu : Luck w S k.random us) (hus : ∀ n ∈ us, 0 ≤ n) (imm : Int) :
    Ret Tryz.prog 62 [.pointer (some ⟨b, 0, none⟩), .int .i32 imm] w (HelpP b k N mv G w (ghelpOf G k.clock us imm)) := by
  refine ret_of_W Tryz.func62 rfl ok_vm_machine_help ?_
  have hb := blk_lt h.mach
  have hbm := blk_lt h.mem
  simp only [c_vm_machine_help, zero_val, W_seq]
  refine W_new' (v := .agg RVal.zero.arr) (cs := RVal.zero.arr) (by simp) rfl ?_
  have h2 := hp_new w (.cells RVal.zero.arr 68)
  have hk1 : Kept none' w (w.alloc (.cells RVal.zero.arr 68)) := (Kept.refl _ _).alloc _
  have hb2 : w.heap.size ≤ w.heap.size := Nat.le_refl _
  generalize hbb : w.heap.size = b2 at *
  generalize w.alloc (.cells RVal.zero.arr 68) = w1 at *
  have h1 := h.calm hk1
  have hu1 : Luck w1 S k.random us := hu.keep (hk1.mono fun _ _ h => h.elim)
  have nbx : ∀ j, (j = b ∨ j = k.bm ∨ N.own G.cs.length j) → j ≠ b2 := fun j hj => by
    rcases hj with h | h | ho
    · omega
    · omega
    · have := h.placed.own_lt ho; omega
  unfold ghelpOf
  simp
  by_cases i5 : imm = 5
  · rw [if_pos i5]
    refine W_yes (by simp [i5]) ?_
    simp
    have c34 := mach_clock h1.mach
    refine W_calm (vs := [.int .u64 k.clock]) (by simp [c34]) (ret_of_T (number_T w1 k.clock)) fun w3 hk3 => ?_
    have h3 := h1.calm hk3
    have g2 := hk3.has h2 fun h => h
    simp
    refine W_store (by simp) (by simp) (store_val (v := num k.clock) g2) (stab_nil _ _ _) ?_
    simp [rval_row (put_same (o := .cells (num k.clock).arr 68) (blk_lt g2))]
    exact help_end h hk1 (by omega) (blk_lt h2) h3 (NExt.refl _ _ _) (hk3.mono fun _ _ h => h.elim) (num k.clock)
  rw [if_neg i5]
  refine W_no (by simp [i5]) ?_
  simp
  by_cases i7 : imm = 7
  · rw [if_pos i7]
    refine W_yes (by simp [i7]) ?_
    simp
    refine W_call0 (vs := [.pointer (some ⟨b, 0, none⟩)]) (by simp) (lucky_ret b k (G.s.ren N.cb) S us w1 h1.mach hS hu1 ok.luck) ?_
    rintro r w3 ⟨hk3, rfl, hm3⟩
    rw [lucky_ren] at hm3 ⊢
    have h3 := h1.mach' (s' := (luckyOf G.s us).1) hk3 hm3
    have g2 := hk3.has h2 (by omega)
    obtain ⟨n, hn0, hn⟩ := lucky_num G.s us hus
    rw [hn]
    simp
    refine W_store (by simp) (by simp) (store_val (v := num n) g2) (stab_nil _ _ _) ?_
    simp [rval_row (put_same (o := .cells (num n).arr 68) (blk_lt g2))]
    exact help_end h hk1 (by omega) (blk_lt h2) h3 (NExt.refl _ _ _) (hk3.mono fun j _ hj => .inl hj) (num n)
  rw [if_neg i7]
  refine W_no (by simp [i7]) ?_
  simp
  refine W_calmP (vs := [.pointer (some ⟨b, 0, none⟩)]) (by simp) (garg_ret h1) ?_
  intro v w3 hk3 hv
  have h3 := h1.calm hk3
  have g2 := hk3.has h2 fun h => h
  have hk13 := hk1.trans hk3
  cases ha : argOf G with
  | none =>
    rw [ha] at hv
    unfold ArgP at hv
    simp only at hv ⊢
    subst hv
    simp
    refine W_yes (by simp) ?_
    simp
    refine W_store (by simp) (by simp) (store_val (v := RVal.zero) g2) (stab_nil _ _ _) ?_
    simp [rval_row (put_same (o := .cells RVal.zero.arr 68) (blk_lt g2))]
    exact help_none h (hk13.putNew (by omega) _) _
  | some i =>
    rw [ha] at hv
    unfold ArgP at hv
    simp only at hv
    obtain ⟨mb, M, A, hq, hA, rfl⟩ := hv
    have hcA := hc A (List.mem_of_getElem? hA)
    have hlt3 : b2 < w3.heap.size := Nat.lt_of_lt_of_le (blk_lt h2) hk3.size
    simp only [hA]
    simp
    refine W_no (by simp) ?_
    simp
    have pass : ∀ {o : Option (GSt × RVal)} {u : RVal} {w5 : World}, HelpP b k N mv G w3 o (.tuple #[.agg u.arr, .bool o.isSome]) w5 → w5.heap[b2]? = some (.cells RVal.zero.arr 68 (0, 0)) ∧ HelpP b k N mv G w o (.tuple #[.agg u.arr, .bool o.isSome]) (put w5 b2 (.cells u.arr 68 (0, 0))) := by
      intro o u w5 hr
      refine ⟨?_, help_pass h hk13 (by omega) hlt3 hr _⟩
      obtain ⟨_, _, _, _, _, _, hk⟩ := hr
      exact hk.has g2 fun ho => nbx b2 ho rfl
    by_cases i1 : imm = 1
    · rw [if_pos i1]
      refine W_yes (by simp [i1]) ?_
      simp
      refine W_call0 (vs := [.pointer (some ⟨b, 0, none⟩), .pointer (some ⟨mb, 0, none⟩)]) (by simp) (hfind_ret h3 ok hA hq hcA) ?_
      intro r w5 hr
      obtain ⟨u, rfl⟩ := hr.form
      obtain ⟨g25, hp⟩ := pass hr
      simp
      refine W_store (by simp) (by simp) (store_val (v := u) g25) (stab_nil _ _ _) ?_
      simp [rval_row (put_same (o := .cells u.arr 68) (blk_lt g25))]
      exact hp
    rw [if_neg i1]
    refine W_no (by simp [i1]) ?_
    simp
    refine W_cut (fun env' w' => w' = w3 ∧ ∃ u4 u5 u6 u7 u8 u9, env' = [.pointer (some ⟨b, 0, none⟩), .int .i32 imm, .pointer (some ⟨b2, 0, none⟩), .bool false, u4, u5, u6, u7, u8, u9, .pointer (some ⟨mb, 0, none⟩), .int .i32 imm, .bool false, undef, .bool (decide (imm = 2 ∨ imm = 3)), undef, undef, undef, undef, undef]) ?_ ?_
    · by_cases i2 : imm = 2
      · refine W_yes (by simp [i2]) ?_
        simp [i2, i1]
      · refine W_no (by simp [i2]) ?_
        simp [i2, i1]
    rintro env' w' ⟨rfl, u4, u5, u6, u7, u8, u9, rfl⟩
    by_cases i23 : imm = 2 ∨ imm = 3
    · rw [if_pos i23]
      refine W_yes (by simp [i23]) ?_
      simp
      refine W_call0 (vs := [.pointer (some ⟨b, 0, none⟩), .int .i32 imm, .pointer (some ⟨mb, 0, none⟩)]) (by simp) (hchange_ret h3 ok hA hq hcA imm) ?_
      intro r w5 hr
      obtain ⟨u, rfl⟩ := hr.form
      obtain ⟨g25, hp⟩ := pass hr
      simp
      refine W_store (by simp) (by simp) (store_val (v := u) g25) (stab_nil _ _ _) ?_
      simp [rval_row (put_same (o := .cells u.arr 68) (blk_lt g25))]
      exact hp
    rw [if_neg i23]
    refine W_no (by simp [i23]) ?_
    simp
    by_cases i87 : imm = 87
    · rw [if_pos i87]
      refine W_yes (by simp [i87]) ?_
      simp
      refine W_call0 (vs := [.pointer (some ⟨b, 0, none⟩), .pointer (some ⟨mb, 0, none⟩)]) (by simp) (hpush_ret h3 ok hA hq) ?_
      intro r w5 hr
      obtain ⟨u, rfl⟩ := hr.form
      obtain ⟨g25, hp⟩ := pass hr
      simp
      refine W_store (by simp) (by simp) (store_val (v := u) g25) (stab_nil _ _ _) ?_
      simp [rval_row (put_same (o := .cells u.arr 68) (blk_lt g25))]
      exact hp
    rw [if_neg i87]
    refine W_no (by simp [i87]) ?_
    simp
    refine W_cut (fun env' w'' => w'' = w' ∧ ∃ u14 u16, env' = [.pointer (some ⟨b, 0, none⟩), .int .i32 imm, .pointer (some ⟨b2, 0, none⟩), .bool false, u4, u5, u6, u7, u8, u9, .pointer (some ⟨mb, 0, none⟩), .int .i32 imm, .bool false, undef, u14, undef, u16, undef, .bool (decide (imm = 88 ∨ imm = 89)), undef]) ?_ ?_
    · by_cases i2 : imm = 88
      · refine W_yes (by simp [i2]) ?_
        simp [i2]
      · refine W_no (by simp [i2]) ?_
        simp [i2]
    rintro env' w'' ⟨rfl, u14, u16, rfl⟩
    by_cases i8 : imm = 88 ∨ imm = 89
    · rw [if_pos i8]
      refine W_yes (by simp [i8]) ?_
      simp
      refine W_call0 (vs := [.pointer (some ⟨b, 0, none⟩), .int .i32 imm, .pointer (some ⟨mb, 0, none⟩)]) (by simp) (hnext_ret h3 ok hA hq imm) ?_
      intro r w5 hr
      obtain ⟨u, rfl⟩ := hr.form
      obtain ⟨g25, hp⟩ := pass hr
      simp
      refine W_store (by simp) (by simp) (store_val (v := u) g25) (stab_nil _ _ _) ?_
      simp [rval_row (put_same (o := .cells u.arr 68) (blk_lt g25))]
      exact hp
    rw [if_neg i8]
    refine W_no (by simp [i8]) ?_
    simp
    refine W_store (by simp) (by simp) (store_val (v := RVal.zero) g2) (stab_nil _ _ _) ?_
    simp [rval_row (put_same (o := .cells RVal.zero.arr 68) (blk_lt g2))]
    exact help_none h (hk13.putNew (by omega) _) _
end
end Go.Proofs.YtmfgdbapankamaaGreat
