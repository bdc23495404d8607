/- Layer 20: stores of a machine with maps; atomic ones. -/
import Derived.Test.YtmfgdbapankamaaGreatGr24
import Derived.Test.YtmfgdbapankamaaGreatGr8
import Derived.Laws.IdiomCopy
set_option linter.unusedSimpArgs false
set_option linter.unusedVariables false
set_option maxRecDepth 8000
namespace Go.Proofs.YtmfgdbapankamaaGreat
open Go.Eng
theorem save_bad (b : Nat) (a v : RVal) (off k : Int) (w : World) (ht : ¬ (0 < v.tag ∧ v.tag ≤ 5)) :
    Ret Tryz.prog 64 [.pointer (some ⟨b, 0, none⟩), a.val, .int .i64 off, .int .i64 k, v.val] w fun r w' => r = .int .i64 14 ∧ Kept none' w w' := by
  refine ret_of_W Tryz.func64 rfl ok_region_Memory_Save ?_
  simp only [c_region_Memory_Save]
  have h4 := hp_new (w.alloc (.cells a.arr 68)) (.cells v.arr 68)
  have hk0 : Kept none' w ((w.alloc (.cells a.arr 68)).alloc (.cells v.arr 68)) := ((Kept.refl _ _).alloc _).alloc _
  rw [alloc_size] at h4
  simp
  generalize (w.alloc (.cells a.arr 68)).alloc (.cells v.arr 68) = w2 at h4 hk0 ⊢
  refine W_call0 (by simp) (sized_ret k w2) ?_
  rintro r w3 ⟨rfl, rfl⟩
  simp
  refine W_yes (by simp [wcell_of h4]; omega) ?_
  simp
  exact hk0
def frozenX (ms : List XMap) (i : Nat) : Bool := (ms[i]?.map (·.frozen)).getD true
def gsaveOf (G : GSt) (a : RVal) (off n : Int) (v : RVal) : GSt × Int :=
  if a.tag = 5 then
    match a.cell with
    | none => (G, 14)
    | some p => match G.cs[p.block]? with
      | none => (G, 14)
      | some c => if v.tag = 1 ∧ frozenX G.ms c.slot = false then ({ G with cs := G.cs.set p.block { c with val := (saveV c.val (vsOf G.ms c.slot) (IntKind.i64.wrap a.n + off) n v.n).1 } }, (saveV c.val (vsOf G.ms c.slot) (IntKind.i64.wrap a.n + off) n v.n).2) else (G, 14)
  else ({ G with m := (saveOf G.m a off n v).1 }, (saveOf G.m a off n v).2)
theorem gsave_s (G : GSt) (a : RVal) (off n : Int) (v : RVal) : (gsaveOf G a off n v).1.s = G.s ∧ (gsaveOf G a off n v).1.ms = G.ms ∧ (gsaveOf G a off n v).1.cs.length = G.cs.length := by
  unfold gsaveOf
  repeat' split
  all_goals first | exact ⟨rfl, rfl, rfl⟩ | exact ⟨rfl, rfl, by simp⟩
theorem gsave_err {G : GSt} {a : RVal} {off n : Int} {v : RVal} (h : (gsaveOf G a off n v).2 ≠ 0) : (gsaveOf G a off n v).1 = G := by
  unfold gsaveOf at h ⊢
  split
  · rename_i h5
    rw [if_pos h5] at h
    split
    · rfl
    · rename_i p hp
      rw [hp] at h
      simp only at h
      split
      · rfl
      · rename_i c hc
        rw [hc] at h
        simp only at h
        split
        · rename_i hv
          rw [if_pos hv] at h
          have : (saveV c.val (vsOf G.ms c.slot) (IntKind.i64.wrap a.n + off) n v.n).1 = c.val := by
            unfold saveV at h ⊢
            split
            · rename_i hin; rw [if_pos hin] at h; exact absurd rfl h
            · rfl
          rw [this]
          show ({ G with cs := G.cs.set p.block c } : GSt) = G
          rw [set_self hc]
        · rfl
  · rename_i h5
    rw [if_neg h5] at h
    have : (saveOf G.m a off n v).1 = G.m := by
      unfold saveOf saveS at h ⊢
      split
      · rename_i h3
        rw [if_pos h3] at h
        split
        · rename_i h4
          rw [if_pos h4] at h
          split
          · rename_i h6; rw [if_pos h6] at h; exact absurd rfl h
          · rename_i h6
            rw [if_neg h6] at h
            split
            · rename_i h7; rw [if_pos h7] at h; exact absurd rfl h
            · rfl
        · rfl
      · rfl
    rw [this]
theorem saveV_byte {x : Nat → Int} (hx : ∀ j, 0 ≤ x j ∧ x j ≤ 255) (V : Nat) (s k n : Int) : ∀ j, 0 ≤ (saveV x V s k n).1 j ∧ (saveV x V s k n).1 j ≤ 255 := by
  unfold saveV
  split
  · exact fun j => putN_byte hx _ _ _ j
  · exact hx
section
variable {w : World} {b : Nat} {k : VK} {N : Names} {mv : Value} {G : GSt}
theorem map_at (h : Placed w N G.ms G.cs) {i : Nat} {q : Nat × BMap} (hq : N.mm[i]? = some q) : mapAt (N.mm.map (·.1)) ((i : Nat) : Int) = some q.1 := by
  unfold mapAt
  rw [if_neg (by omega), Int.toNat_natCast, List.getElem?_map, hq]
  rfl
def SavP (b : Nat) (k : VK) (N : Names) (mv : Value) (G : GSt) (w : World) (o : GSt × Int) (r : Value) (w' : World) : Prop :=
  r = .int .i64 o.2 ∧ ∃ N', GAt w' b k N' mv o.1 ∧ NExt w N N' G.cs.length o.1.cs.length ∧ Kept (fun j => j = k.bm ∨ N.own G.cs.length j) w w'
theorem sav_same (h : GAt w b k N mv G) {w' : World} (hk : Kept none' w w') (e : Int) : SavP b k N mv G w (G, e) (.int .i64 e) w' :=
  ⟨rfl, N, h.calm hk, NExt.refl _ _ _, hk.mono fun _ _ h => h.elim⟩
theorem GAt.outp (h : GAt w b k N mv G) {ms' : List XMap} {cs' : List XCell} {w' : World} (ho : OutP w N G.cs ms' cs' w') (hl : G.cs.length ≤ cs'.length) (hv : ∀ i, VOk G.cs (G.s.r i)) (hkv : ∀ i, VOk G.cs (G.m.kept i)) :
    ∃ N', GAt w' b k N' mv { G with ms := ms', cs := cs' } ∧ NExt w N N' G.cs.length cs'.length ∧ Kept (N.own G.cs.length) w w' := by
  obtain ⟨N', hp, hn, hk⟩ := ho
  have ren : ∀ v, VOk G.cs v → v.ren N'.cb = v.ren N.cb := fun v hv => ren_congr fun a ha => by
    by_cases h5 : v.tag = 5
    · obtain ⟨id, c, h1, h2, _⟩ := hv.five h5
      rw [h1] at ha
      cases ha
      exact hn.cb id (List.getElem?_eq_some_iff.1 h2).1
    · rw [hv.none h5] at ha; cases ha
  have e1 : G.s.ren N'.cb = G.s.ren N.cb := by
    unfold VSt.ren
    have : (fun i => (G.s.r i).ren N'.cb) = fun i => (G.s.r i).ren N.cb := funext fun i => ren _ (hv i)
    rw [this]
  have e2 : G.m.ren N'.cb mv = G.m.ren N.cb mv := by
    unfold RMem.ren
    have : (fun i => (G.m.kept i).ren N'.cb) = fun i => (G.m.kept i).ren N.cb := funext fun i => ren _ (hkv i)
    rw [this]
  refine ⟨N', ⟨?_, ?_, ?_, fun j hj => ?_, hp, h.low⟩, hn, hk⟩
  · show IsMach w' b k (G.s.ren N'.cb)
    rw [e1]; exact hk.has h.mach h.nb
  · show IsMem w' k.bm (G.m.ren N'.cb mv)
    rw [e2]; exact hk.has h.mem h.nm
  · rw [hn.mb]
    exact h.maps.keep hk fun j hj => (h.apart j hj).1
  · refine ⟨fun ho => ?_, (h.apart j hj).2⟩
    rcases hn.own j ho with h1 | h1
    · exact (h.apart j hj).1 h1
    · have := h.low j hj
      have := blk_lt h.mem
      omega
theorem gsave_ret (h : GAt w b k N mv G) (ok : GOk G) {a v : RVal} (ha : VOk G.cs a) (hv : VOk G.cs v) (off n : Int) (ho1 : -9223372036854775808 ≤ off) (ho2 : off ≤ 9223372036854775807) :
    Ret Tryz.prog 64 [.pointer (some ⟨k.bm, 0, none⟩), (a.ren N.cb).val, .int .i64 off, .int .i64 n, (v.ren N.cb).val] w (SavP b k N mv G w (gsaveOf G a off n v)) := by
  by_cases h5 : a.tag = 5
  · obtain ⟨id, c, h1, h2, h3⟩ := ha.five h5
    obtain ⟨hs, hcell⟩ := h.placed.cell id c h2
    obtain ⟨q, hbox⟩ := hcell.box
    have hc : (a.ren N.cb).cell = some ⟨N.cb id, 0, none⟩ := by unfold RVal.ren; rw [h1]; rfl
    have hA : G.ms[c.slot]? = some G.ms[c.slot] := List.getElem?_eq_getElem hs
    generalize G.ms[c.slot] = A at hA
    obtain ⟨mb, M, hq, hM, hl⟩ := h.placed.get hA
    have hmap : mapAt (N.mm.map (·.1)) (a.ren N.cb).slot = some mb := by rw [ren_slot, h3]; exact map_at h.placed hq
    have hfz : frozenX G.ms c.slot = M.frozen := by unfold frozenX; rw [hA, hl.frozen]; rfl
    have hVs := vs_small ok.maps c.slot
    unfold gsaveOf
    rw [if_pos h5, h1]
    simp only [h2]
    by_cases hgo : v.tag = 1 ∧ frozenX G.ms c.slot = false
    · rw [if_pos hgo]
      have hvv : v.ren N.cb = RVal.mk 1 v.n 0 none := by
        have e1 := hv.none (by omega)
        have e2 := hv.num hgo.1
        obtain ⟨t, n, s, c⟩ := v
        simp at hgo e1 e2
        simp [RVal.ren, hgo.1, e1, e2]
      rw [hvv]
      refine (save_cell k.bm (N.cb id) (N.vb id) (vsOf G.ms c.slot) q mb (G.m.ren N.cb mv) M _ c.val (a.ren N.cb) v.n off n w h.mem h.maps h5 hc hmap hM (by rw [← hfz]; exact hgo.2) hbox hcell.val (by omega) hv.n ho1 ho2).mono fun r w' hr => ?_
      obtain ⟨hk, rfl, hvb⟩ := hr
      simp only [ren_n] at hvb ⊢
      have hout := h.placed.write h2 hk hvb (saveV_byte hcell.byte _ _ _ _)
      obtain ⟨N', g1, g2, g3⟩ := h.outp hout (by rw [List.length_set]; exact Nat.le_refl _) ok.reg ok.kept
      exact ⟨rfl, N', g1, g2, g3.mono fun j _ hj => .inr hj⟩
    · rw [if_neg hgo]
      by_cases ht : 0 < v.tag ∧ v.tag ≤ 5
      · refine (save_cell_no k.bm (N.cb id) (N.vb id) (vsOf G.ms c.slot) q mb (G.m.ren N.cb mv) M _ (a.ren N.cb) (v.ren N.cb) off n w h.mem h.maps h5 hc hmap hM hbox (by omega) ht.1 ht.2 (by
          rw [← hfz]
          by_cases h1 : v.tag = 1
          · left
            cases hq : frozenX G.ms c.slot with
            | true => rfl
            | false => exact absurd ⟨h1, hq⟩ hgo
          · exact .inr h1) ho1 ho2).mono fun r w' hr => ?_
        obtain ⟨rfl, hk⟩ := hr
        exact sav_same h hk 14
      · refine (save_bad k.bm (a.ren N.cb) (v.ren N.cb) off n w ht).mono fun r w' hr => ?_
        obtain ⟨rfl, hk⟩ := hr
        exact sav_same h hk 14
  · unfold gsaveOf
    rw [if_neg h5]
    refine (save_any k.bm _ (a.ren N.cb) (v.ren N.cb) off n w h.mem (by simpa using h5) ho1 ho2 (fun _ => hv.n)).mono fun r w' hr => ?_
    obtain ⟨hk, rfl, hmm⟩ := hr
    rw [saveOf_ren] at hmm ⊢
    refine ⟨rfl, N, ⟨hk.has h.mach (fun e => h.ne e.symm), hmm, h.maps.keep hk fun j hj => (h.apart j hj).2.2, h.apart, h.placed.keep hk fun i hi e => h.nm (e ▸ hi), h.low⟩, NExt.refl _ _ _, hk.mono fun j _ hj => .inl hj⟩
def gsaveStep (G : GSt) (x : Ins) (size : Int) (v : RVal) : Option GSt :=
  if (gsaveOf G (G.s.r x.dst) (IntKind.i64.wrap x.off) size v).2 = 0 then some { (gsaveOf G (G.s.r x.dst) (IntKind.i64.wrap x.off) size v).1 with s := { G.s with pos := IntKind.i64.wrap (G.s.pos + 1) } } else none
theorem GAt.mach' (h : GAt w b k N mv G) {w' : World} {s' : VSt} (hk : Kept (· = b) w w') (hm : IsMach w' b k (s'.ren N.cb)) : GAt w' b k N mv { G with s := s' } :=
  ⟨hm, hk.has h.mem h.ne, h.maps.keep hk fun j hj => (h.apart j hj).2.1, h.apart, h.placed.keep hk fun i hi e => h.nb (e ▸ hi), h.low⟩
theorem OutG.before {w1 : World} {o : Option GSt} {r : Value} {w' : World} (h : OutG b k N mv G w1 o r w') (hk : Kept none' w w1) : OutG b k N mv G w o r w' := by
  obtain ⟨h1, N', h2, h3, h4⟩ := h
  exact ⟨h1, N', h2, ⟨h3.cb, h3.vb, h3.mb, fun j hj => by
    rcases h3.own j hj with h | h
    · exact .inl h
    · exact .inr (Nat.le_trans hk.size h), h3.le⟩, (hk.mono fun _ _ h => h.elim).trans h4⟩
set_option maxHeartbeats 4000000 in
theorem gvsave_ret (h : GAt w b k N mv G) (ok : GOk G) (x : Ins) (size : Int) {v : RVal} (hv : VOk G.cs v) (hd : x.dst < 11) :
    Ret Tryz.prog 39 [.pointer (some ⟨b, 0, none⟩), .agg x.arr, .int .i64 size, .agg (v.ren N.cb).arr] w (OutG b k N mv G w (gsaveStep G x size v)) := by
  refine ret_of_W Tryz.func39 rfl ok_vm_machine_save ?_
  have hd' : (x.dst : Int) < 11 := by omega
  simp only [c_vm_machine_save]
  have h5 := hp_old (hp_new w (.cells x.arr 74)) (.cells (v.ren N.cb).arr 68)
  have h6 := hp_new (w.alloc (.cells x.arr 74)) (.cells (v.ren N.cb).arr 68)
  have hk0 : Kept none' w ((w.alloc (.cells x.arr 74)).alloc (.cells (v.ren N.cb).arr 68)).drew := (((Kept.refl _ _).alloc _).alloc _).drew
  rw [alloc_size] at h6
  have h5' : ((w.alloc (.cells x.arr 74)).alloc (.cells (v.ren N.cb).arr 68)).drew.heap[w.heap.size]? = _ := h5
  have h6' : ((w.alloc (.cells x.arr 74)).alloc (.cells (v.ren N.cb).arr 68)).drew.heap[w.heap.size + 1]? = _ := h6
  simp
  generalize ((w.alloc (.cells x.arr 74)).alloc (.cells (v.ren N.cb).arr 68)).drew = w1 at h5' h6' hk0 ⊢
  have hG1 := h.calm hk0
  have hm0 := hG1.mach
  refine W_call0 (by simp [mach_bm hm0, wcell_of h5', hd', mach_rrow hm0 x.dst hd, rval_row h6']) (gsave_ret hG1 ok (ok.reg x.dst) hv (IntKind.i64.wrap x.off) size (i64_lo _) (i64_hi _)) ?_
  rintro r w2 ⟨rfl, N', hG2, hn, hk2⟩
  have hn' : NExt w N N' G.cs.length _ := ⟨hn.cb, hn.vb, hn.mb, fun j hj => by
    rcases hn.own j hj with h | h
    · exact .inl h
    · exact .inr (Nat.le_trans hk0.size h), hn.le⟩
  have hk02 : Kept (fun j => j = b ∨ j = k.bm ∨ N.own G.cs.length j) w w2 := (hk0.mono fun _ _ h => h.elim).trans (hk2.mono fun j _ hj => .inr hj)
  have hs := gsave_s G (G.s.r x.dst) (IntKind.i64.wrap x.off) size v
  have herr := gsave_err (G := G) (a := G.s.r x.dst) (off := IntKind.i64.wrap x.off) (n := size) (v := v)
  unfold gsaveStep
  generalize gsaveOf G (G.s.r x.dst) (IntKind.i64.wrap x.off) size v = o at *
  obtain ⟨G2, e⟩ := o
  simp only at hG2 hs herr hn' ⊢
  have hm2 := hG2.mach
  by_cases he : e = 0
  · subst he
    rw [if_pos rfl]
    refine W_no (by simp) ?_
    simp
    refine W_store (by simp) (by simp [mach_pos hm2]; rfl) (mach_stpos hm2 _) (stab_nil _ _ _) ?_
    simp
    have hmp := mach_put hm2 { G2.s.ren N'.cb with pos := IntKind.i64.wrap (G2.s.pos + 1) }
    have hkp : Kept (· = b) w2 _ := (Kept.refl (· = b) w2).put (b := b) (fun _ => rfl) (.cells (({ G2.s.ren N'.cb with pos := IntKind.i64.wrap (G2.s.pos + 1) } : VSt).cells k) 71 (0, 0))
    have hG3 := hG2.mach' (s' := { G2.s with pos := IntKind.i64.wrap (G2.s.pos + 1) }) hkp hmp
    rw [hs.1] at hG3 hkp
    rw [hs.1]
    exact ⟨rfl, N', hG3, hn', hk02.trans (hkp.mono fun j _ hj => .inl hj)⟩
  · rw [if_neg he]
    refine W_yes (by simp [he]) ?_
    simp
    have hGG := herr he
    subst hGG
    exact ⟨rfl, N', hG2, hn', hk02⟩
end
set_option maxHeartbeats 8000000 in
theorem xatomic_ret (b : Nat) (k : VK) (s : VSt) (x : Ins) (p : Parts) (w : World) (hm : IsMach w b k s) (hd : x.dst < 11) (hx : x.src < 11) (v : RVal) (e : Int) (hv : Ext w.heap.size (.pointer v.cell)) (hsx : Ext w.heap.size (.pointer (s.r x.src).cell))
    (t1 : T Tryz.prog w 63 [.pointer (some ⟨k.bm, 0, none⟩), .agg (s.r x.dst).arr, .int .i64 (IntKind.i64.wrap x.off), .int .i64 p.size] = some (.tuple #[.agg v.arr, .int .i64 e])) (F : Value → World → Prop)
    (hfin : ¬ (e = 0 ∧ v.tag = 1 ∧ (s.r x.src).tag = 1) ∨ atomN x.imm v.n (s.r x.src).n = none → ∀ w', Kept none' w w' → F (.bool false) w')
    (hsave : ∀ n, e = 0 ∧ v.tag = 1 ∧ (s.r x.src).tag = 1 → atomN x.imm v.n (s.r x.src).n = some n → ∀ w', Kept none' w w' → Ret Tryz.prog 39 [.pointer (some ⟨b, 0, none⟩), .agg x.arr, .int .i64 p.size, .agg (num n).arr] w' fun r w2 => (∃ t, r = .bool t) ∧ F r w2) :
    Ret Tryz.prog 41 [.pointer (some ⟨b, 0, none⟩), .agg x.arr, .agg p.arr] w F := by
  refine ret_of_W Tryz.func41 rfl ok_vm_machine_atomic ?_
  have hb := blk_lt hm
  have hx' : (x.src : Int) < 11 := by omega
  have hd' : (x.dst : Int) < 11 := by omega
  have e0 := mach_rrow hm x.src hx
  have e3 := mach_rrow hm x.dst hd
  have e37 := mach_bm hm
  have xv := rval_ext w.heap.size _ hv
  have xs := rval_ext w.heap.size _ hsx
  simp only [c_vm_machine_atomic, zero_val]
  rw [W_assoc, W_assoc, W_assoc, W_assoc, W_assoc, W_seq]
  by_cases hc : e = 0 ∧ v.tag = 1 ∧ (s.r x.src).tag = 1
  · have hc0 := hc
    obtain ⟨rfl, hc1, hc2⟩ := hc
    cases hn : atomN x.imm v.n (s.r x.src).n with
    | none =>
      refine W_segX [.any, .any, .any, .v (.bool false), .any, .any, .any, .any, .any, .any, .any, .any, .any, .any, .any, .any, .any, .any, .any, .any, .any, .any, .any, .any, .any, .any, .any] (by simp [hb]) (by simp [slsOk, Sl.ok]) (fun B hB => ?_) ?_
      · have e1 : ∀ l, wrow (ownW B l) b (38 + x.src * 4) 4 = some (s.r x.src).arr := fun l => own_extR hB e0
        have e4 : ∀ l, wrow (ownW B l) b (38 + x.dst * 4) 4 = some (s.r x.dst).arr := fun l => own_extR hB e3
        have e2 : ∀ l, wcell (ownW B l) b 37 = some (.pointer (some ⟨k.bm, 0, none⟩)) := fun l => own_ext hB e37
        have i1 : ¬ x.imm = 0 := fun h => by simp [atomN, h] at hn
        have i2 : ¬ x.imm = 64 := fun h => by simp [atomN, h] at hn
        have i3 : ¬ x.imm = 80 := fun h => by simp [atomN, h] at hn
        have i4 : ¬ x.imm = 160 := fun h => by simp [atomN, h] at hn
        simp [C_cond_eq, C_alt, e1, e2, e4, hx', hd', t1, hc1, hc2, i1, i2, i3, i4, slsIs, Sl.is]
      · intro w1 hk
        refine open_any fun _ => open_any fun _ => open_any fun _ => open_v ?_
        repeat' refine open_any fun _ => ?_
        refine open_nil ?_
        simp
        exact hfin (.inr hn) _ hk
    | some n =>
      have hn0 := atomN_ok hn
      refine W_seg [.v (.pointer (some ⟨b, 0, none⟩)), .any, .any, .any, .p 74 x.arr, .p 103 p.arr, .any, .any, .any, .any, .any, .any, .any, .any, .any, .v (.int .u64 n), .any, .any, .any, .any, .any, .any, .any, .any, .any, .any, .any] (by simp [hb]) (by simp_all [slsOk, Sl.ok]) (fun B hB => ?_) fun w1 hk =>
        open_v (open_any fun _ => open_any fun _ => open_any fun _ => open_p fun p4 _ h4 => open_p fun p5 _ h5 => open_any fun _ => open_any fun _ => open_any fun _ => open_any fun _ => open_any fun _ => open_any fun _ => open_any fun _ => open_any fun _ => open_any fun _ => open_v ?_)
      · have e1 : ∀ l, wrow (ownW B l) b (38 + x.src * 4) 4 = some (s.r x.src).arr := fun l => own_extR hB e0
        have e4 : ∀ l, wrow (ownW B l) b (38 + x.dst * 4) 4 = some (s.r x.dst).arr := fun l => own_extR hB e3
        have e2 : ∀ l, wcell (ownW B l) b 37 = some (.pointer (some ⟨k.bm, 0, none⟩)) := fun l => own_ext hB e37
        by_cases i1 : x.imm = 0
        · simp [atomN, i1] at hn
          simp [C_cond_eq, C_alt, e1, e2, e4, hx', hd', t1, hc1, hc2, i1, hn, slsIs, Sl.is]
        by_cases i2 : x.imm = 64
        · simp [atomN, i2] at hn
          simp [C_cond_eq, C_alt, e1, e2, e4, hx', hd', t1, hc1, hc2, i2, hn, slsIs, Sl.is]
        by_cases i3 : x.imm = 80
        · simp [atomN, i3] at hn
          simp [C_cond_eq, C_alt, e1, e2, e4, hx', hd', t1, hc1, hc2, i3, hn, slsIs, Sl.is]
        by_cases i4 : x.imm = 160
        · simp [atomN, i4] at hn
          simp [C_cond_eq, C_alt, e1, e2, e4, hx', hd', t1, hc1, hc2, i4, hn, slsIs, Sl.is]
        simp [atomN, i1, i2, i3, i4] at hn
      · repeat' refine open_any fun _ => ?_
        refine open_nil ?_
        have r4 : ∀ {w' : World}, w'.heap[p4]? = some (.cells x.arr 74 (0, 0)) → wrow w' p4 0 5 = some x.arr := fun h => by rw [wrow_of h (by simp)]; simp
        have hk1 : Kept none' w w1.drew := hk.drew
        have hm1 : IsMach w1.drew b k s := mach_keep hm hk1 (fun h => h)
        have h41 : w1.drew.heap[p4]? = _ := h4
        have h51 : w1.drew.heap[p5]? = _ := h5
        simp [r4 h4, wcell_of h5]
        generalize w1.drew = w2 at hm1 hk1 h41 h51 ⊢
        refine W_calm (by simp) (ret_of_T (number_T w2 n)) fun w3 hk3 => ?_
        simp
        refine W_call0 (by simp) (hsave n hc0 hn w3 (hk1.trans hk3)) ?_
        rintro r w4 ⟨⟨t, rfl⟩, hF⟩
        simp
        exact hF
  · refine W_segX [.any, .any, .any, .v (.bool false), .any, .any, .any, .any, .any, .any, .any, .any, .any, .any, .any, .any, .any, .any, .any, .any, .any, .any, .any, .any, .any, .any, .any] (by simp [hb]) (by simp [slsOk, Sl.ok]) (fun B hB => ?_) ?_
    · have e1 : ∀ l, wrow (ownW B l) b (38 + x.src * 4) 4 = some (s.r x.src).arr := fun l => own_extR hB e0
      have e4 : ∀ l, wrow (ownW B l) b (38 + x.dst * 4) 4 = some (s.r x.dst).arr := fun l => own_extR hB e3
      have e2 : ∀ l, wcell (ownW B l) b 37 = some (.pointer (some ⟨k.bm, 0, none⟩)) := fun l => own_ext hB e37
      have hf : (!decide (e = 0) || !decide (v.tag = 1) || !decide ((s.r x.src).tag = 1)) = true := by
        by_cases c1 : e = 0 <;> by_cases c2 : v.tag = 1 <;> by_cases c3 : (s.r x.src).tag = 1 <;> simp [c1, c2, c3]
        exact hc ⟨c1, c2, c3⟩
      simp [C_cond_eq, C_alt, e1, e2, e4, hx', hd', t1, hf, slsIs, Sl.is]
    · intro w1 hk
      refine open_any fun _ => open_any fun _ => open_any fun _ => open_v ?_
      repeat' refine open_any fun _ => ?_
      refine open_nil ?_
      simp
      exact hfin (.inl hc) _ hk
section
variable {w : World} {b : Nat} {k : VK} {N : Names} {mv : Value} {G : GSt}
def gatomicStep (G : GSt) (x : Ins) (p : Parts) : Option GSt :=
  if (gloadOf G (G.s.r x.dst) (IntKind.i64.wrap x.off) p.size).2 = 0 ∧ (gloadOf G (G.s.r x.dst) (IntKind.i64.wrap x.off) p.size).1.tag = 1 ∧ (G.s.r x.src).tag = 1 then
    (atomN x.imm (gloadOf G (G.s.r x.dst) (IntKind.i64.wrap x.off) p.size).1.n (G.s.r x.src).n).bind fun n => gsaveStep G x p.size (num n)
  else none
theorem OutG.bool {o : Option GSt} {r : Value} {w' : World} (h : OutG b k N mv G w o r w') : ∃ t, r = .bool t := ⟨_, h.1⟩
theorem gatomic_ret (h : GAt w b k N mv G) (ok : GOk G) (x : Ins) (p : Parts) (hd : x.dst < 11) (hx : x.src < 11) :
    Ret Tryz.prog 41 [.pointer (some ⟨b, 0, none⟩), .agg x.arr, .agg p.arr] w (OutG b k N mv G w (gatomicStep G x p)) := by
  have t1 := gload_T h ok (ok.reg x.dst) (IntKind.i64.wrap x.off) p.size (i64_lo _) (i64_hi _)
  have hv := h.ext (vok_load h.placed ok (G.s.r x.dst) (IntKind.i64.wrap x.off) p.size)
  refine xatomic_ret b k (G.s.ren N.cb) x p w h.mach hd hx _ _ hv (h.ext (ok.reg x.src)) t1 _ (fun hno w' hk => ?_) fun n hc hn w' hk => ?_
  · unfold gatomicStep
    simp only [vren_r, ren_tag, ren_n] at hno
    rcases hno with hno | hno
    · rw [if_neg hno]; exact out_keep h hk
    · split
      · rw [hno]; exact out_keep h hk
      · exact out_keep h hk
  · simp only [vren_r, ren_tag, ren_n] at hc hn
    unfold gatomicStep
    rw [if_pos hc, hn]
    refine (gvsave_ret (h.calm hk) ok x p.size (v := num n) (vok_num _ (atomN_ok hn)) hd).mono fun r w2 hr => ?_
    exact ⟨hr.bool, hr.before hk⟩
end
end Go.Proofs.YtmfgdbapankamaaGreat
namespace Go.Proofs.YtmfgdbapankamaaGreat
open Go.Eng
def withRow (m : RMem) (f e : Nat) (x : Nat → Int) : RMem := { m with stack := fun q => if f ≤ q ∧ q < e then x (q - f) else m.stack q }
def fillS (m : RMem) (f k : Nat) (x : Nat → Int) : RMem := mark (withRow m f (f + k) x) f k
theorem run_copy {P : Program} {dT sT ty elem : TypeId} {w : World} {b o n dCap sb so sCap : Nat} {c : Array Value} {T : TypeId} {x : Nat → Value} (hu : P.underlying dT = some (.slice elem)) (hs : (P.info? elem).map (·.size) = some 1)
    (hb : w.heap[b]? = some (.cells c T (0, 0))) (ho : o + n ≤ c.size) (hx : ∀ j, j < n → wcell w sb (so + j) = some (x j)) (h1 : ∀ j, j < n → (x j).oneCell' = true) :
    (builtin .copy #[dT, sT] ty #[] #[.slice (some ⟨b, o, none⟩) n dCap, .slice (some ⟨sb, so, none⟩) n sCap]).run P w =
      .ok (.value (.int .i64 n)) (put w b (.cells (setRow c o (List.ofFn (n := n) fun j => x j.val)) T (0, 0))) := by
  have hl := run_loadCells_list (P := P) w ⟨sb, so, none⟩ (List.ofFn (n := n) fun j => x j.val) (by
    intro j v hv
    have hj : j < n := by have := (List.getElem?_eq_some_iff.1 hv).1; simpa using this
    rw [List.getElem?_ofFn] at hv
    simp [hj] at hv
    subst hv
    rw [Addr.add_lit]
    exact wcell_cell (hx j hj))
  have hst := run_storeCells (P := P) (T := T) (fz := (0, 0)) (b := b) o (List.ofFn (n := n) fun j => x j.val) 0 c w hb (by simp; omega) (.inl (by simp)) (by
    intro v hv
    obtain ⟨j, rfl⟩ := List.mem_ofFn.1 hv
    exact h1 j j.2)
  cases hq : P.info? elem with
  | none => simp [hq] at hs
  | some i =>
    have hi : i.size = 1 := by simpa [hq] using hs
    simp at hl hst
    simp [builtin, Builtin.copy_, run_underlying hu, Builtin.lenOf, Builtin.firstCells, sizeOf, typeInfo, hq, hi, hl, hst]
    exact ⟨rfl, rfl⟩
theorem set_row (m : RMem) (f k : Nat) (x : Nat → Int) (h : f + k ≤ 64) : setRow m.cells (32 + f) (List.ofFn (n := k) fun j => Value.int .u8 (x j.val)) = (withRow m f (f + k) x).cells := by
  apply Array.ext_getElem?
  intro j
  have hs := mem_size m
  rw [setRow_get _ _ _ _ (by simp; omega)]
  simp only [List.length_ofFn]
  by_cases hj : j < 193
  · rw [mem_at (withRow m f (f + k) x) j hj, mem_at m j hj]
    by_cases h1 : 32 + f ≤ j ∧ j < 32 + f + k
    · rw [if_pos h1, List.getElem?_ofFn]
      rw [dif_pos (show j - (32 + f) < k by omega)]
      unfold RMem.at
      rw [if_neg (by omega), if_pos (by omega)]
      simp only [withRow]
      rw [if_pos (by omega), show j - 32 - f = j - (32 + f) from by omega]
    · rw [if_neg h1]
      unfold RMem.at
      split
      · rfl
      · split
        · simp only [withRow]; rw [if_neg (by omega)]
        · rfl
  · have e2 : (withRow m f (f + k) x).cells[j]? = none := by simp [mem_size]; omega
    have e1 : m.cells[j]? = none := by simp [hs]; omega
    rw [e1, e2, if_neg (by omega)]
theorem fill_stack (b : Nat) (m : RMem) (a : RVal) (sa : Option Addr) (k c : Nat) (x : Nat → Int) (w : World) (hm : IsMem w b m) (ha : a.tag = 3) (hk : k ≤ 1000)
    (hx : k = 0 ∨ ∃ sb so, sa = some ⟨sb, so, none⟩ ∧ ∀ j, j < k → wcell w sb (so + j) = some (.int .u8 (x j))) :
    Ret Tryz.prog 94 [.pointer (some ⟨b, 0, none⟩), a.val, .slice sa k c] w fun v w' => Kept (· = b) w w' ∧
      (if -64 ≤ IntKind.i64.wrap a.n ∧ IntKind.i64.wrap a.n + k ≤ 0 then v = .int .i64 0 ∧ IsMem w' b (fillS m (IntKind.i64.wrap a.n + 64).toNat k x) else v = .int .i64 14 ∧ IsMem w' b m) := by
  refine ret_of_W Tryz.func94 rfl ok_region_Memory_Fill ?_
  have hb' := blk_lt hm
  simp only [c_region_Memory_Fill]
  have h5 := hp_new w (.cells a.arr 68)
  have hm0 : IsMem (w.alloc (.cells a.arr 68)) b m := hp_old hm _
  have hk0 : Kept none' w (w.alloc (.cells a.arr 68)) := (Kept.refl _ _).alloc _
  simp
  generalize w.alloc (.cells a.arr 68) = w2 at h5 hm0 hk0 ⊢
  refine W_call0 (by simp [rval_row h5]) (view_stack b a 0 k w2 ha (by omega) (by omega) (by omega) (by omega)) ?_
  rintro v w3 ⟨hk1, hv⟩
  have hk2 := hk0.trans hk1
  have h5' := hk1.has h5 (fun h => h)
  have hm1 : IsMem w3 b m := hk1.has hm0 (fun h => h)
  have fail : ∀ w', Kept none' w w' → Kept (· = b) w w' := fun w' h => h.mono (fun _ _ h => h.elim)
  generalize hN : IntKind.i64.wrap a.n = N at *
  simp only [Int.add_zero] at hv
  by_cases hin : -64 ≤ N ∧ N + k ≤ 0
  · rw [if_pos hin] at hv
    obtain ⟨f, hf, rfl⟩ := hv
    have hsl : ∃ o, (if 64 = f then (⟨b, 32, none⟩ : Addr) else ⟨b, 32 + f, none⟩) = ⟨b, o, none⟩ ∧ (0 < k → o = 32 + f) := by
      by_cases h64 : 64 = f
      · rw [if_pos h64]; exact ⟨32, rfl, fun h => by omega⟩
      · rw [if_neg h64]; exact ⟨32 + f, rfl, fun _ => rfl⟩
    obtain ⟨o, ho, ho2⟩ := hsl
    rw [ho]
    have hff : (N + 64).toNat = f := by omega
    have hn64 : ¬ (64 < (k : Int)) := by omega
    simp [hn64, rval_row h5']
    refine W_yes (by simp [hn64]) ?_
    refine W_call0 (by simp [rval_row h5']) (writes_stack b a w3 ha) ?_
    rintro v w4 ⟨rfl, hk3⟩
    have hk4 := hk2.trans hk3
    have h5'' := hk3.has h5' (fun h => h)
    have hm2 : IsMem w4 b m := hk3.has hm1 (fun h => h)
    simp
    refine W_no (by simp [hn64]) ?_
    simp
    by_cases hk0' : k = 0
    · subst hk0'
      have hrun : (builtin .copy #[51, 51] 3 #[] #[.slice (some ⟨b, o, none⟩) 0 (64 - f), .slice sa 0 c]).run Tryz.prog w4 = .ok (.value (.int .i64 0)) w4 := by
        have h := run_copy_none (P := Tryz.prog) w4 51 51 3 5 (some ⟨b, o, none⟩) sa 0 (64 - f) 0 c Tryz.underlying51 (by kernel_rfl) (by simp)
        simp only [builtin, map_eq_pure_bind, Sem.run_bind, h]
        rfl
      refine W_bi (by simp) hrun (stab_nil _ _ _) ?_
      have hm3 : IsMem w4 b (withRow m f (f + 0) x) := by
        have : withRow m f (f + 0) x = m := by
          refine rmem_ext rfl ?_ rfl rfl rfl
          funext q
          simp only [withRow]
          rw [if_neg (by omega)]
        rw [this]; exact hm2
      simp
      refine W_yes (by simp [wcell_of h5'', ha]) ?_
      refine W_call0 (by simp) (mark_ret b _ f 0 w4 hm3 (by omega)) ?_
      rintro v w5 ⟨rfl, hk5, hm5⟩
      simp
      refine ⟨(fail _ hk4).trans (hk5.mono fun _ _ h => h), ⟨by omega, by omega⟩, ?_⟩
      rw [hff]
      exact hm5
    · obtain ⟨sb, so, rfl, hcells⟩ := hx.resolve_left hk0'
      have hcells' : ∀ j, j < k → wcell w4 sb (so + j) = some (.int .u8 (x j)) := fun j hj => wcell_kept hk4 (fun h => h) (hcells j hj)
      rw [ho2 (by omega)]
      refine W_bi (by simp) (run_copy (o := 32 + f) (dCap := 64 - f) (sCap := c) (elem := 5) Tryz.underlying51 (by kernel_rfl) hm2 (by rw [mem_size]; omega) hcells' (fun j _ => rfl)) (stab_nil _ _ _) ?_
      rw [set_row m f k x (by omega)]
      have hm3 : IsMem (put w4 b (.cells (withRow m f (f + k) x).cells 101 (0, 0))) b (withRow m f (f + k) x) := put_same (blk_lt hm2)
      have h53 : (put w4 b (.cells (withRow m f (f + k) x).cells 101 (0, 0))).heap[w.heap.size]? = some (.cells a.arr 68 (0, 0)) := by
        rw [put_other (by omega)]; exact h5''
      have hk6 := (fail _ hk4).put (b := b) (fun _ => rfl) (.cells (withRow m f (f + k) x).cells 101 (0, 0))
      generalize put w4 b (.cells (withRow m f (f + k) x).cells 101 (0, 0)) = w6 at hm3 h53 hk6 ⊢
      simp
      refine W_yes (by simp [wcell_of h53, ha]) ?_
      refine W_call0 (by simp) (mark_ret b _ f k w6 hm3 (by omega)) ?_
      rintro v w5 ⟨rfl, hk5, hm5⟩
      simp
      refine ⟨hk6.trans (hk5.mono fun _ _ h => h), ⟨by omega, by omega⟩, ?_⟩
      rw [hff]
      exact hm5
  · rw [if_neg hin] at hv
    subst hv
    simp
    refine W_no (by simp) ?_
    simp
    refine W_yes (by simp) ?_
    simp
    exact ⟨fail _ hk2, fun h => by omega, hm1⟩
end Go.Proofs.YtmfgdbapankamaaGreat
namespace Go.Proofs.YtmfgdbapankamaaGreat
open Go.Eng
theorem bytes_other (b : Nat) (a : RVal) (n : Nat) (x : Nat → Int) (ins : Bool) (w : World) (ha : a.tag ≠ 3) (hn : n ≤ 64)
    (hview : ∀ w', Kept none' w w' → Ret Tryz.prog 80 [.pointer (some ⟨b, 0, none⟩), a.val, .int .i64 0, .int .i64 n] w'
      fun r w2 => Kept none' w' w2 ∧ if ins = true then ∃ q o c f : Nat, r = .tuple #[.slice (some ⟨q, o, none⟩) n c, .int .i64 f, .bool true] ∧ n ≤ c ∧ ∀ j, j < n → wcell w2 q (o + j) = some (.int .u8 (x j)) else r = .tuple #[.slice none 0 0, .int .i64 0, .bool false]) :
    Ret Tryz.prog 99 [.pointer (some ⟨b, 0, none⟩), a.val, .int .i64 n] w fun v w' => Kept none' w w' ∧
      (if ins = true then ∃ nb c, v = .tuple #[.slice (some ⟨nb, 0, none⟩) n c, .int .i64 0] ∧ n ≤ c ∧ w.heap.size ≤ nb ∧ ∀ j, j < n → wcell w' nb j = some (.int .u8 (x j))
       else v = .tuple #[.slice none 0 0, .int .i64 14]) := by
  refine ret_of_W Tryz.func99 rfl ok_region_Memory_Bytes ?_
  simp only [c_region_Memory_Bytes]
  have h5 := hp_new w (.cells a.arr 68)
  have hk0 : Kept none' w (w.alloc (.cells a.arr 68)) := (Kept.refl _ _).alloc _
  simp
  generalize w.alloc (.cells a.arr 68) = w2 at h5 hk0 ⊢
  have hq : (if (n : Int) < 0 then (0 : Int) else n) = n := if_neg (by omega)
  refine W_call0 (by simp [rval_row h5, hq]) (hview w2 hk0) ?_
  rintro v w3 ⟨hk1, hv⟩
  have hk2 := hk0.trans hk1
  have h5' := hk1.has h5 (fun h => h)
  have hn0 : ¬ ((n : Int) < 0) := by omega
  have hn64 : ¬ (64 < (n : Int)) := by omega
  cases ins with
  | true =>
    rw [if_pos rfl] at hv
    obtain ⟨q, o, c, f, rfl, hnc, hx⟩ := hv
    simp [hn0, hn64, wcell_of h5', ha]
    refine W_yes (by simp [hn0, hn64]) ?_
    simp [wcell_of h5', ha, hn0, hn64]
    refine W_no (by simp [hn0, hn64]) ?_
    simp
    refine W_no (by simp [hn0, hn64]) ?_
    simp
    have hx4 : ∀ j, j < n → wcell (w3.alloc (.cells #[] 5)) q (o + j) = some (.int .u8 (x j)) := fun j hj => wcell_kept ((Kept.refl none' w3).alloc (.cells #[] 5)) (fun h => h) (hx j hj)
    obtain ⟨nb, c', w5, hrun, hk5, hc', hnb, hcells⟩ := append_copy (P := Tryz.prog) (t := 51) (ty := 51) (e := 5) (nb := w3.heap.size) (c := c) Tryz.underlying51 (by kernel_rfl) hx4 (by omega)
    refine W_bi (by simp) hrun (stab_nil _ _ _) ?_
    simp
    have hsz := hk2.size
    simp at hnb
    exact ⟨(hk2.alloc _).trans hk5, nb, c', ⟨rfl, rfl⟩, hc', by omega, hcells⟩
  | false =>
    rw [if_neg (by simp)] at hv
    subst hv
    simp
    refine W_no (by simp) ?_
    simp
    refine W_no (by simp) ?_
    simp
    refine W_yes (by simp) ?_
    simp
    exact hk2
def rowV (x : Nat → Int) (f n : Nat) (y : Nat → Int) : Nat → Int := fun q => if f ≤ q ∧ q < f + n then y (q - f) else x q
def FilC (w : World) (vb V n : Nat) (N : Int) (x y : Nat → Int) (r : Value) (w' : World) : Prop :=
  if 0 ≤ N ∧ N + n ≤ V then r = .int .i64 0 ∧ Kept (· = vb) w w' ∧ VBytes w' vb V (rowV x N.toNat n y) else r = .int .i64 14 ∧ Kept none' w w'
theorem fill_cell (b cb vb V c mb : Nat) (m : RMem) (M : BMap) (bs : List Nat) (x y : Nat → Int) (a : RVal) (sb so sc n : Nat) (w : World) (hm : IsMem w b m) (hmaps : MapsAt w m.maps bs) (h5 : a.tag = 5) (hc : a.cell = some ⟨cb, 0, none⟩) (hs : mapAt bs a.slot = some mb)
    (hM : MapAt w mb M) (hf : M.frozen = false) (hb : CellBox w cb vb V c) (hv : VBytes w vb V x) (hV : V ≤ 1000) (hn : n ≤ 64) (hy : ∀ j, j < n → wcell w sb (so + j) = some (.int .u8 (y j))) :
    Ret Tryz.prog 94 [.pointer (some ⟨b, 0, none⟩), a.val, .slice (some ⟨sb, so, none⟩) n sc] w
      fun r w' => FilC w vb V n (IntKind.i64.wrap a.n) x y r w' := by
  refine ret_of_W Tryz.func94 rfl ok_region_Memory_Fill ?_
  simp only [c_region_Memory_Fill]
  have h5' := hp_new w (.cells a.arr 68)
  have hk0 : Kept none' w (w.alloc (.cells a.arr 68)) := (Kept.refl _ _).alloc _
  simp
  generalize w.alloc (.cells a.arr 68) = w2 at h5' hk0 ⊢
  refine W_call0 (by simp [rval_row h5']) (view_cell b cb vb V c a 0 n w2 h5 hc ⟨hb.1, hk0.has hb.2 (fun h => h)⟩ hV (by omega) (by omega) (by omega) (by omega)) ?_
  rintro v w3 ⟨hk1, hvw⟩
  have hk2 := hk0.trans hk1
  have h53 := hk1.has h5' (fun h => h)
  generalize hN : IntKind.i64.wrap a.n = N at *
  simp only [Int.add_zero] at hvw
  have hn64 : ¬ (64 < (n : Int)) := by omega
  by_cases hin : 0 ≤ N ∧ N + n ≤ V
  · rw [if_pos hin] at hvw
    obtain ⟨f, hff, rfl⟩ := hvw
    have hfN : N.toNat = f := by omega
    have fin : ∀ w', Kept (· = vb) w w' → VBytes w' vb V (rowV x f n y) → FilC w vb V n N x y (.int .i64 0) w' := fun w' h1 h2 => by
      unfold FilC
      rw [if_pos hin, hfN]
      exact ⟨rfl, h1, h2⟩
    have hcV := hb.1
    have hsl : ∃ o, (if c = f then (⟨vb, 0, none⟩ : Addr) else ⟨vb, 0 + f, none⟩) = ⟨vb, o, none⟩ ∧ (0 < n → o = f) := by
      by_cases h64 : c = f
      · rw [if_pos h64]; exact ⟨0, rfl, fun h => by omega⟩
      · rw [if_neg h64]; exact ⟨0 + f, rfl, fun _ => by omega⟩
    obtain ⟨o, ho, ho2⟩ := hsl
    rw [ho]
    simp [hn64, rval_row h53]
    refine W_yes (by simp [hn64]) ?_
    refine W_call0 (by simp [rval_row h53]) (writes_cell b mb m bs M a w3 (hk2.has hm (fun h => h)) (hmaps.keep hk2 (fun _ _ h => h)) h5 hs (hM.calm hk2)) ?_
    rintro r w4 ⟨rfl, hk3⟩
    have hk4 := hk2.trans hk3
    have h54 := hk3.has h53 (fun h => h)
    simp [hf]
    refine W_no (by simp [hn64]) ?_
    simp
    obtain ⟨cs, hcs, hcV2, hcx⟩ := VBytes.keep hv hk4 (fun h => h)
    have hy4 : ∀ j, j < n → wcell w4 sb (so + j) = some (.int .u8 (y j)) := fun j hj => wcell_kept hk4 (fun h => h) (hy j hj)
    have hne : w.heap.size ≠ vb := by
      obtain ⟨us, hu, _⟩ := hv
      have := blk_lt hu
      omega
    by_cases hn0 : n = 0
    · subst hn0
      have hrun : (builtin .copy #[51, 51] 3 #[] #[.slice (some ⟨vb, o, none⟩) 0 (c - f), .slice (some ⟨sb, so, none⟩) 0 sc]).run Tryz.prog w4 = .ok (.value (.int .i64 0)) w4 := by
        have h := run_copy_none (P := Tryz.prog) w4 51 51 3 5 (some ⟨vb, o, none⟩) (some ⟨sb, so, none⟩) 0 (c - f) 0 sc Tryz.underlying51 (by kernel_rfl) (by simp)
        simp only [builtin, map_eq_pure_bind, Sem.run_bind, h]
        rfl
      refine W_bi (by simp) hrun (stab_nil _ _ _) ?_
      simp
      refine W_no (by simp [wcell_of h54, h5]) ?_
      simp
      refine fin _ (hk4.mono fun _ _ h => h.elim) ⟨cs, hcs, hcV2, fun j hj => ?_⟩
      rw [hcx j hj]
      unfold rowV
      rw [if_neg (by omega)]
    · rw [ho2 (by omega)]
      refine W_bi (by simp) (run_copy (o := f) (dCap := c - f) (sCap := sc) (elem := 5) Tryz.underlying51 (by kernel_rfl) hcs (by omega) hy4 (fun j _ => rfl)) (stab_nil _ _ _) ?_
      have hk40 : Kept (· = vb) w w4 := hk4.mono fun _ _ h => h.elim
      have hk5 : Kept (· = vb) w (put w4 vb (.cells (setRow cs f (List.ofFn (n := n) fun j => Value.int .u8 (y j.val))) 5 (0, 0))) := hk40.put (b := vb) (fun _ => rfl) _
      have hvn : (put w4 vb (.cells (setRow cs f (List.ofFn (n := n) fun j => Value.int .u8 (y j.val))) 5 (0, 0))).heap[vb]? = some (.cells (setRow cs f (List.ofFn (n := n) fun j => Value.int .u8 (y j.val))) 5 (0, 0)) := put_same (blk_lt hcs)
      have h55 : (put w4 vb (.cells (setRow cs f (List.ofFn (n := n) fun j => Value.int .u8 (y j.val))) 5 (0, 0))).heap[w.heap.size]? = _ := (put_other hne).trans h54
      generalize put w4 vb (.cells (setRow cs f (List.ofFn (n := n) fun j => Value.int .u8 (y j.val))) 5 (0, 0)) = w5 at hk5 hvn h55 ⊢
      simp
      refine W_no (by simp [wcell_of h55, h5]) ?_
      simp
      refine fin _ hk5 ⟨_, hvn, by rw [Go.Eng.setRow_size]; exact hcV2, fun j hj => ?_⟩
      rw [setRow_get _ _ _ _ (by simp; omega)]
      unfold rowV
      by_cases hj2 : f ≤ j ∧ j < f + n
      · rw [if_pos (by simpa using hj2), if_pos hj2]
        simp
        omega
      · rw [if_neg (by simpa using hj2), if_neg hj2]
        exact hcx j hj
  · rw [if_neg hin] at hvw
    subst hvw
    simp
    refine W_no (by simp) ?_
    simp
    refine W_yes (by simp) ?_
    simp
    unfold FilC
    rw [if_neg hin]
    exact ⟨rfl, hk2⟩
end Go.Proofs.YtmfgdbapankamaaGreat
