/- Layer 20: steps of a machine, part 2: load, save, atomic. -/
import Derived.Test.YtepbpapbkonhnaaVmF
set_option linter.unusedSimpArgs false
set_option linter.unusedVariables false
set_option maxRecDepth 8000
namespace Go.Proofs.Ytepbpapbkonhnaa
open Go.Eng

theorem rok_load {m : RMem} (hm : MOk m) (a : RVal) (off k : Int) : ROk (loadOf m a off k).1 := by
  unfold loadOf
  split
  · unfold loadC
    split
    · exact rok_num (leN_bound _ (fun j => hm.1.2 _) _).1
    · exact rok_zero
  · split
    · unfold loadS
      split
      · split
        · exact hm.2 _
        · split
          · exact rok_num (leN_bound _ (fun j => hm.1.1 _) _).1
          · exact rok_zero
      · exact rok_zero
    · exact rok_zero
theorem mok_mark {m : RMem} (hm : MOk m) (f n : Nat) : MOk (mark m f n) := ⟨bytesOk_mark hm.1 f n, fun i => by
  show ROk (if _ then _ else _)
  split
  · exact rok_zero
  · exact hm.2 i⟩
theorem mok_withBytes {m : RMem} (hm : MOk m) (f e : Nat) (n : Int) : MOk (withBytes m f e n) := ⟨bytesOk_withBytes hm.1 f e n, hm.2⟩
theorem mok_save {m : RMem} (hm : MOk m) (a : RVal) (off k : Int) {v : RVal} (hv : ROk v) : MOk (saveOf m a off k v).1 := by
  unfold saveOf
  split
  · refine ⟨bytesOk_saveS hm.1 _ _ _, ?_⟩
    unfold saveS
    split
    · split
      · exact (mok_mark (mok_withBytes hm _ _ _) _ _).2
      · split
        · intro i
          show ROk (fset _ _ _ i)
          unfold fset
          split
          · exact hv
          · exact (mok_mark hm _ _).2 i
        · exact hm.2
    · exact hm.2
  · exact hm
theorem mok_fresh (c : Nat → Int) (maps : Value) (hc : ∀ i, 0 ≤ c i ∧ c i ≤ 255) : MOk (RMem.fresh c maps) := ⟨bytesOk_fresh c maps hc, fun _ => rok_zero⟩

/-- What a method leaves that may change the memory. -/
def OutM (b : Nat) (k : VK) (s : VSt) (w : World) (o : Option (VSt × RMem)) (r : Value) (w' : World) : Prop :=
  Kept (fun i => i = b ∨ i = k.bm) w w' ∧ r = .bool o.isSome ∧ IsMach w' b k (o.elim s (·.1)) ∧ (∀ q, o = some q → IsMem w' k.bm q.2)
theorem OutS.toM {b : Nat} {k : VK} {s : VSt} {m : RMem} {w w' : World} {o : Option VSt} {r : Value} (h : OutS b k s w o r w') (hm : IsMem w k.bm m) (hb : k.bm ≠ b) : OutM b k s w (o.map fun q => (q, m)) r w' := by
  obtain ⟨h1, h2, h3⟩ := h
  refine ⟨h1.mono fun i _ h => .inl h, by rw [h2]; cases o <;> rfl, by cases o <;> exact h3, fun q hq => ?_⟩
  cases o with
  | none => cases hq
  | some s1 => cases hq; exact h1.has hm hb

def loadStep (s : VSt) (m : RMem) (x : Ins) (p : Parts) : Option VSt :=
  if (loadOf m (s.r x.src) (IntKind.i64.wrap x.off) p.size).2 = 0 then setOf s x.dst (loadOf m (s.r x.src) (IntKind.i64.wrap x.off) p.size).1 else none

set_option maxHeartbeats 4000000 in
theorem vload_ret (b : Nat) (k : VK) (s : VSt) (m : RMem) (x : Ins) (p : Parts) (w : World) (hm : IsMach w b k s) (hmm : IsMem w k.bm m) (hd : x.dst < 11) (hx : x.src < 11) (ok : SOk s) (mk : MOk m) :
    Ret Try.prog 64 [.pointer (some ⟨b, 0, none⟩), .agg x.arr, .agg p.arr] w (OutS b k s w (loadStep s m x p)) := by
  refine ret_of_W Try.func64 rfl ok_vm_machine_load ?_
  have hb := blk_lt hm
  have hx' : (x.src : Int) < 11 := by omega
  have hL := rok_load mk (s.r x.src) (IntKind.i64.wrap x.off) p.size
  have t1 := load_T w k.bm m (s.r x.src) (IntKind.i64.wrap x.off) p.size hmm (ok _).1 (ok _).2.1 (i64_lo _) (i64_hi _) mk.1 hL.1
  unfold loadStep
  have e0 := mach_rrow hm x.src hx
  have e37 := mach_bm hm
  generalize loadOf m (s.r x.src) (IntKind.i64.wrap x.off) p.size = o at *
  obtain ⟨v, e⟩ := o
  simp only at hL t1 ⊢
  have xv := rval_ext0 w.heap.size _ hL.1
  simp only [c_vm_machine_load, zero_val]
  rw [W_assoc, W_seq]
  refine W_seg [.v (.pointer (some ⟨b, 0, none⟩)), .v (.agg x.arr), .v (.agg p.arr), .v (.bool false), .p 55 x.arr, .p 122 p.arr, .any, .p 43 v.arr, .v (.int .i64 e), .any, .any, .any, .any, .any, .any] (by simp [hb]) (by simp_all [slsOk, Sl.ok]) (fun B hB => ?_) fun w1 hk =>
    open_v (open_v (open_v (open_v (open_p fun p4 _ h4 => open_p fun p5 _ h5 => open_any fun u6 => open_p fun p7 _ h7 => open_v (open_any fun _ => open_any fun _ => open_any fun _ => open_any fun _ => open_any fun _ => open_any fun _ => open_nil ?_)))))
  · have e1 : ∀ l, wrow (ownW B l) b (38 + x.src * 4) 4 = some (s.r x.src).arr := fun l => own_extR hB e0
    have e2 : ∀ l, wcell (ownW B l) b 37 = some (.pointer (some ⟨k.bm, 0, none⟩)) := fun l => own_ext hB e37
    simp [C_cond_eq, C_alt, e1, e2, hx', t1, slsIs, Sl.is]
  · have hm1 : IsMach w1 b k s := mach_keep hm hk (fun h => h)
    have hkb : Kept (· = b) w w1 := hk.mono fun _ _ h => h.elim
    by_cases he : e = 0
    · subst he
      rw [if_pos rfl]
      simp [wcell_of h4, rval_row h7]
      refine W_yes (by simp) ?_
      refine W_call0 (by simp [wcell_of h4, rval_row h7]) (set_ret b k s x.dst v w1 hm1 hd) ?_
      rintro r w5 ⟨hk5, rfl, hm5⟩
      simp
      exact ⟨hkb.trans hk5, rfl, hm5⟩
    · rw [if_neg he]
      simp [he]
      refine W_no (by simp [he]) ?_
      simp [he]
      exact ⟨hkb, rfl, hm1⟩

def saveStep (s : VSt) (m : RMem) (x : Ins) (size : Int) (v : RVal) : Option (VSt × RMem) :=
  if (saveOf m (s.r x.dst) (IntKind.i64.wrap x.off) size v).2 = 0 then some ({ s with pos := IntKind.i64.wrap (s.pos + 1) }, (saveOf m (s.r x.dst) (IntKind.i64.wrap x.off) size v).1) else none

set_option maxHeartbeats 4000000 in
theorem vsave_ret (b : Nat) (k : VK) (s : VSt) (m : RMem) (x : Ins) (size : Int) (v : RVal) (w : World) (hm : IsMach w b k s) (hmm : IsMem w k.bm m) (hbm : k.bm ≠ b) (hd : x.dst < 11) (ok : SOk s) (hv : ROk v) :
    Ret Try.prog 65 [.pointer (some ⟨b, 0, none⟩), .agg x.arr, .int .i64 size, .agg v.arr] w (OutM b k s w (saveStep s m x size v)) := by
  refine ret_of_W Try.func65 rfl ok_vm_machine_save ?_
  have hb := blk_lt hm
  have hd' : (x.dst : Int) < 11 := by omega
  simp only [c_vm_machine_save]
  have h5 := hp_old (hp_new w (.cells x.arr 55)) (.cells v.arr 43)
  have h6 := hp_new (w.alloc (.cells x.arr 55)) (.cells v.arr 43)
  have hm0 : IsMach ((w.alloc (.cells x.arr 55)).alloc (.cells v.arr 43)).drew b k s := hp_old (hp_old hm _) _
  have hmm0 : IsMem ((w.alloc (.cells x.arr 55)).alloc (.cells v.arr 43)).drew k.bm m := hp_old (hp_old hmm _) _
  have hk0 : Kept none' w ((w.alloc (.cells x.arr 55)).alloc (.cells v.arr 43)).drew := (((Kept.refl _ _).alloc _).alloc _).drew
  rw [alloc_size] at h6
  have h5' : ((w.alloc (.cells x.arr 55)).alloc (.cells v.arr 43)).drew.heap[w.heap.size]? = _ := h5
  have h6' : ((w.alloc (.cells x.arr 55)).alloc (.cells v.arr 43)).drew.heap[w.heap.size + 1]? = _ := h6
  simp
  generalize ((w.alloc (.cells x.arr 55)).alloc (.cells v.arr 43)).drew = w1 at h5' h6' hm0 hmm0 hk0 ⊢
  refine W_call0 (by simp [mach_bm hm0, wcell_of h5', hd', mach_rrow hm0 x.dst hd, rval_row h6']) (save_any k.bm m (s.r x.dst) v (IntKind.i64.wrap x.off) size w1 hmm0 (ok _).2.1 (i64_lo _) (i64_hi _) (fun _ => hv.2.2)) ?_
  rintro r w2 ⟨hk1, rfl, hmm1⟩
  have hm1 := mach_keep hm0 hk1 (Ne.symm hbm)
  have hk2 : Kept (fun i => i = b ∨ i = k.bm) w w2 := (hk0.mono fun _ _ h => h.elim).trans (hk1.mono fun _ _ h => .inr h)
  unfold saveStep
  generalize saveOf m (s.r x.dst) (IntKind.i64.wrap x.off) size v = o at *
  obtain ⟨m', e⟩ := o
  simp only at hmm1 ⊢
  by_cases he : e = 0
  · subst he
    rw [if_pos rfl]
    refine W_no (by simp) ?_
    simp
    refine W_store (by simp) (by simp [mach_pos hm1]; rfl) (mach_stpos hm1 _) (stab_nil _ _ _) ?_
    simp
    exact ⟨hk2.put (fun _ => .inl rfl) _, rfl, mach_put hm1 _, fun q hq => by cases hq; exact (put_other hbm).trans hmm1⟩
  · rw [if_neg he]
    refine W_yes (by simp [he]) ?_
    simp
    exact ⟨hk2, rfl, hm1, fun q hq => by cases hq⟩

def atomN (imm a b : Int) : Option Int :=
  if imm = 0 then some (IntKind.u64.wrap (a + b)) else if imm = 64 then some (bitOr .u64 a b) else if imm = 80 then some (bitAnd .u64 a b) else if imm = 160 then some (bitXor .u64 a b) else none
theorem atomN_ok {imm a b n : Int} (h : atomN imm a b = some n) : 0 ≤ n := by
  have hw : ∀ z, 0 ≤ IntKind.u64.wrap z := fun z => by rw [IntKind.wrap_u64]; omega
  unfold atomN at h
  repeat' split at h
  all_goals first | cases h
  all_goals exact hw _
def atomicStep (s : VSt) (m : RMem) (x : Ins) (p : Parts) : Option (VSt × RMem) :=
  if (loadOf m (s.r x.dst) (IntKind.i64.wrap x.off) p.size).2 = 0 ∧ (loadOf m (s.r x.dst) (IntKind.i64.wrap x.off) p.size).1.tag = 1 ∧ (s.r x.src).tag = 1 then
    (atomN x.imm (loadOf m (s.r x.dst) (IntKind.i64.wrap x.off) p.size).1.n (s.r x.src).n).bind fun n => saveStep s m x p.size (num n)
  else none

set_option maxHeartbeats 8000000 in
theorem atomic_ret (b : Nat) (k : VK) (s : VSt) (m : RMem) (x : Ins) (p : Parts) (w : World) (hm : IsMach w b k s) (hmm : IsMem w k.bm m) (hbm : k.bm ≠ b) (hd : x.dst < 11) (hx : x.src < 11) (ok : SOk s) (mk : MOk m) :
    Ret Try.prog 67 [.pointer (some ⟨b, 0, none⟩), .agg x.arr, .agg p.arr] w (OutM b k s w (atomicStep s m x p)) := by
  refine ret_of_W Try.func67 rfl ok_vm_machine_atomic ?_
  have hb := blk_lt hm
  have hx' : (x.src : Int) < 11 := by omega
  have hd' : (x.dst : Int) < 11 := by omega
  have hL := rok_load mk (s.r x.dst) (IntKind.i64.wrap x.off) p.size
  have t1 := load_T w k.bm m (s.r x.dst) (IntKind.i64.wrap x.off) p.size hmm (ok _).1 (ok _).2.1 (i64_lo _) (i64_hi _) mk.1 hL.1
  unfold atomicStep
  have e0 := mach_rrow hm x.src hx
  have e3 := mach_rrow hm x.dst hd
  have e37 := mach_bm hm
  generalize loadOf m (s.r x.dst) (IntKind.i64.wrap x.off) p.size = o at *
  obtain ⟨v, e⟩ := o
  simp only at hL t1 ⊢
  have xv := rval_ext0 w.heap.size _ hL.1
  have xs := rval_ext0 w.heap.size _ (ok x.src).1
  simp only [c_vm_machine_atomic, zero_val]
  rw [W_assoc, W_assoc, W_assoc, W_assoc, W_assoc, W_seq]
  have fin : ∀ {w1 : World}, Kept none' w w1 → OutM b k s w none (.bool false) w1 := fun hk => ⟨hk.mono fun _ _ h => h.elim, rfl, mach_keep hm hk (fun h => h), fun q hq => by cases hq⟩
  by_cases hc : e = 0 ∧ v.tag = 1 ∧ (s.r x.src).tag = 1
  · rw [if_pos hc]
    obtain ⟨rfl, hc1, hc2⟩ := hc
    cases hn : atomN x.imm v.n (s.r x.src).n with
    | none =>
      refine W_segX [.any, .any, .any, .v (.bool false), .any, .any, .any, .any, .any, .any, .any, .any, .any, .any, .any, .any, .any, .any, .any, .any, .any, .any, .any, .any, .any, .any, .any] (by simp [hb]) (by simp [slsOk, Sl.ok]) (fun B hB => ?_) ?_
      · have e1 : ∀ l, wrow (ownW B l) b (38 + x.src * 4) 4 = some (s.r x.src).arr := fun l => own_extR hB e0
        have e4 : ∀ l, wrow (ownW B l) b (38 + x.dst * 4) 4 = some (s.r x.dst).arr := fun l => own_extR hB e3
        have e2 : ∀ l, wcell (ownW B l) b 37 = some (.pointer (some ⟨k.bm, 0, none⟩)) := fun l => own_ext hB e37
        have i1 : ¬ x.imm = 0 := fun h => by simp [atomN, h] at hn
        have i2 : ¬ x.imm = 64 := fun h => by simp [atomN, h] at hn
        have i3 : ¬ x.imm = 80 := fun h => by simp [atomN, h] at hn
        have i4 : ¬ x.imm = 160 := fun h => by simp [atomN, h] at hn
        simp [C_cond_eq, C_alt, e1, e2, e4, hx', hd', t1, hc1, hc2, i1, i2, i3, i4, slsIs, Sl.is]
      · intro w1 hk
        refine open_any fun _ => open_any fun _ => open_any fun _ => open_v ?_
        repeat' refine open_any fun _ => ?_
        refine open_nil ?_
        simp
        exact fin hk
    | some n =>
      have hn0 := atomN_ok hn
      refine W_seg [.v (.pointer (some ⟨b, 0, none⟩)), .any, .any, .any, .p 55 x.arr, .p 122 p.arr, .any, .any, .any, .any, .any, .any, .any, .any, .any, .v (.int .u64 n), .any, .any, .any, .any, .any, .any, .any, .any, .any, .any, .any] (by simp [hb]) (by simp_all [slsOk, Sl.ok]) (fun B hB => ?_) fun w1 hk =>
        open_v (open_any fun _ => open_any fun _ => open_any fun _ => open_p fun p4 _ h4 => open_p fun p5 _ h5 => open_any fun _ => open_any fun _ => open_any fun _ => open_any fun _ => open_any fun _ => open_any fun _ => open_any fun _ => open_any fun _ => open_any fun _ => open_v ?_)
      · have e1 : ∀ l, wrow (ownW B l) b (38 + x.src * 4) 4 = some (s.r x.src).arr := fun l => own_extR hB e0
        have e4 : ∀ l, wrow (ownW B l) b (38 + x.dst * 4) 4 = some (s.r x.dst).arr := fun l => own_extR hB e3
        have e2 : ∀ l, wcell (ownW B l) b 37 = some (.pointer (some ⟨k.bm, 0, none⟩)) := fun l => own_ext hB e37
        by_cases i1 : x.imm = 0
        · simp [atomN, i1] at hn
          simp [C_cond_eq, C_alt, e1, e2, e4, hx', hd', t1, hc1, hc2, i1, hn, slsIs, Sl.is]
        by_cases i2 : x.imm = 64
        · simp [atomN, i2] at hn
          simp [C_cond_eq, C_alt, e1, e2, e4, hx', hd', t1, hc1, hc2, i2, hn, slsIs, Sl.is]
        by_cases i3 : x.imm = 80
        · simp [atomN, i3] at hn
          simp [C_cond_eq, C_alt, e1, e2, e4, hx', hd', t1, hc1, hc2, i3, hn, slsIs, Sl.is]
        by_cases i4 : x.imm = 160
        · simp [atomN, i4] at hn
          simp [C_cond_eq, C_alt, e1, e2, e4, hx', hd', t1, hc1, hc2, i4, hn, slsIs, Sl.is]
        simp [atomN, i1, i2, i3, i4] at hn
      · repeat' refine open_any fun _ => ?_
        refine open_nil ?_
        have r4 : ∀ {w' : World}, w'.heap[p4]? = some (.cells x.arr 55 (0, 0)) → wrow w' p4 0 5 = some x.arr := fun h => by rw [wrow_of h (by simp)]; simp
        have hk1 : Kept none' w w1.drew := hk.drew
        have hm1 : IsMach w1.drew b k s := mach_keep hm hk1 (fun h => h)
        have hmm1 : IsMem w1.drew k.bm m := hk1.has hmm (fun h => h)
        have h41 : w1.drew.heap[p4]? = _ := h4
        have h51 : w1.drew.heap[p5]? = _ := h5
        simp [r4 h4, wcell_of h5]
        generalize w1.drew = w2 at hm1 hmm1 hk1 h41 h51 ⊢
        refine W_calm (by simp) (ret_of_T (number_T w2 n)) fun w3 hk3 => ?_
        have hm3 : IsMach w3 b k s := mach_keep hm1 hk3 (fun h => h)
        have hmm3 : IsMem w3 k.bm m := hk3.has hmm1 (fun h => h)
        simp
        refine W_call0 (by simp) (vsave_ret b k s m x p.size (num n) w3 hm3 hmm3 hbm hd ok (rok_num hn0)) ?_
        rintro r w4 ⟨g1, rfl, g2, g3⟩
        simp
        exact ⟨((hk1.trans hk3).mono fun _ _ h => h.elim).trans g1, rfl, g2, g3⟩
  · rw [if_neg hc]
    refine W_segX [.any, .any, .any, .v (.bool false), .any, .any, .any, .any, .any, .any, .any, .any, .any, .any, .any, .any, .any, .any, .any, .any, .any, .any, .any, .any, .any, .any, .any] (by simp [hb]) (by simp [slsOk, Sl.ok]) (fun B hB => ?_) ?_
    · have e1 : ∀ l, wrow (ownW B l) b (38 + x.src * 4) 4 = some (s.r x.src).arr := fun l => own_extR hB e0
      have e4 : ∀ l, wrow (ownW B l) b (38 + x.dst * 4) 4 = some (s.r x.dst).arr := fun l => own_extR hB e3
      have e2 : ∀ l, wcell (ownW B l) b 37 = some (.pointer (some ⟨k.bm, 0, none⟩)) := fun l => own_ext hB e37
      have hf : (!decide (e = 0) || !decide (v.tag = 1) || !decide ((s.r x.src).tag = 1)) = true := by
        by_cases c1 : e = 0 <;> by_cases c2 : v.tag = 1 <;> by_cases c3 : (s.r x.src).tag = 1 <;> simp [c1, c2, c3]
        exact hc ⟨c1, c2, c3⟩
      simp [C_cond_eq, C_alt, e1, e2, e4, hx', hd', t1, hf, slsIs, Sl.is]
    · intro w1 hk
      refine open_any fun _ => open_any fun _ => open_any fun _ => open_v ?_
      repeat' refine open_any fun _ => ?_
      refine open_nil ?_
      simp
      exact fin hk
end Go.Proofs.Ytepbpapbkonhnaa
