/- Layer 20: helpers of a machine with maps, part 2: update, delete, push. -/
import Derived.Test.YtmfgdbapankamaaGreatGr26
import Derived.Test.YtmfgdbapankamaaGreatGr17
set_option linter.unusedSimpArgs false
set_option linter.unusedVariables false
set_option maxRecDepth 8000
namespace Go.Proofs.YtmfgdbapankamaaGreat
open Go.Eng
def byteF (m : List Nat) (j : Nat) : Int := ((m.getD j 0 : Nat) : Int)
theorem byteF_rng {m : List Nat} (h : ∀ x ∈ m, x ≤ 255) (j : Nat) : 0 ≤ byteF m j ∧ byteF m j ≤ 255 := by
  unfold byteF
  rw [List.getD_eq_getElem?_getD]
  cases hj : m[j]? with
  | none => simp
  | some x => have := h x (List.mem_of_getElem? hj); simp; omega
theorem byteF_get {m : List Nat} {j : Nat} (h : j < m.length) : ∃ x, m[j]? = some x ∧ byteF m j = (x : Nat) := by
  have hx := List.getElem?_eq_getElem h
  exact ⟨_, hx, by unfold byteF; rw [List.getD_eq_getElem?_getD, hx]; rfl⟩
theorem wcell_lt' {w : World} {b o : Nat} {v : Value} (h : wcell w b o = some v) : b < w.heap.size := by
  unfold wcell at h
  cases hc : w.heap[b]? with
  | none => rw [hc] at h; cases h
  | some o => exact blk_lt hc
section
variable {w : World} {b : Nat} {k : VK} {N : Names} {mv : Value} {G : GSt}
theorem help_endN (h0 : GAt w b k N mv G) {w1 : World} {b2 : Nat} (hk1 : Kept none' w w1) (hb2 : w.heap.size ≤ b2) (hb1 : b2 < w1.heap.size) {N' : Names} {w2 : World} (hG : GAt w2 b k N' mv G) (hn : NExt w1 N N' G.cs.length G.cs.length)
    (hk2 : Kept (fun j => j = b ∨ j = k.bm ∨ N.own G.cs.length j) w1 w2) (u : RVal) (x : Obj) : HelpP b k N mv G w none (.tuple #[.agg u.arr, .bool false]) (put w2 b2 x) := by
  have lb := blk_lt h0.mach
  have lm := blk_lt h0.mem
  have own2 : ¬ N'.own G.cs.length b2 := fun ho => by
    rcases hn.own b2 ho with h1 | h1
    · have := h0.placed.own_lt h1; omega
    · omega
  have hkp : Kept (· = b2) w2 (put w2 b2 x) := (Kept.refl (· = b2) w2).put (b := b2) (fun _ => rfl) _
  have hk02 : Kept (fun j => j = b ∨ j = k.bm ∨ N.own G.cs.length j) w w2 := (hk1.mono fun _ _ h => h.elim).trans hk2
  refine ⟨u, N', rfl, fun q hq => (by cases hq), ⟨hkp.has hG.mach (by omega), hkp.has hG.mem (by omega), hG.maps.keep hkp fun j hj => ?_, hG.apart, hG.placed.keep hkp fun i hi e => own2 (e ▸ hi), hG.low⟩, NExt.before hn hk1.size, hk02.then hkp fun i hi e => ?_⟩
  · have := h0.low j hj; omega
  · omega
noncomputable def hchangeOf (G : GSt) (i : Nat) (A : XMap) (helper : Int) : Option (GSt × RVal) :=
  match gbytesOf G (G.s.r 2) A.ks.toNat with
  | none => none
  | some l => if linedX A = true ∨ A.frozen = true then none
    else if helper = 3 then (if A.ty = 0 then none else some ({ G with ms := G.ms.set i (delX A (bs l)).2 }, minusOf (delX A (bs l)).1))
    else match gbytesOf G (G.s.r 3) A.vs with
      | none => none
      | some m => if (G.s.r 4).tag = 1 then some ({ G with ms := G.ms.set i (updX A G.cs i (bs l) (byteF m) (G.s.r 4).n).2.1, cs := (updX A G.cs i (bs l) (byteF m) (G.s.r 4).n).2.2 }, minusOf (updX A G.cs i (bs l) (byteF m) (G.s.r 4).n).1) else none
theorem upd_len (A : XMap) (cs : List XCell) (slot : Nat) (k : ByteArray) (x : Nat → Int) (fl : Int) : cs.length ≤ (updX A cs slot k x fl).2.2.length := by
  have hs : ∀ id, cs.length ≤ (setVal cs id x).length := fun id => by
    unfold setVal
    split
    · exact Nat.le_refl _
    · simp
  unfold updX
  repeat' split
  all_goals first | exact Nat.le_refl _ | exact hs _ | simp
set_option maxHeartbeats 4000000 in
theorem hchange_ret (h : GAt w b k N mv G) (ok : GOk G) {i mb : Nat} {A : XMap} {M : BMap} (hA : G.ms[i]? = some A) (hq : N.mm[i]? = some (mb, M)) (hc : A.clock + 1 ≤ 1000000) (helper : Int) :
    Ret Tryz.prog 76 [.pointer (some ⟨b, 0, none⟩), .int .i32 helper, .pointer (some ⟨mb, 0, none⟩)] w (HelpP b k N mv G w (hchangeOf G i A helper)) := by
  refine ret_of_W Tryz.func76 rfl ok_vm_machine_change ?_
  have okA := ok.maps A (List.mem_of_getElem? hA)
  obtain ⟨s1, s2, s3, s4, s5, s6, s7, s8, s9, _⟩ := spec_facts okA
  have hb := blk_lt h.mach
  simp only [c_vm_machine_change, zero_val, W_seq]
  refine W_new' (v := .agg RVal.zero.arr) (cs := RVal.zero.arr) (by simp) rfl ?_
  have h2 := hp_new w (.cells RVal.zero.arr 68)
  have hk1 : Kept none' w (w.alloc (.cells RVal.zero.arr 68)) := (Kept.refl _ _).alloc _
  have hb2 : w.heap.size ≤ w.heap.size := Nat.le_refl _
  generalize hbb : w.heap.size = b2 at *
  generalize w.alloc (.cells RVal.zero.arr 68) = w1 at *
  simp only [W_set, W_seq]
  refine ok_intro (.bool false) (by simp) ?_
  refine W_chkIn [.pointer (some ⟨b, 0, none⟩)] (by simp) ?_
  have h1 := h.calm hk1
  obtain ⟨hm1, hl1⟩ := h1.placed.low hA hq
  try simp only [W_seq]
  refine W_calm (vs := [.pointer (some ⟨mb, 0, none⟩)]) (by simp) (ret_of_T (mspec_T hm1)) fun w3 hk3 => ?_
  have h3 := h1.calm hk3
  try simp only [W_seq]
  have hks : ((A.ks.toNat : Nat) : Int) = A.ks := by omega
  refine W_calmP (vs := [.pointer (some ⟨b, 0, none⟩), .int .i64 ((2 : Nat) : Int), .int .i64 ((A.ks.toNat : Nat) : Int)]) (by simp [specArr, hl1.ks, hks]) (mbytes_ret h3 ok 2 (by omega) (n := A.ks.toNat) (by omega)) ?_
  intro v w4 hk4 hv
  have h4 := h3.calm hk4
  have hk14 := hk3.trans hk4
  have hk04 := hk1.trans hk14
  have g2 := hk14.has h2 fun h => h
  unfold MBytP at hv
  unfold hchangeOf
  generalize gbytesOf G (G.s.r 2) A.ks.toNat = o at *
  cases o with
  | none =>
    simp only at hv ⊢
    subst hv
    simp
    refine W_no (by simp) ?_
    simp
    refine W_no (by simp) ?_
    simp
    refine W_yes (by simp) ?_
    simp
    refine W_store (by simp) (by simp) (store_val (v := RVal.zero) g2) (stab_nil _ _ _) ?_
    simp [rval_row (put_same (o := .cells RVal.zero.arr 68) (blk_lt g2))]
    exact help_none h (hk04.putNew (by omega) _) _
  | some l =>
    simp only at hv ⊢
    obtain ⟨g1, gle, nb, c, rfl, g3, g4, g5⟩ := hv
    have hm4 := (h4.placed.low hA hq).1
    simp
    refine W_yes (by simp) ?_
    refine W_calm (by simp) (ret_of_T (lined_T hm4)) fun w5 hk5 => ?_
    have h5 := h4.calm hk5
    have hk15 := hk14.trans hk5
    have hk05 := hk1.trans hk15
    have g25 := hk15.has h2 fun h => h
    have hlin : (decide (M.ty = 3) || decide (M.ty = 4)) = linedX A := by unfold linedX; rw [hl1.ty]
    rw [hlin]
    cases hlx : linedX A with
    | true =>
      rw [if_pos (.inl rfl)]
      simp
      refine W_no (by simp) ?_
      simp
      refine W_yes (by simp) ?_
      simp
      refine W_store (by simp) (by simp) (store_val (v := RVal.zero) g25) (stab_nil _ _ _) ?_
      simp [rval_row (put_same (o := .cells RVal.zero.arr 68) (blk_lt g25))]
      exact help_none h (hk05.putNew (by omega) _) _
    | false =>
      have hm5 := (h5.placed.low hA hq).1
      simp
      refine W_yes (by simp) ?_
      refine W_call0 (by simp) (frozen_ret mb M w5 hm5) ?_
      rintro v w6 ⟨rfl, rfl⟩
      rw [hl1.frozen]
      cases hfz : A.frozen with
      | true =>
        simp
        refine W_yes (by simp) ?_
        simp
        refine W_store (by simp) (by simp) (store_val (v := RVal.zero) g25) (stab_nil _ _ _) ?_
        simp [rval_row (put_same (o := .cells RVal.zero.arr 68) (blk_lt g25))]
        exact help_none h (hk05.putNew (by omega) _) _
      | false =>
        have hkey : KeyP w6 (.slice (some ⟨nb, 0, none⟩) l.length c) (bs l) := key_of_bytes gle (by omega) fun j x hj => wcell_kept hk5 (fun h => h) (g5 j x hj)
        rw [if_neg (by simp)]
        simp
        refine W_no (by simp) ?_
        simp
        rw [← g1]
        by_cases h3' : helper = 3
        · rw [if_pos h3']
          refine W_yes (by simp [h3']) ?_
          simp
          refine W_call0 (vs := [.pointer (some ⟨mb, 0, none⟩), .slice (some ⟨nb, 0, none⟩) l.length c]) (by simp) (pdelete_ret h5.placed hA hq okA hkey (by rw [bs_len]; omega) hfz) ?_
          rintro r w7 ⟨rfl, hout⟩
          obtain ⟨N', hG7, hn7, hk7⟩ := h5.outp hout (Nat.le_refl _) ok.reg ok.kept
          have hk17 : Kept (fun j => j = b ∨ j = k.bm ∨ N.own G.cs.length j) w1 w7 := (hk15.mono fun _ _ h => h.elim).trans (hk7.mono fun j _ hj => .inr (.inr hj))
          have hn17 := NExt.before hn7 hk15.size
          have hAi : (G.ms.set i (delX A (bs l)).2)[i]? = some (delX A (bs l)).2 := List.getElem?_set_self (List.getElem?_eq_some_iff.1 hA).1
          generalize hdx : delX A (bs l) = dx at *
          obtain ⟨e, A'⟩ := dx
          simp only at hG7 hAi ⊢
          simp
          refine W_calm (by simp) (ret_of_T (minus_T w7 e)) fun w8 hk8 => ?_
          have h8 := hG7.calm hk8
          obtain ⟨mb2, M2, hq2, hm8, hl8⟩ := h8.placed.get hAi
          have hmb : mb2 = mb := by
            have h6 := congrArg (fun l => l[i]?) hn7.mb
            simp only [List.getElem?_map] at h6
            rw [show N'.mm[i]? = some (mb2, M2) from hq2, hq] at h6
            simpa using h6
          subst hmb
          simp
          refine W_calm (by simp) (ret_of_T (mspec_T hm8)) fun w9 hk9 => ?_
          have h9 := h8.calm hk9
          have hk79 := hk8.trans hk9
          have hk19 := hk17.trans (hk79.mono fun _ _ h => h.elim)
          have g29 := hk19.has h2 (fun ho => by
            have := blk_lt h.mem
            rcases ho with h | h | ho
            · omega
            · omega
            · have := h.placed.own_lt ho; omega)
          have hty : A'.ty = A.ty := by
            have : (delX A (bs l)).2.ty = A.ty := by
              unfold delX
              split
              · rfl
              · split <;> rfl
            rw [hdx] at this
            exact this
          simp [specArr, hl8.ty, hty]
          refine W_store (by simp) (by simp) (store_val (v := minusOf e) g29) (stab_nil _ _ _) ?_
          simp [specArr, hl8.ty, hty, rval_row (put_same (o := .cells (minusOf e).arr 68) (blk_lt g29))]
          by_cases h0 : A.ty = 0
          · rw [if_pos h0]
            have hd0 : delX A (bs l) = (22, A) := by unfold delX; rw [if_pos (.inr h0)]
            rw [hdx] at hd0
            cases hd0
            rw [set_self hA] at h9
            simp [h0]
            exact help_endN h hk1 (by omega) (blk_lt h2) h9 hn17 hk19 _ _
          · rw [if_neg h0]
            simp [h0]
            exact help_end h hk1 (by omega) (blk_lt h2) h9 hn17 hk19 (minusOf e)
        · rw [if_neg h3']
          refine W_no (by simp [h3']) ?_
          simp
          refine W_calm (by simp) (ret_of_T (mspec_T hm5)) fun w7 hk7 => ?_
          have h7 := h5.calm hk7
          simp
          refine W_calmP (vs := [.pointer (some ⟨b, 0, none⟩), .int .i64 ((3 : Nat) : Int), .int .i64 (A.vs : Nat)]) (by simp [specArr, hl1.vs]) (mbytes_ret h7 ok 3 (by omega) (n := A.vs) (by omega)) ?_
          intro v w8 hk8 hv
          have h8 := h7.calm hk8
          have hk18 := (hk15.trans hk7).trans hk8
          have g28 := hk18.has h2 fun h => h
          unfold MBytP at hv
          generalize gbytesOf G (G.s.r 3) A.vs = o2 at *
          cases o2 with
          | none =>
            simp only at hv ⊢
            subst hv
            simp
            refine W_yes (by simp) ?_
            simp
            refine W_store (by simp) (by simp) (store_val (v := RVal.zero) g28) (stab_nil _ _ _) ?_
            simp [rval_row (put_same (o := .cells RVal.zero.arr 68) (blk_lt g28))]
            exact help_none h ((hk1.trans hk18).putNew (by omega) _) _
          | some m =>
            simp only at hv ⊢
            obtain ⟨m1, mle, nb2, c2, rfl, m3, m4, m5⟩ := hv
            have c54 := mach_cell h8.mach 54 (by omega)
            have c55 := mach_cell h8.mach 55 (by omega)
            have e54 : (G.s.ren N.cb).cellAt k 54 = .int .i64 (G.s.r 4).tag := rfl
            have e55 : (G.s.ren N.cb).cellAt k 55 = .int .u64 (G.s.r 4).n := rfl
            rw [e54] at c54
            rw [e55] at c55
            by_cases ht : (G.s.r 4).tag = 1
            · rw [if_pos ht]
              have hkey8 : KeyP w8 (.slice (some ⟨nb, 0, none⟩) l.length c) (bs l) := (hkey.calm hk7).calm hk8
              have hmx : ∀ j, j < A.vs → wcell w8 nb2 (0 + j) = some (.int .u8 (byteF m j)) := fun j hj => by
                obtain ⟨x, hx1, hx2⟩ := byteF_get (m := m) (j := j) (by omega)
                rw [Nat.zero_add, hx2]
                exact m5 j x hx1
              have hnb2 := wcell_lt' (hmx 0 (by omega))
              simp [c54, ht]
              refine W_no (by simp [c54, ht]) ?_
              simp [c55]
              refine W_call0 (vs := [.pointer (some ⟨mb, 0, none⟩), .slice (some ⟨nb, 0, none⟩) l.length c, .slice (some ⟨nb2, 0, none⟩) A.vs c2, .int .u64 (G.s.r 4).n]) (by simp [c55]) (pupdate_ret h8.placed hA hq okA hkey8 (by rw [bs_len]; omega) hc hfz (ok.reg 4).n hmx (byteF_rng mle) ⟨hnb2, fun ho => by have := h7.placed.own_lt ho; omega⟩ (fun j hj ho => by
                have e : nb = j := by simpa [Value.ownBlock] using hj
                have := h.placed.own_lt ho
                have := hk1.size
                have := hk3.size
                omega)) ?_
              rintro r w9 ⟨rfl, hout⟩
              obtain ⟨N', hG9, hn9, hk9⟩ := h8.outp hout (upd_len _ _ _ _ _ _) ok.reg ok.kept
              have hk19 : Kept (fun j => j = b ∨ j = k.bm ∨ N.own G.cs.length j) w1 w9 := (hk18.mono fun _ _ h => h.elim).trans (hk9.mono fun j _ hj => .inr (.inr hj))
              have hn19 := NExt.before hn9 hk18.size
              generalize updX A G.cs i (bs l) (byteF m) (G.s.r 4).n = ux at *
              obtain ⟨e, A', cs'⟩ := ux
              simp only at hG9 hn19 ⊢
              simp
              refine W_calm (by simp) (ret_of_T (minus_T w9 e)) fun w10 hk10 => ?_
              have h10 := hG9.calm hk10
              have hk110 := hk19.trans (hk10.mono fun _ _ h => h.elim)
              have g210 := hk110.has h2 (fun ho => by
                have := blk_lt h.mem
                rcases ho with h | h | ho
                · omega
                · omega
                · have := h.placed.own_lt ho; omega)
              simp
              refine W_store (by simp) (by simp) (store_val (v := minusOf e) g210) (stab_nil _ _ _) ?_
              simp [rval_row (put_same (o := .cells (minusOf e).arr 68) (blk_lt g210))]
              exact help_end h hk1 (by omega) (blk_lt h2) h10 hn19 hk110 (minusOf e)
            · rw [if_neg ht]
              simp [c54, ht]
              refine W_yes (by simp [c54, ht]) ?_
              simp
              refine W_store (by simp) (by simp) (store_val (v := RVal.zero) g28) (stab_nil _ _ _) ?_
              simp [rval_row (put_same (o := .cells RVal.zero.arr 68) (blk_lt g28))]
              exact help_none h ((hk1.trans hk18).putNew (by omega) _) _
end
end Go.Proofs.YtmfgdbapankamaaGreat
namespace Go.Proofs.YtmfgdbapankamaaGreat
open Go.Eng
section
variable {w : World} {b : Nat} {k : VK} {N : Names} {mv : Value} {G : GSt}
noncomputable def hpushOf (G : GSt) (i : Nat) (A : XMap) : Option (GSt × RVal) :=
  match gbytesOf G (G.s.r 2) A.vs with
  | none => none
  | some m => if linedX A = false ∨ A.frozen = true then none else if (G.s.r 3).tag = 1 then
      some ({ G with ms := G.ms.set i (pushX A G.cs i (byteF m) (G.s.r 3).n).2.1, cs := (pushX A G.cs i (byteF m) (G.s.r 3).n).2.2 }, minusOf (pushX A G.cs i (byteF m) (G.s.r 3).n).1) else none
theorem push_len (A : XMap) (cs : List XCell) (slot : Nat) (x : Nat → Int) (fl : Int) : cs.length ≤ (pushX A cs slot x fl).2.2.length := by
  unfold pushX
  repeat' split
  all_goals first | exact Nat.le_refl _ | simp
set_option maxHeartbeats 4000000 in
theorem hpush_ret (h : GAt w b k N mv G) (ok : GOk G) {i mb : Nat} {A : XMap} {M : BMap} (hA : G.ms[i]? = some A) (hq : N.mm[i]? = some (mb, M)) :
    Ret Tryz.prog 77 [.pointer (some ⟨b, 0, none⟩), .pointer (some ⟨mb, 0, none⟩)] w (HelpP b k N mv G w (hpushOf G i A)) := by
  refine ret_of_W Tryz.func77 rfl ok_vm_machine_add ?_
  have okA := ok.maps A (List.mem_of_getElem? hA)
  obtain ⟨s1, s2, s3, s4, s5, s6, s7, s8, s9, _⟩ := spec_facts okA
  have hb := blk_lt h.mach
  simp only [c_vm_machine_add, zero_val, W_seq]
  refine W_new' (v := .agg RVal.zero.arr) (cs := RVal.zero.arr) (by simp) rfl ?_
  have h2 := hp_new w (.cells RVal.zero.arr 68)
  have hk1 : Kept none' w (w.alloc (.cells RVal.zero.arr 68)) := (Kept.refl _ _).alloc _
  have hb2 : w.heap.size ≤ w.heap.size := Nat.le_refl _
  generalize hbb : w.heap.size = b2 at *
  generalize w.alloc (.cells RVal.zero.arr 68) = w1 at *
  simp only [W_set, W_seq]
  refine ok_intro (.bool false) (by simp) ?_
  refine W_chkIn [.pointer (some ⟨b, 0, none⟩)] (by simp) ?_
  have h1 := h.calm hk1
  obtain ⟨hm1, hl1⟩ := h1.placed.low hA hq
  try simp only [W_seq]
  refine W_calm (vs := [.pointer (some ⟨mb, 0, none⟩)]) (by simp) (ret_of_T (mspec_T hm1)) fun w3 hk3 => ?_
  have h3 := h1.calm hk3
  try simp only [W_seq]
  refine W_calmP (vs := [.pointer (some ⟨b, 0, none⟩), .int .i64 ((2 : Nat) : Int), .int .i64 (A.vs : Nat)]) (by simp [specArr, hl1.vs]) (mbytes_ret h3 ok 2 (by omega) (n := A.vs) (by omega)) ?_
  intro v w4 hk4 hv
  have h4 := h3.calm hk4
  have hk14 := hk3.trans hk4
  have hk04 := hk1.trans hk14
  have g2 := hk14.has h2 fun h => h
  unfold MBytP at hv
  unfold hpushOf
  generalize gbytesOf G (G.s.r 2) A.vs = o at *
  have c50 := mach_cell h4.mach 50 (by omega)
  have c51 := mach_cell h4.mach 51 (by omega)
  have e50 : (G.s.ren N.cb).cellAt k 50 = .int .i64 (G.s.r 3).tag := rfl
  have e51 : (G.s.ren N.cb).cellAt k 51 = .int .u64 (G.s.r 3).n := rfl
  rw [e50] at c50
  rw [e51] at c51
  cases o with
  | none =>
    simp only at hv ⊢
    subst hv
    simp
    refine W_no (by simp) ?_
    simp
    refine W_no (by simp) ?_
    simp
    refine W_yes (by simp [c50]) ?_
    simp
    refine W_store (by simp) (by simp) (store_val (v := RVal.zero) g2) (stab_nil _ _ _) ?_
    simp [rval_row (put_same (o := .cells RVal.zero.arr 68) (blk_lt g2))]
    exact help_none h (hk04.putNew (by omega) _) _
  | some m =>
    simp only at hv ⊢
    obtain ⟨g1, gle, nb, c, rfl, g3, g4, g5⟩ := hv
    have hm4 := (h4.placed.low hA hq).1
    simp
    refine W_yes (by simp) ?_
    refine W_calm (by simp) (ret_of_T (lined_T hm4)) fun w5 hk5 => ?_
    have h5 := h4.calm hk5
    have hk15 := hk14.trans hk5
    have hk05 := hk1.trans hk15
    have g25 := hk15.has h2 fun h => h
    have d50 := wcell_kept hk5 (fun h => h) c50
    have d51 := wcell_kept hk5 (fun h => h) c51
    have hlin : (decide (M.ty = 3) || decide (M.ty = 4)) = linedX A := by unfold linedX; rw [hl1.ty]
    rw [hlin]
    cases hlx : linedX A with
    | false =>
      simp
      refine W_no (by simp) ?_
      simp
      refine W_yes (by simp [d50]) ?_
      simp
      refine W_store (by simp) (by simp) (store_val (v := RVal.zero) g25) (stab_nil _ _ _) ?_
      simp [rval_row (put_same (o := .cells RVal.zero.arr 68) (blk_lt g25))]
      exact help_none h (hk05.putNew (by omega) _) _
    | true =>
      have hm5 := (h5.placed.low hA hq).1
      simp
      refine W_yes (by simp) ?_
      refine W_call0 (by simp) (frozen_ret mb M w5 hm5) ?_
      rintro v w6 ⟨rfl, rfl⟩
      rw [hl1.frozen]
      cases hfz : A.frozen with
      | true =>
        simp
        refine W_yes (by simp [d50]) ?_
        simp
        refine W_store (by simp) (by simp) (store_val (v := RVal.zero) g25) (stab_nil _ _ _) ?_
        simp [rval_row (put_same (o := .cells RVal.zero.arr 68) (blk_lt g25))]
        exact help_none h (hk05.putNew (by omega) _) _
      | false =>
        by_cases ht : (G.s.r 3).tag = 1
        · have hmx : ∀ (j x : Nat), m[j]? = some x → wcell w6 nb (0 + j) = some (.int .u8 x) := fun j x hj => by
            rw [Nat.zero_add]
            exact wcell_kept hk5 (fun h => h) (g5 j x hj)
          simp [ht]
          refine W_no (by simp [d50, ht]) ?_
          simp [d51]
          rw [← g1]
          refine W_call0 (vs := [.pointer (some ⟨mb, 0, none⟩), .slice (some ⟨nb, 0, none⟩) m.length c, .int .u64 (G.s.r 3).n]) (by simp [d51]) (ppush_ret h5.placed hA hq okA hfz (xo := 0) g1.symm gle hmx) ?_
          rintro r w9 ⟨rfl, hout⟩
          have hbf : (fun j => ((m.getD j 0 : Nat) : Int)) = byteF m := rfl
          rw [hbf] at hout ⊢
          obtain ⟨N', hG9, hn9, hk9⟩ := h5.outp hout (push_len _ _ _ _ _) ok.reg ok.kept
          have hk19 : Kept (fun j => j = b ∨ j = k.bm ∨ N.own G.cs.length j) w1 w9 := (hk15.mono fun _ _ h => h.elim).trans (hk9.mono fun j _ hj => .inr (.inr hj))
          have hn19 := NExt.before hn9 hk15.size
          generalize pushX A G.cs i (byteF m) (G.s.r 3).n = ux at *
          obtain ⟨e, A', cs'⟩ := ux
          simp only at hG9 hn19 ⊢
          simp
          refine W_calm (by simp) (ret_of_T (minus_T w9 e)) fun w10 hk10 => ?_
          have h10 := hG9.calm hk10
          have hk110 := hk19.trans (hk10.mono fun _ _ h => h.elim)
          have g210 := hk110.has h2 (fun ho => by
            have := blk_lt h.mem
            rcases ho with h | h | ho
            · omega
            · omega
            · have := h.placed.own_lt ho; omega)
          simp
          refine W_store (by simp) (by simp) (store_val (v := minusOf e) g210) (stab_nil _ _ _) ?_
          simp [rval_row (put_same (o := .cells (minusOf e).arr 68) (blk_lt g210))]
          exact help_end h hk1 (by omega) (blk_lt h2) h10 hn19 hk110 (minusOf e)
        · simp [ht]
          refine W_yes (by simp [d50, ht]) ?_
          simp
          refine W_store (by simp) (by simp) (store_val (v := RVal.zero) g25) (stab_nil _ _ _) ?_
          simp [rval_row (put_same (o := .cells RVal.zero.arr 68) (blk_lt g25))]
          exact help_none h (hk05.putNew (by omega) _) _
end
end Go.Proofs.YtmfgdbapankamaaGreat
set_option maxRecDepth 100000
namespace Go.Proofs.YtmfgdbapankamaaGreat
open Go.Eng
def VSt.init0 : VSt := ⟨fun _ => RVal.zero, 0, false, 0⟩
def initK (bm : Nat) : VK := ⟨.slice none 0 0, fun _ => 0, .slice none 0 0, 0, .slice none 0 0, 0, bm⟩
def initMach : Array Value := (VSt.init0.cells (initK 0)).setIfInBounds 37 (.pointer none)
def WorldArr (ctx : Nat → Int) (maps : Value) (clock : Int) (random : Value) (fuel : Int) : Array Value :=
  Array.ofFn (n := 36) fun i => if i.val < 32 then .int .u8 (ctx i.val) else if i.val = 32 then maps else if i.val = 33 then .int .u64 clock else if i.val = 34 then random else .int .i64 fuel
def zeroWorld : Array Value := WorldArr (fun _ => 0) (.slice none 0 0) 0 (.slice none 0 0) 0
def Ins.zero : Ins := ⟨0, 0, 0, 0, 0⟩
def codeArr (xs : List Ins) : Array Value := (xs.flatMap fun x => x.arr.toList).toArray
def Res (v p n e : Int) : Array Value := #[.int .u64 v, .int .i64 p, .int .i64 n, .int .i64 e]
def nc_vm_Run : Cmd :=
  (.seq
   (.seq
    (.new (some 3) 39 (.var 1) [])
   (.new (some 2) 36 (.const (.agg (Res 0 0 0 0))) []))
  (.seq
   (.seq
    .draw
   (.seq
    (.chk [(.var 0)])
   (.seq
    (.set 5 (.ld (some 36) (.var 3)))
   (.seq
    (.call (some 4) 16 [(.ld (some 32) (.offp 0 (.var 3))), (.ld none (.offp 32 (.var 3)))] [(.ld (some 36) (.var 3))])
   (.seq
    (.chk [(.upd 37 1 (.upd 1 36 (.upd 0 1 (.const (.agg initMach)) (.var 0)) (.var 5)) (.var 4))])
   (.seq
    (.new (some 6) 71 (.upd 37 1 (.upd 1 36 (.upd 0 1 (.const (.agg initMach)) (.var 0)) (.var 5)) (.var 4)) [])
   (.set 7 (.var 6))))))))
  (.seq
   (.seq
    (.chk [(.upd 0 1 (.const (.agg RVal.zero.arr)) (.const (.int .i64 2)))])
   (.store 4 (.ixArr 11 4 (.offp 38 (.nn (.var 7))) (.const (.int .i64 1))) (.upd 0 1 (.const (.agg RVal.zero.arr)) (.const (.int .i64 2))) []))
  (.seq
   (.seq
    (.chk [(.upd 0 1 (.const (.agg RVal.zero.arr)) (.const (.int .i64 3)))])
   (.store 4 (.ixArr 11 4 (.offp 38 (.nn (.var 7))) (.const (.int .i64 10))) (.upd 0 1 (.const (.agg RVal.zero.arr)) (.const (.int .i64 3))) []))
  (.seq
   (.set 8 (.mn (.mx (.ld none (.offp 35 (.var 3))) (.const (.int .i64 0))) (.const (.int .i64 4096))))
  (.seq
   (.seq
    (.seq
     (.set 10 (.var 8))
    (.set 9 (.const (.int .i64 0))))
   (.block 0
     (.loop [2, 7, 8, 9, 10]
       (.seq
        (.cond (.bin .lss (.var 9) (.var 10))
          .skip
          (.exit 0))
       (.seq
        (.block 1
          (.seq
           (.set 11 (.var 9))
          (.seq
           (.seq
            (.call (some 12) 17 [(.var 7)] [])
           (.cond (.un .not (.var 12))
             (.seq
              (.seq
               (.chk [(.upd 3 1 (.upd 2 1 (.upd 1 1 (.const (.agg (Res 0 0 0 0))) (.ld none (.offp 82 (.nn (.var 7))))) (.var 11)) (.const (.int .i64 14)))])
              (.store 4 (.var 2) (.upd 3 1 (.upd 2 1 (.upd 1 1 (.const (.agg (Res 0 0 0 0))) (.ld none (.offp 82 (.nn (.var 7))))) (.var 11)) (.const (.int .i64 14))) []))
             .ret)
             .skip))
          (.cond (.ld none (.offp 83 (.nn (.var 7))))
            (.seq
             (.seq
              .draw
             (.seq
              (.chk [(.upd 2 1 (.upd 1 1 (.upd 0 1 (.const (.agg (Res 0 0 0 0))) (.ld none (.offp 1 (.ixArr 11 4 (.offp 38 (.nn (.var 7))) (.const (.int .i64 0)))))) (.ld none (.offp 82 (.nn (.var 7))))) (.bin .add (.var 11) (.const (.int .i64 1))))])
             (.store 4 (.var 2) (.upd 2 1 (.upd 1 1 (.upd 0 1 (.const (.agg (Res 0 0 0 0))) (.ld none (.offp 1 (.ixArr 11 4 (.offp 38 (.nn (.var 7))) (.const (.int .i64 0)))))) (.ld none (.offp 82 (.nn (.var 7))))) (.bin .add (.var 11) (.const (.int .i64 1)))) [])))
            .ret)
            .skip))))
       (.set 9 (.bin .add (.var 9) (.const (.int .i64 1)))))))))
  (.seq
   (.seq
    (.chk [(.upd 3 1 (.upd 2 1 (.upd 1 1 (.const (.agg (Res 0 0 0 0))) (.ld none (.offp 82 (.nn (.var 7))))) (.var 8)) (.const (.int .i64 62)))])
   (.store 4 (.var 2) (.upd 3 1 (.upd 2 1 (.upd 1 1 (.const (.agg (Res 0 0 0 0))) (.ld none (.offp 82 (.nn (.var 7))))) (.var 8)) (.const (.int .i64 62))) []))
  .ret)))))))
abbrev nv_vm_Run : List Nat := [0, 1, 4, 3, 14, 9, 16, 5, 6, 32, 31, 7, 36]
abbrev nk_vm_Run : List (List Nat) := [[2, 7, 8, 9, 10]]
abbrev nr_vm_Run : List Ex := [(.ld (some 4) (.var 2))]
theorem nok_vm_Run : compile Tryz.prog Tryz.f5 nv_vm_Run nk_vm_Run = some (nc_vm_Run, nr_vm_Run) := by kernel_rfl
def nc_tipstafflaw20_runs : Cmd :=
  (.seq
   (.set 0 (.const (.bool false)))
  (.seq
   (.seq
    (.chk [(.upd 0 1 (.const (.agg Ins.zero.arr)) (.const (.int .u8 149))), (.upd 4 1 (.upd 0 1 (.const (.agg Ins.zero.arr)) (.const (.int .u8 183))) (.const (.int .i32 7)))])
   (.seq
    (.row (some 1) 74 2 (.upd 5 5 (.upd 0 5 (.const (.agg (codeArr (List.replicate 2 Ins.zero)))) (.upd 4 1 (.upd 0 1 (.const (.agg Ins.zero.arr)) (.const (.int .u8 183))) (.const (.int .i32 7)))) (.upd 0 1 (.const (.agg Ins.zero.arr)) (.const (.int .u8 149)))) [])
   (.set 2 (.var 1))))
  (.seq
   (.seq
    (.chk [(.upd 35 1 (.const (.agg zeroWorld)) (.const (.int .i64 2)))])
   (.seq
    (.call (some 3) 5 [(.var 2), (.upd 35 1 (.const (.agg zeroWorld)) (.const (.int .i64 2)))] [])
   (.seq
    (.chk [(.upd 35 1 (.const (.agg zeroWorld)) (.const (.int .i64 1)))])
   (.seq
    (.call (some 4) 5 [(.var 2), (.upd 35 1 (.const (.agg zeroWorld)) (.const (.int .i64 1)))] [])
   (.seq
    (.new (some 5) 36 (.const (.agg (Res 0 0 0 0))) [])
   (.seq
    (.new (some 6) 36 (.const (.agg (Res 0 0 0 0))) [])
   (.seq
    (.store 4 (.var 5) (.var 3) [])
   (.store 4 (.var 6) (.var 4) []))))))))
  (.seq
   (.seq
    (.chk [(.pick (.eqx false (.cons 0 none .int (.cons 1 none .int (.cons 2 none .int (.cons 3 none .int .nil)))) (.ld (some 4) (.var 5)) (.upd 2 1 (.upd 1 1 (.upd 0 1 (.const (.agg (Res 0 0 0 0))) (.const (.int .u64 7))) (.const (.int .i64 1))) (.const (.int .i64 2)))) (.eqx false (.cons 0 none .int (.cons 1 none .int (.cons 2 none .int (.cons 3 none .int .nil)))) (.ld (some 4) (.var 6)) (.upd 3 1 (.upd 2 1 (.upd 1 1 (.const (.agg (Res 0 0 0 0))) (.const (.int .i64 1))) (.const (.int .i64 1))) (.const (.int .i64 62)))) (.const (.bool false))), (.pick (.eqx false (.cons 0 none .int (.cons 1 none .int (.cons 2 none .int (.cons 3 none .int .nil)))) (.ld (some 4) (.var 5)) (.upd 2 1 (.upd 1 1 (.upd 0 1 (.const (.agg (Res 0 0 0 0))) (.const (.int .u64 7))) (.const (.int .i64 1))) (.const (.int .i64 2)))) (.eqx false (.cons 0 none .int (.cons 1 none .int (.cons 2 none .int (.cons 3 none .int .nil)))) (.ld (some 4) (.var 6)) (.upd 3 1 (.upd 2 1 (.upd 1 1 (.const (.agg (Res 0 0 0 0))) (.const (.int .i64 1))) (.const (.int .i64 1))) (.const (.int .i64 62)))) (.const (.bool false))), (.pick (.eqx false (.cons 0 none .int (.cons 1 none .int (.cons 2 none .int (.cons 3 none .int .nil)))) (.ld (some 4) (.var 5)) (.upd 2 1 (.upd 1 1 (.upd 0 1 (.const (.agg (Res 0 0 0 0))) (.const (.int .u64 7))) (.const (.int .i64 1))) (.const (.int .i64 2)))) (.upd 3 1 (.upd 2 1 (.upd 1 1 (.const (.agg (Res 0 0 0 0))) (.const (.int .i64 1))) (.const (.int .i64 1))) (.const (.int .i64 62))) (.const (.bool false))), (.pick (.eqx false (.cons 0 none .int (.cons 1 none .int (.cons 2 none .int (.cons 3 none .int .nil)))) (.ld (some 4) (.var 5)) (.upd 2 1 (.upd 1 1 (.upd 0 1 (.const (.agg (Res 0 0 0 0))) (.const (.int .u64 7))) (.const (.int .i64 1))) (.const (.int .i64 2)))) (.ld (some 4) (.var 6)) (.const (.bool false))), (.eqx false (.cons 0 none .int (.cons 1 none .int (.cons 2 none .int (.cons 3 none .int .nil)))) (.ld (some 4) (.var 5)) (.upd 2 1 (.upd 1 1 (.upd 0 1 (.const (.agg (Res 0 0 0 0))) (.const (.int .u64 7))) (.const (.int .i64 1))) (.const (.int .i64 2)))), (.eqx false (.cons 0 none .int (.cons 1 none .int (.cons 2 none .int (.cons 3 none .int .nil)))) (.ld (some 4) (.var 5)) (.upd 2 1 (.upd 1 1 (.upd 0 1 (.const (.agg (Res 0 0 0 0))) (.const (.int .u64 7))) (.const (.int .i64 1))) (.const (.int .i64 2)))), (.upd 2 1 (.upd 1 1 (.upd 0 1 (.const (.agg (Res 0 0 0 0))) (.const (.int .u64 7))) (.const (.int .i64 1))) (.const (.int .i64 2)))])
   (.set 0 (.pick (.eqx false (.cons 0 none .int (.cons 1 none .int (.cons 2 none .int (.cons 3 none .int .nil)))) (.ld (some 4) (.var 5)) (.upd 2 1 (.upd 1 1 (.upd 0 1 (.const (.agg (Res 0 0 0 0))) (.const (.int .u64 7))) (.const (.int .i64 1))) (.const (.int .i64 2)))) (.eqx false (.cons 0 none .int (.cons 1 none .int (.cons 2 none .int (.cons 3 none .int .nil)))) (.ld (some 4) (.var 6)) (.upd 3 1 (.upd 2 1 (.upd 1 1 (.const (.agg (Res 0 0 0 0))) (.const (.int .i64 1))) (.const (.int .i64 1))) (.const (.int .i64 62)))) (.const (.bool false)))))
  .ret))))
abbrev nv_tipstafflaw20_runs : List Nat := [0, 6, 1, 9, 12, 2, 3]
abbrev nk_tipstafflaw20_runs : List (List Nat) := []
abbrev nr_tipstafflaw20_runs : List Ex := [(.var 0)]
theorem nok_tipstafflaw20_runs : compile Tryz.prog Tryz.f6 nv_tipstafflaw20_runs nk_tipstafflaw20_runs = some (nc_tipstafflaw20_runs, nr_tipstafflaw20_runs) := by kernel_rfl
end Go.Proofs.YtmfgdbapankamaaGreat
set_option maxRecDepth 8000
namespace Go.Proofs.YtmfgdbapankamaaGreat
open Go.Eng
def vrun (xs : List Ins) (clock : Int) (us : List Int) : Nat → Nat → VSt → RMem → Int × Int × Int × Int
  | 0, n, s, _ => (0, s.pos, n, 62)
  | f + 1, n, s, m =>
    match vstep xs clock us s m with
    | none => (0, s.pos, n, 14)
    | some (s', m') => if s'.done = true then ((s'.r 0).n, s'.pos, (n : Int) + 1, 0) else vrun xs clock us f (n + 1) s' m'
def startSt : VSt := { VSt.init0 with r := fset (fset VSt.init0.r 1 { RVal.zero with tag := 2 }) 10 { RVal.zero with tag := 3 } }
def fuelOf (fuel : Int) : Nat := min fuel.toNat 4096
def runOf (xs : List Ins) (ctx : Nat → Int) (clock : Int) (us : List Int) (fuel : Int) (maps : Value) : Int × Int × Int × Int := vrun xs clock us (fuelOf fuel) 0 startSt (RMem.fresh ctx maps)
structure GoodSt (s : VSt) (m : RMem) : Prop where
  ok : SOk s
  luck : 0 ≤ s.luck
  mem : MOk m
  no : NoMaps m
theorem good_set {s s' : VSt} {m : RMem} (h : GoodSt s m) {d : Nat} {v : RVal} (hv : ROk v) (e : setOf s d v = some s') : GoodSt s' m ∧ s'.done = s.done := by
  unfold setOf at e
  split at e
  · cases e
  · cases e
    refine ⟨⟨fun i => ?_, h.luck, h.mem, h.no⟩, rfl⟩
    show ROk (fset s.r d v i)
    unfold fset
    split
    · exact hv
    · exact h.ok i
theorem wrap_u64_nonneg (z : Int) : 0 ≤ IntKind.u64.wrap z := by rw [IntKind.wrap_u64]; omega
theorem low32_nonneg {wide : Bool} {x : Int} (h : 0 ≤ x) : 0 ≤ low32 wide x := by
  unfold low32; split
  · exact h
  · exact wrap_u64_nonneg _
theorem plain_nonneg {op : Nat} {x y : Int} (hx : 0 ≤ x) (hy : 0 ≤ y) : 0 ≤ plainOf op x y := by
  unfold plainOf
  repeat' split
  all_goals first | exact wrap_u64_nonneg _ | exact hx | exact hy | omega | skip
  exact Int.tmod_nonneg _ hx
theorem shift_nonneg {op : Nat} {wide : Bool} {x y : Int} (hx : 0 ≤ x) : 0 ≤ shiftOf op wide x y := by
  unfold shiftOf
  simp only
  repeat' split
  all_goals first | exact wrap_u64_nonneg _ | skip
  all_goals
    rw [Int.fdiv_eq_ediv_of_nonneg _ (Int.pow_nonneg (by omega))]
    exact Int.ediv_nonneg hx (Int.pow_nonneg (by omega))
theorem eval_nonneg {op : Nat} {wide : Bool} {x y : Int} (hx : 0 ≤ x) (hy : 0 ≤ y) : 0 ≤ evalOf op wide x y := by
  unfold evalOf
  refine low32_nonneg ?_
  split
  · exact shift_nonneg (low32_nonneg hx)
  · exact plain_nonneg (low32_nonneg hx) (low32_nonneg hy)
theorem rok_further {v : RVal} (h : ROk v) (y : Int) : ROk (furth v y) := ⟨h.1, h.2.1, wrap_u64_nonneg _⟩
theorem rok_onPlace {op : Nat} {a b : RVal} (ha : ROk a) (hb : ROk b) : ROk (onPlaceOf op a b).1 := by
  unfold onPlaceOf
  repeat' split
  all_goals first | exact hb | exact rok_further ha _ | exact rok_further hb _ | exact rok_zero
theorem good_alu {s s' : VSt} {m : RMem} {x : Ins} {p : Parts} (h : GoodSt s m) (e : aluOf s x p = some s') : GoodSt s' m ∧ s'.done = s.done := by
  unfold aluOf at e
  simp only at e
  have kA : ROk (aluA p (s.r x.dst) (secondOf s x p.reg)) := rok_aluA (h.ok _)
  have kB : ROk (aluB p (secondOf s x p.reg)) := rok_aluB (rok_second h.ok x p.reg)
  split at e
  · exact good_set h (rok_num (eval_nonneg kA.2.2 kB.2.2)) e
  · split at e
    · exact good_set h (rok_onPlace kA kB) e
    · cases e
theorem good_step {xs : List Ins} {clock : Int} {us : List Int} {s s' : VSt} {m m' : RMem} (h : GoodSt s m) (hu : ∀ n ∈ us, 0 ≤ n) (hul : us.length < 4611686018427387904) (hcl : 0 ≤ clock) (hd : s.done = false)
    (e : vstep xs clock us s m = some (s', m')) : GoodSt s' m' ∧ m'.maps = m.maps := by
  unfold vstep at e
  split at e
  · cases e
  split at e
  · cases e
  rename_i x hx
  split at e
  · cases e
  generalize partsOf x.op = p at e
  have one : ∀ (o : Option VSt), (o.map fun q => (q, m)) = some (s', m') → (∀ q, o = some q → GoodSt q m ∧ q.done = s.done) → GoodSt s' m' ∧ m'.maps = m.maps := by
    intro o ho hq
    cases o with
    | none => cases ho
    | some q => cases ho; exact ⟨(hq _ rfl).1, rfl⟩
  have sav : ∀ (size : Int) (v : RVal), ROk v → saveStep s m x size v = some (s', m') → GoodSt s' m' ∧ m'.maps = m.maps := by
    intro size v hv ho
    unfold saveStep at ho
    split at ho
    · cases ho
      have hmm : (saveOf m (s.r x.dst) (IntKind.i64.wrap x.off) size v).1.maps = m.maps := by
        unfold saveOf saveS
        repeat' split
        all_goals rfl
      exact ⟨⟨h.ok, h.luck, mok_save h.mem _ _ _ hv, by unfold NoMaps; rw [hmm]; exact h.no⟩, hmm⟩
    · cases ho
  unfold vstep1 at e
  split at e
  · exact one _ e fun q hq => good_alu h hq
  split at e
  · refine one _ e fun q hq => ?_
    unfold jumpOf at hq
    repeat' split at hq
    all_goals first | cases hq
    all_goals exact ⟨⟨h.ok, h.luck, h.mem, h.no⟩, rfl⟩
  split at e
  · cases e
    exact ⟨⟨h.ok, h.luck, h.mem, h.no⟩, rfl⟩
  split at e
  · refine one _ e fun q hq => ?_
    unfold callOf at hq
    have key : ∀ o, helpOf s clock us x.imm = some o → ROk o.2 ∧ SOk o.1 ∧ 0 ≤ o.1.luck ∧ o.1.done = s.done := by
      intro o ho
      unfold helpOf at ho
      split at ho
      · cases ho; exact ⟨rok_num hcl, h.ok, h.luck, rfl⟩
      split at ho
      · cases ho
        unfold luckyOf
        split
        · rename_i n hn
          have hl : s.luck.toNat < us.length := (List.getElem?_eq_some_iff.1 hn).1
          refine ⟨rok_num (hu n (List.mem_of_getElem? hn)), h.ok, ?_, rfl⟩
          show 0 ≤ IntKind.i64.wrap (s.luck + 1)
          have := h.luck
          rw [i64w (by omega) (by omega)]
          omega
        · exact ⟨rok_num (by omega), h.ok, h.luck, rfl⟩
      · cases ho
    cases ho : helpOf s clock us x.imm with
    | none => rw [ho] at hq; cases hq
    | some o =>
      rw [ho] at hq
      cases hq
      obtain ⟨k1, k2, k3, k4⟩ := key o ho
      refine ⟨⟨fun i => ?_, k3, h.mem, h.no⟩, k4⟩
      show ROk (fset (clr5 o.1 6).r 0 o.2 i)
      unfold fset
      split
      · exact k1
      · show ROk (if 1 ≤ i ∧ i < 6 then RVal.zero else o.1.r i)
        split
        · exact rok_zero
        · exact k2 i
  split at e
  · split at e
    · cases e; exact ⟨⟨h.ok, h.luck, h.mem, h.no⟩, rfl⟩
    · cases e
  split at e
  · refine one _ e fun q hq => ?_
    unfold loadStep at hq
    split at hq
    · exact good_set h (rok_load h.mem _ _ _) hq
    · cases hq
  split at e
  · exact sav _ _ (rok_second h.ok x p.reg) e
  split at e
  · unfold atomicStep at e
    split at e
    · cases hn : atomN x.imm (loadOf m (s.r x.dst) (IntKind.i64.wrap x.off) p.size).1.n (s.r x.src).n with
      | none => rw [hn] at e; cases e
      | some n => rw [hn] at e; exact sav _ _ (rok_num (atomN_ok hn)) e
    · cases e
  · cases e
end Go.Proofs.YtmfgdbapankamaaGreat
