/- Layer 18: a step of any kind. -/
import Derived.Test.YtkgpmjjleemdlaaGreatVh4
import Derived.Test.YtkgpmjjleemdlaaGreatVf2
set_option linter.unusedSimpArgs false
set_option linter.unusedVariables false
set_option maxRecDepth 8000
namespace Go.Proofs.YtkgpmjjleemdlaaGreat
open Go.Eng Go.Sort
attribute [local irreducible] Go.Eng.W

def stepV (J : Jb) (ids : Int) (p : Nat) (s : AState) (x : Ins) : Option Ways × Int :=
  if kindOf x = 1 then (aluV J p s x (partsOf x.op), ids)
  else if kindOf x = 2 then (jumpV p s x (partsOf x.op), ids)
  else if kindOf x = 3 then (some [(jumpTo p x, s)], ids)
  else if kindOf x = 4 then callV J ids p s x
  else if kindOf x = 5 then (if (s.r 0).kind = 1 then some [] else none, ids)
  else if kindOf x = 6 then (loadV J p s x (partsOf x.op), ids)
  else if kindOf x = 7 then (saveV J p s x (partsOf x.op) (secondA s x (partsOf x.op).reg), ids)
  else if kindOf x = 8 then (atomV J p s x (partsOf x.op), ids)
  else if kindOf x = 9 then (wideV J p s x, ids)
  else (none, ids)
theorem step_fin {J : Jb} {w w7 w8 : World} {left : Value} {ids : Int} (hj : JAt J w left ids) (hk : Kept none' w w7) {o : Option Ways} {r : Value} (h : Told w7 o r w8 ∧ Kept none' w7 w8) :
    Told w o r w8 ∧ ChkAt w8 J.cb J.l J.specs J.frozen J.priv left J.mb ids ∧ Kept (fun j => j = J.cb) w w8 :=
  ⟨h.1.before hk.size, hj.chk.calm (hk.trans h.2), (hk.trans h.2).any⟩
set_option maxHeartbeats 8000000 in
theorem step_ret {J : Jb} {w : World} {left : Value} {ids : Int} (hj : JAt J w left ids) {p : Nat} (hp : p ≤ 1000) {s : AState} (hs : s.wf) {x : Ins} (hx : XOk x) (hxp : J.xs[p]? = some x) (h9 : kindOf x = 9 → ∃ y, J.xs[p + 1]? = some y) (hsp : ∀ y ∈ J.sp, 0 ≤ y.val ∧ y.val ≤ 1000000) :
    Ret Tryz.prog 36 [.pointer (some ⟨J.cb, 0, none⟩), .agg (wayArr p s)] w fun r w' => Told w (stepV J ids p s x).1 r w' ∧ ChkAt w' J.cb J.l J.specs J.frozen J.priv left J.mb (stepV J ids p s x).2 ∧ Kept (fun j => j = J.cb) w w' := by
  refine ret_of_W Tryz.func36 rfl ok_verify_checker_step ?_
  unfold stepV
  have hlt : p < J.xs.length := (List.getElem?_eq_some_iff.1 hxp).1
  have hlt' : (p : Int) < J.xs.length := by omega
  have hge : (0 : Int) ≤ p := by omega
  obtain ⟨b, off, c, ev, hrow⟩ := hj.code.at hxp
  simp only [c_verify_checker_step, W_seq, W_set]
  refine W_new' (v := .agg (wayArr p s)) (cs := wayArr p s) (by simp) rfl ?_
  have h4 : WayBox _ w.heap.size p s := hp_new w (.cells (wayArr p s) 76)
  have hk1 := (Kept.refl none' w).alloc (.cells (wayArr p s) 76)
  generalize hb4 : w.heap.size = b4 at *
  generalize (w.alloc (.cells (wayArr p s) 76)) = w1 at *
  simp only [W_seq, W_set]
  refine ok_intro (.slice none 0 0) (by simp) ?_
  try simp only [W_seq, W_set]
  refine ok_intro (.bool false) (by simp) ?_
  simp only [W_seq, W_draw]
  have hk2 : Kept none' w w1.drew := hk1.drew
  have h42 : WayBox w1.drew b4 p s := h4
  generalize w1.drew = w2 at *
  have hc2 := hj.chk.calm hk2
  have f0 : wcell w2 J.cb 0 = some (.slice (some ⟨b, off, none⟩) J.xs.length c) := by rw [wcell_of hc2.box, ← ev]; rfl
  have hrow2 : wrow w2 b (off + p * 5) 5 = some x.arr := wrow_mono hk2.le hrow
  simp only [W_seq, W_set]
  refine ok_intro (.slice (some ⟨b, off, none⟩) J.xs.length c) (by simp [f0]) ?_
  try simp only [W_seq, W_set]
  refine ok_intro (.int .i64 p) (by simp [h42.pos]) ?_
  try simp only [W_seq, W_set]
  refine ok_intro x.val (by simp [hlt', hge, hlt, hrow2]) ?_
  try simp only [W_seq]
  refine W_new' (v := Ins.zero.val) (cs := Ins.zero.arr) (by simp; try rfl) rfl ?_
  have hZ := hp_new w2 (.cells Ins.zero.arr 28)
  have hka := (Kept.refl none' w2).alloc (.cells Ins.zero.arr 28)
  generalize (w2.alloc (.cells Ins.zero.arr 28)) = w3 at *
  generalize hb5 : w2.heap.size = b5 at *
  have hs3 := box_store (v := x.val) hZ (n := 5) (by simp) (by simp [Value.cells]) (by exact ins_one _)
  try simp only [W_seq]
  refine W_store (vv := x.val) (by simp) (by simp) hs3 (stab_nil _ _ _) ?_
  have hxc : x.val.cells = x.arr := rfl
  rw [hxc]
  have hk4 := hka.putNew (show w2.heap.size ≤ b5 by omega) (.cells x.arr 28 (0, 0))
  have h54 : (Eng.put w3 b5 (.cells x.arr 28 (0, 0))).heap[b5]? = some (.cells x.arr 28 (0, 0)) := put_same (blk_lt hZ)
  generalize Eng.put w3 b5 (.cells x.arr 28 (0, 0)) = w4 at *
  have hk04 := hk2.trans hk4
  have h44 := h42.calm hk4
  have hc0 : wcell w4 b5 0 = some (.int .u8 x.op) := by rw [wcell_of h54]; rfl
  try simp only [W_seq]
  refine W_calm (by simp [hc0]) (ret_of_T (Of_T w4 hx.wf.op)) ?_
  intro w5 hk5
  have hk05 := hk04.trans hk5
  have hkz : Kept none' w5 w5 := Kept.refl _ _
  try simp only [W_seq]
  refine W_new' (v := Parts.zero.val) (cs := Parts.zero.arr) (by simp; try rfl) rfl ?_
  have hZ8 := hp_new w5 (.cells Parts.zero.arr 82)
  have hkb := (Kept.refl none' w5).alloc (.cells Parts.zero.arr 82)
  generalize (w5.alloc (.cells Parts.zero.arr 82)) = w6 at *
  generalize hb8 : w5.heap.size = b8 at *
  have hpc : (partsOf x.op).val.cells = (partsOf x.op).arr := rfl
  have hs8 := box_store (v := (partsOf x.op).val) hZ8 (n := 5) (by simp) (by simp [Value.cells]) (by rw [hpc]; exact parts_one _)
  try simp only [W_seq]
  refine W_store (vv := (partsOf x.op).val) (by simp) (by simp) hs8 (stab_nil _ _ _) ?_
  rw [hpc]
  have hk7 := hkb.putNew (show w5.heap.size ≤ b8 by omega) (.cells (partsOf x.op).arr 82 (0, 0))
  have h87 : (Eng.put w6 b8 (.cells (partsOf x.op).arr 82 (0, 0))).heap[b8]? = some (.cells (partsOf x.op).arr 82 (0, 0)) := put_same (blk_lt hZ8)
  generalize Eng.put w6 b8 (.cells (partsOf x.op).arr 82 (0, 0)) = w7 at *
  have hk07 := hk05.trans hk7
  have hk47 := hk5.trans hk7
  have h47 := h44.calm hk47
  have h57 := hk47.has h54 (fun h => h)
  have r4 := h47.all
  have r5 : wrow w7 b5 0 5 = some x.arr := wrow_box h57 (by simp)
  have r8 : wrow w7 b8 0 5 = some (partsOf x.op).arr := wrow_box h87 (by simp)
  have f8 : wcell w7 b8 0 = some (.int .i64 (kindOf x)) := by rw [wcell_of h87]; simp [kindOf]
  have f84 : wcell w7 b8 4 = some (.bool (partsOf x.op).reg) := by rw [wcell_of h87]; simp
  clear hs3 hs8 hZ hZ8
  simp only [W_seq, W_set]
  refine ok_intro (.int .i64 (kindOf x)) (by simp [f8]) ?_
  try simp only [W_seq]
  rw [W_block]
  simp only [W_seq, W_set]
  refine ok_intro (.bool (decide (kindOf x = 1))) (by simp) ?_
  simp
  by_cases k1 : kindOf x = 1
  · rw [if_pos k1]
    refine W_yes (by simp [k1]) ?_
    simp only [W_seq]
    refine W_call (by simp [r4, r5, r8]) (alu_ret (hj.calm hk07) p hs hx (partsOf x.op)) ?_
    rintro r w8 ht
    refine ⟨stab_nil _ _ _, ?_⟩
    obtain ⟨v, t, rfl, hv⟩ := ht.1.two
    have ht0 := step_fin hj hk07 ht
    simp [hv]
    exact ht0
  rw [if_neg k1]
  refine W_no (by simp [k1]) ?_
  simp
  by_cases k2 : kindOf x = 2
  · rw [if_pos k2]
    refine W_yes (by simp [k2]) ?_
    simp only [W_seq]
    refine W_call (by simp [r4, r5, r8]) (jump_ret (p := p) (s := s) (hj.calm hk07) (by omega) hx (partsOf x.op)) ?_
    rintro r w8 ht
    refine ⟨stab_nil _ _ _, ?_⟩
    obtain ⟨v, t, rfl, hv⟩ := ht.1.two
    have ht0 := step_fin hj hk07 ht
    simp [hv]
    exact ht0
  rw [if_neg k2]
  refine W_no (by simp [k2]) ?_
  simp
  by_cases k3 : kindOf x = 3
  · rw [if_pos k3]
    refine W_yes (by simp [k3]) ?_
    simp only [W_seq, W_draw]
    have hk08 : Kept none' w w7.drew := hk07.drew
    have h48 : WayBox w7.drew b4 p s := h47
    have r58 : wrow w7.drew b5 0 5 = some x.arr := r5
    generalize w7.drew = w8 at *
    simp only [W_seq, W_set]
    refine ok_intro (.agg (wayArr p s)) (by simp [h48.all]) ?_
    try simp only [W_seq]
    refine W_calm (vs := [.int .i64 p, x.val]) (by simp [h48.pos, r58]) (ret_of_T (target_T w8 p (by omega) hx.wf)) ?_
    intro w9 hk9
    have ht : (p : Int) + x.off + 1 = jumpTo p x := rfl
    rw [ht]
    generalize jumpTo p x = T at *
    simp only [W_seq]
    refine W_calm (vs := [.agg (wayArr p s), .int .i64 T]) (by simp) (ret_of_T (wto_T w9 p T s)) ?_
    intro w10 hk10
    simp only [W_seq]
    refine W_row' (v := .agg (wayArr T s)) (cs := wayArr T s) (by simp [way_all]) rfl ?_
    have hk010 := (hk08.trans hk9).trans hk10
    simp
    exact ⟨told_one (hp_new w10 _) hk010.size, hj.chk.calm (hk010.alloc _), (hk010.alloc _).any⟩
  rw [if_neg k3]
  refine W_no (by simp [k3]) ?_
  simp
  by_cases k4 : kindOf x = 4
  · rw [if_pos k4]
    refine W_yes (by simp [k4]) ?_
    simp only [W_seq]
    refine W_call (by simp [r4, r5]) (call_ret (hj.calm hk07) hsp p s hx) ?_
    rintro r w8 ht
    refine ⟨stab_nil _ _ _, ?_⟩
    obtain ⟨v, t, rfl, hv⟩ := ht.1.two
    simp [hv]
    exact ⟨ht.1.before hk07.size, ht.2.1, hk07.any.trans ht.2.2⟩
  rw [if_neg k4]
  refine W_no (by simp [k4]) ?_
  simp
  by_cases k5 : kindOf x = 5
  · rw [if_pos k5]
    refine W_yes (by simp [k5]) ?_
    simp only [W_seq, W_draw]
    have hk08 : Kept none' w w7.drew := hk07.drew
    have h48 : WayBox w7.drew b4 p s := h47
    generalize w7.drew = w8 at *
    have g0 : wcell w8 b4 1 = some (.int .i64 (s.r 0).kind) := h48.kind0
    by_cases hr : (s.r 0).kind = 1
    · rw [if_pos hr]
      simp [g0, hr]
      exact ⟨⟨_, rfl, ways_nil _, fun b hb => by simp [Value.ownBlock] at hb, rfl⟩, hj.chk.calm hk08, hk08.any⟩
    · rw [if_neg hr]
      simp [g0, hr]
      exact ⟨⟨_, rfl, rfl⟩, hj.chk.calm hk08, hk08.any⟩
  rw [if_neg k5]
  refine W_no (by simp [k5]) ?_
  simp
  by_cases k6 : kindOf x = 6
  · rw [if_pos k6]
    refine W_yes (by simp [k6]) ?_
    simp only [W_seq]
    refine W_call (by simp [r4, r5, r8]) (load_ret (hj.calm hk07) p s hx (partsOf x.op)) ?_
    rintro r w8 ht
    refine ⟨stab_nil _ _ _, ?_⟩
    obtain ⟨v, t, rfl, hv⟩ := ht.1.two
    have ht0 := step_fin hj hk07 ht
    simp [hv]
    exact ht0
  rw [if_neg k6]
  refine W_no (by simp [k6]) ?_
  simp
  by_cases k7 : kindOf x = 7
  · rw [if_pos k7]
    refine W_yes (by simp [k7]) ?_
    simp only [W_seq, W_draw]
    have hk08 : Kept none' w w7.drew := hk07.drew
    have h48 : WayBox w7.drew b4 p s := h47
    have r58 : wrow w7.drew b5 0 5 = some x.arr := r5
    have r88 : wrow w7.drew b8 0 5 = some (partsOf x.op).arr := r8
    have f88 : wcell w7.drew b8 4 = some (.bool (partsOf x.op).reg) := f84
    generalize w7.drew = w8 at *
    refine W_chkIn [.pointer (some ⟨J.cb, 0, none⟩)] (by simp) ?_
    simp only [W_seq, W_set]
    refine ok_intro (.agg (wayArr p s)) (by simp [h48.all]) ?_
    try simp only [W_seq, W_set]
    refine ok_intro (.agg x.arr) (by simp [r58]) ?_
    try simp only [W_seq, W_set]
    refine ok_intro (.agg (partsOf x.op).arr) (by simp [r88]) ?_
    try simp only [W_seq]
    have t2 := second_T w8 s hx.wf hx.src (partsOf x.op).reg
    refine W_calm (vs := [s.val, x.val, .bool (partsOf x.op).reg]) (by simp [h48.state, r58, f88, AState.val]) (ret_of_T t2) ?_
    intro w9 hk9
    simp only [W_seq]
    refine W_call (by simp [AReg.val]) (vsave_ret (hj.calm (hk08.trans hk9)) p s hx (partsOf x.op) (secondA s x (partsOf x.op).reg)) ?_
    rintro r w10 ht
    refine ⟨stab_nil _ _ _, ?_⟩
    obtain ⟨v, t, rfl, hv⟩ := ht.1.two
    have ht0 := step_fin hj (hk08.trans hk9) ht
    simp [hv]
    exact ht0
  rw [if_neg k7]
  refine W_no (by simp [k7]) ?_
  simp
  by_cases k8 : kindOf x = 8
  · rw [if_pos k8]
    refine W_yes (by simp [k8]) ?_
    simp only [W_seq]
    refine W_call (by simp [r4, r5, r8]) (atom_ret (hj.calm hk07) p s hx (partsOf x.op)) ?_
    rintro r w8 ht
    refine ⟨stab_nil _ _ _, ?_⟩
    obtain ⟨v, t, rfl, hv⟩ := ht.1.two
    have ht0 := step_fin hj hk07 ht
    simp [hv]
    exact ht0
  rw [if_neg k8]
  refine W_no (by simp [k8]) ?_
  simp
  by_cases k9 : kindOf x = 9
  · rw [if_pos k9]
    refine W_yes (by simp [k9]) ?_
    obtain ⟨y, hy⟩ := h9 k9
    simp only [W_seq]
    refine W_call (by simp [r4, r5]) (wide_ret (hj.calm hk07) hp s hx hy) ?_
    rintro r w8 ht
    refine ⟨stab_nil _ _ _, ?_⟩
    obtain ⟨v, t, rfl, hv⟩ := ht.1.two
    have ht0 := step_fin hj hk07 ht
    simp [hv]
    exact ht0
  rw [if_neg k9]
  refine W_no (by simp [k9]) ?_
  simp
  exact ⟨⟨_, rfl, rfl⟩, hj.chk.calm hk07, hk07.any⟩
end Go.Proofs.YtkgpmjjleemdlaaGreat

set_option linter.unusedSimpArgs false
set_option linter.unusedVariables false
set_option maxRecDepth 8000
namespace Go.Proofs.YtkgpmjjleemdlaaGreat
open Go.Eng Go.Sort
attribute [local irreducible] Go.Eng.W

theorem indexS_any {v : Value} {ss : List AState} {g : FuncId} {cap : Array Value} (w : World) (h : StatesAt w v ss) (hn : ss.length ≤ 100000) (hg : funOk Tryz.prog g = true) (F : AState → Bool)
    (hcl : ∀ s ∈ ss, ∀ w', Kept none' w w' → Ret Tryz.prog g (.agg s.arr :: cap.toList) w' fun r w'' => r = .bool (F s) ∧ Kept none' w' w'') :
    Ret Tryz.prog 89 [v, .func (.func g) #[] cap] w fun r w' => (∃ i : Int, r = .int .i64 i ∧ decide (0 ≤ i) = ss.any F) ∧ Kept none' w w' := by
  refine ret_of_W Tryz.func89 rfl ok_vfs_IndexFunc ?_
  have hl := rowLen h
  have hv := rowVar h
  simp only [c_vfs_IndexFunc, W_seq, W_set]
  refine ok_intro (.int .i64 0) (by simp) ?_
  try simp only [W_seq, W_set]
  refine ok_intro (.int .i64 ss.length) (by simp [hl, hv]) ?_
  try simp only [W_seq, W_set]
  refine ok_intro (.int .i64 0) (by simp) ?_
  try simp only [W_seq]
  rw [W_block]
  refine W_loop (fun env w' => Kept none' w w' ∧ ∃ i : Nat, i ≤ ss.length ∧ (∀ (j : Nat) (s : AState), j < i → ss[j]? = some s → F s = false) ∧ env = [v, .func (.func g) #[] cap, undef, .int .i64 (i : Nat), .int .i64 ss.length, undef, undef]) (fun env _ => ss.length - natAt env 3) ?_ ?_
  · exact ⟨Kept.refl _ _, 0, by omega, fun j s hj => by omega, by simp [hv]⟩
  rintro env w1 ⟨hk1, i, hi, hall, rfl⟩
  simp only [W_seq]
  by_cases hgo : i < ss.length
  · have hgo' : (i : Int) < ss.length := by omega
    have hge : (0 : Int) ≤ i := by omega
    have e1 := i64_succ (j := i) (by omega)
    have hx : ss[i]? = some ss[i] := List.getElem?_eq_getElem hgo
    have hm := List.mem_of_getElem? hx
    generalize ss[i] = y at *
    have h1 : StatesAt w1 v ss := rowCalm h hk1
    obtain ⟨q, c, rfl, hc⟩ := h1.at hx
    refine W_yes (by simp [hgo']) ?_
    simp only [W_skip, W_seq, W_block, W_set]
    refine ok_intro (.int .i64 i) (by simp) ?_
    try simp only [W_seq]
    refine W_dyn (g := g) (first := #[]) (cap := cap) (by simp) (vs := [.agg y.arr]) (by simp [hge, hgo', hgo, hc]) hg (by simpa using hcl y hm w1 hk1) ?_
    rintro r w2 ⟨rfl, hk2⟩
    refine ⟨stab_nil _ _ _, ?_⟩
    cases hF : F y with
    | true =>
      refine W_yes (by simp) ?_
      simp
      refine ⟨?_, hk1.trans hk2⟩
      have : ss.any F = true := List.any_eq_true.2 ⟨y, hm, hF⟩
      simpa using List.any_eq_true.1 this
    | false =>
      refine W_no (by simp) ?_
      simp [e1, -Int.natCast_add]
      refine ⟨⟨hk1.trans hk2, i + 1, by omega, ?_, rfl⟩, by simp [natAt]; omega⟩
      intro j s hj hjs
      by_cases e : j = i
      · subst e
        rw [hx] at hjs
        cases hjs
        exact hF
      · exact hall j s (by omega) hjs
  · have hie : i = ss.length := by omega
    subst hie
    refine W_no (by simp [hl, hv]) ?_
    simp
    refine ⟨?_, hk1⟩
    intro s hs
    obtain ⟨j, hj⟩ := List.mem_iff_getElem?.1 hs
    exact hall j s (List.getElem?_eq_some_iff.1 hj).1 hj
theorem containsS_any {v : Value} {ss : List AState} {g : FuncId} {cap : Array Value} (w : World) (h : StatesAt w v ss) (hn : ss.length ≤ 100000) (hg : funOk Tryz.prog g = true) (F : AState → Bool)
    (hcl : ∀ s ∈ ss, ∀ w', Kept none' w w' → Ret Tryz.prog g (.agg s.arr :: cap.toList) w' fun r w'' => r = .bool (F s) ∧ Kept none' w' w'') :
    Ret Tryz.prog 48 [v, .func (.func g) #[] cap] w fun r w' => r = .bool (ss.any F) ∧ Kept none' w w' := by
  refine ret_of_W Tryz.func48 rfl ok_vfs_ContainsFunc ?_
  have hv := rowVar h
  simp only [c_vfs_ContainsFunc, W_seq, W_set]
  refine ok_intro (.bool false) (by simp) ?_
  try simp only [W_seq]
  refine W_call (by simp [hv]) (indexS_any w h hn hg F hcl) ?_
  rintro r w1 ⟨⟨i, rfl, hi⟩, hk1⟩
  refine ⟨stab_nil _ _ _, ?_⟩
  simp [hi]
  exact hk1
theorem gone1_ret (w : World) {b : Nat} {p : Int} {s : AState} (hb : WayBox w b p s) (t : AState) (ht : t.wf) :
    Ret Tryz.prog 49 [.agg t.arr, .pointer (some ⟨b, 0, none⟩)] w fun r w' => r = .bool (coversS t s) ∧ Kept none' w w' := by
  refine ret_of_W Tryz.func49 rfl ok_verify_checker_gone_1 ?_
  simp only [c_verify_checker_gone_1, W_seq, W_set]
  refine W_new' (v := .agg t.arr) (cs := t.arr) (by simp) rfl ?_
  have h3 := SBox.new w t
  have hk1 := (Kept.refl none' w).alloc (.cells t.arr 73)
  have hb1 := hb.calm hk1
  generalize hb3 : w.heap.size = b3 at *
  generalize (w.alloc (.cells t.arr 73)) = w1 at *
  simp only [W_seq, W_set]
  refine ok_intro (.bool false) (by simp) ?_
  try simp only [W_seq]
  refine W_calm (vs := [t.val, s.val]) (by simp [h3.row, hb1.state, AState.val]) (ret_of_T (Covers_T w1 t s ht)) ?_
  intro w2 hk2
  simp
  exact hk1.trans hk2
theorem gone_ret {w : World} {cb mb p : Nat} {l specs frozen left : Value} {priv : Bool} {ids : Int} {f : Nat → Option Value} {ss : List AState} (s : AState) (hc : ChkAt w cb l specs frozen priv left mb ids) (hm : MapN w mb f) (hs : SeenAt w f p ss) (hn : ss.length ≤ 100000)
    (hwf : ∀ t ∈ ss, t.wf) :
    Ret Tryz.prog 35 [.pointer (some ⟨cb, 0, none⟩), .agg (wayArr p s)] w fun r w' => r = .bool (ss.any fun t => coversS t s) ∧ Kept none' w w' := by
  refine ret_of_W Tryz.func35 rfl ok_verify_checker_gone ?_
  simp only [c_verify_checker_gone, W_seq, W_set]
  refine W_new' (v := .agg (wayArr p s)) (cs := wayArr p s) (by simp) rfl ?_
  have h3 : WayBox _ w.heap.size p s := hp_new w (.cells (wayArr p s) 76)
  have hk1 := (Kept.refl none' w).alloc (.cells (wayArr p s) 76)
  generalize hb3 : w.heap.size = b3 at *
  generalize (w.alloc (.cells (wayArr p s) 76)) = w1 at *
  simp only [W_seq, W_set]
  refine ok_intro (.bool false) (by simp) ?_
  simp only [W_seq, W_draw]
  have hk2 : Kept none' w w1.drew := hk1.drew
  have h32 : WayBox w1.drew b3 p s := h3
  generalize w1.drew = w2 at *
  refine W_chkIn [.func (.func 49) #[] #[.pointer (some ⟨b3, 0, none⟩)]] (by simp) ?_
  try simp only [W_seq]
  have hm2 := hm.calm hk2
  have hc2 := hc.calm hk2
  have f5 : wcell w2 cb 5 = some (.map (some mb)) := by rw [wcell_of hc2.box]; rfl
  refine W_sem (vs := [.map (some mb), .int .i64 p]) (by simp [f5, h32.pos]) (run_look Tryz.underlying59 Tryz.underlying3 (by kernel_rfl) hm2 (z := .slice none 0 0)) (stab_nil _ _ _) ?_
  have hs2 : StatesAt w2 ((f p).getD (.slice none 0 0)) ss := rowCalm hs hk2
  have hvv := rowVar hs2
  try simp only [W_seq]
  refine W_calm (by simp [hvv]; try rfl) (containsS_any w2 hs2 hn (by kernel_rfl) (fun t => coversS t s) fun t ht w' hk => gone1_ret w' (h32.calm hk) t (hwf t ht)) ?_
  intro w3 hk3
  simp
  exact hk2.trans hk3
/-- A job of Jb's, with so many Maybes. -/
def Jb.job (J : Jb) (ids : Int) : Job := ⟨J.cb, J.mb, J.l, J.specs, J.frozen, J.priv, ids, J.xs⟩
theorem RunInv.step {J : Jb} {ids ids' : Int} {w0 w w' : World} {f : Nat → Option Value} {seen : Nat → List AState} {left : Value} (h : RunInv (J.job ids) w0 w f seen left) (hc : ChkAt w' J.cb J.l J.specs J.frozen J.priv left J.mb ids') (hk : Kept (fun j => j = J.cb) w w') :
    RunInv (J.job ids') w0 w' f seen left := by
  have hbox := h.chk.box
  refine ⟨h.kept.then hk fun j hj e => ?_, hc, h.map.keep hk ?_, fun p => rowKeep (h.seen p) hk ?_, h.own, h.apart, h.lown, h.cb, h.mb⟩
  · have h1 : w0.heap.size ≤ J.cb := h.cb
    subst e
    omega
  · exact fun e => map_ne h.map hbox e.symm
  · intro i hi e
    obtain ⟨c, h2⟩ := row_block (h.seen p) hi
    subst e
    rw [show w.heap[J.cb]? = _ from hbox] at h2
    injection h2 with h2
    injection h2 with _ h2
    exact absurd h2 (by decide)
/-- A run of all ways, and what it tells: the place, the steps, the error. The last way is the list's first. -/
inductive Runs (J : Jb) (most : Nat) : (Nat → List AState) → Int → Nat → Ways → Int → Nat → Int → Prop
  | fin {seen : Nat → List AState} {ids : Int} {n : Nat} : Runs J most seen ids n [] 0 n 0
  | gone {seen : Nat → List AState} {ids : Int} {n p : Nat} {s : AState} {left : Ways} {a e : Int} {m : Nat} (hc : ((seen p).any fun t => coversS t s) = true) (hr : Runs J most seen ids n left a m e) : Runs J most seen ids n (((p : Nat), s) :: left) a m e
  | big {seen : Nat → List AState} {ids : Int} {n p : Nat} {s : AState} {left : Ways} (hn : n = most) (hc : ((seen p).any fun t => coversS t s) = false) : Runs J most seen ids n (((p : Nat), s) :: left) p n 7
  | bad {seen : Nat → List AState} {ids : Int} {n p : Nat} {s : AState} {left : Ways} {x : Ins} (hn : n < most) (hc : ((seen p).any fun t => coversS t s) = false) (hw : s.wf) (hx : J.xs[p]? = some x) (hs : (stepV J ids p s x).1 = none) : Runs J most seen ids n (((p : Nat), s) :: left) p (n + 1) 13
  | on {seen : Nat → List AState} {ids : Int} {n p : Nat} {s : AState} {left : Ways} {x : Ins} {L : Ways} {a e : Int} {m : Nat} (hn : n < most) (hc : ((seen p).any fun t => coversS t s) = false) (hw : s.wf) (hx : J.xs[p]? = some x) (hs : (stepV J ids p s x).1 = some L) (hL : L.length ≤ 2)
      (hr : Runs J most (seenPut seen p s) (stepV J ids p s x).2 (n + 1) (L.reverse ++ left) a m e) : Runs J most seen ids n (((p : Nat), s) :: left) a m e
end Go.Proofs.YtkgpmjjleemdlaaGreat

set_option linter.unusedSimpArgs false
set_option linter.unusedVariables false
set_option maxRecDepth 8000
namespace Go.Proofs.YtkgpmjjleemdlaaGreat
open Go.Eng Go.Sort
attribute [local irreducible] Go.Eng.W

/-- What all instructions of a job are. -/
def JobOk (J : Jb) : Prop := (∀ p x, J.xs[p]? = some x → XOk x ∧ (kindOf x = 9 → ∃ y, J.xs[p + 1]? = some y)) ∧ J.xs.length ≤ 256 ∧ ∀ y ∈ J.sp, 0 ≤ y.val ∧ y.val ≤ 1000000
/-- Cells of ways, the last one first in the list. -/
def backCells (L : Ways) : List (List Value) := L.reverse.map fun x => (wayArr x.1 x.2).toList
theorem back_len (L : Ways) : (backCells L).length = L.length := by simp [backCells]
theorem back_all (L : Ways) : ∀ y ∈ backCells L, y.length = 274 := fun y hy => by
  obtain ⟨x, _, rfl⟩ := List.mem_map.1 hy
  simp
theorem back_cons (p : Int) (s : AState) (L : Ways) : backCells ((p, s) :: L) = backCells L ++ [(wayArr p s).toList] := by simp [backCells]
theorem back_app (L M : Ways) : (backCells (L.reverse ++ M)).flatten = (backCells M).flatten ++ wayCells L := by simp [backCells, wayCells]
theorem back_flat (L : Ways) : (backCells L).flatten.length = L.length * 274 := by rw [flat_len _ (back_all L), back_len]
def LeftAt (w : World) (v : Value) (L : Ways) : Prop := WaysAt w v L.length (backCells L).flatten
def RunV (J : Jb) (w0 : World) (b2 b3 most : Nat) (a : Int) (m : Nat) (e : Int) (w : World) (n : Nat) : Prop :=
  ∃ left f seen ids L, RunInv (J.job ids) w0 w f seen left ∧ Reps w b2 b3 ∧ (∀ p, (seen p).length ≤ n) ∧ (∀ p, ∀ t ∈ seen p, t.wf) ∧ LeftAt w left L ∧ L.length ≤ n + 1 ∧ Runs J most seen ids n L a m e
def leftLen (cb : Nat) (w : World) : Nat := match wcell w cb 4 with
  | some (.slice _ n _) => n
  | _ => 0
theorem left_len {w : World} {cb mb : Nat} {l specs frozen left : Value} {priv : Bool} {ids : Int} (hc : ChkAt w cb l specs frozen priv left mb ids) {n : Nat} {xs : List Value} (h : WaysAt w left n xs) : leftLen cb w = n := by
  have f4 : wcell w cb 4 = some left := by rw [wcell_of hc.box]; rfl
  unfold leftLen
  rw [f4]
  rcases h.2 with ⟨rfl, rfl⟩ | ⟨g, cap, cur, rfl, _⟩ <;> rfl
theorem row_pop {T : TypeId} {k n g c : Nat} {w : World} {xs ys : List Value} (h : Row T k w (.slice (some ⟨g, 0, none⟩) (n + 1) c) (n + 1) (xs ++ ys)) (hx : xs.length = n * k) : Row T k w (.slice (some ⟨g, 0, none⟩) n c) n xs := by
  refine ⟨hx, ?_⟩
  rcases h.2 with ⟨h, _⟩ | ⟨g', cap, cur, e, hb, h2, h3, h4, h5, h6⟩
  · cases h
  · cases e
    refine .inr ⟨g, c, cur, rfl, hb, h2, by omega, h4, h5, ?_⟩
    have hle : n * k ≤ (n + 1) * k := Nat.mul_le_mul_right _ (by omega)
    have h7 : cur.toList.take (n * k) = (cur.toList.take ((n + 1) * k)).take (n * k) := by rw [List.take_take, Nat.min_eq_left hle]
    rw [h7, h6, ← hx, List.take_left']
    rfl
theorem ways_append {w : World} {g n c : Nat} {xs : List Value} {v : Value} {L : Ways} (h1 : WaysAt w (.slice (some ⟨g, 0, none⟩) n c) n xs) (h2 : WaysIs w v L) (hn : n + L.length ≤ 1000000) :
    ∃ v' w', (builtin .append #[60, 60] 60 #[] #[.slice (some ⟨g, 0, none⟩) n c, v]).run Tryz.prog w = .ok (.value v') w' ∧ WaysAt w' v' (n + L.length) (xs ++ wayCells L) ∧ Kept (fun j => j = g) w w' ∧ (v'.ownBlock = some g ∨ v'.ownBlock = some w.heap.size) := by
  have hc : n ≤ c := by
    rcases h1.2 with ⟨h, _⟩ | ⟨g', cap, cur, e, _, _, h3, _⟩
    · cases h
    · cases e; exact h3
  have hone : ∀ y ∈ wayCells L, y.oneCell' = true := by
    intro y hy
    unfold wayCells at hy
    obtain ⟨l, hl, hy⟩ := List.mem_flatten.1 hy
    obtain ⟨x, _, rfl⟩ := List.mem_map.1 hl
    have := way_one x.1 x.2
    rw [← Array.all_toList] at this
    exact List.all_eq_true.1 this y hy
  rcases h2.2 with ⟨rfl, h0⟩ | ⟨g2, cap, cur, rfl, hb, h3, h4, h5, h6, h7⟩
  · have hL : L = [] := List.length_eq_zero_iff.1 h0
    subst hL
    refine ⟨_, _, append_none Tryz.underlying60 (by kernel_rfl) ⟨g, 0, none⟩ n c hc w, ?_, Kept.refl _ _, .inl rfl⟩
    have e : xs ++ wayCells [] = xs := by simp [wayCells]
    rw [e]
    exact h1
  · have hlen := wayCells_len L
    obtain ⟨v', w', happ, hrow, hk, hat⟩ := row_append (P := Tryz.prog) (t := 60) (k := 274) Tryz.underlying60 (by kernel_rfl) (by omega) (sb := g2) (so := 0) (c := cap) (m := L.length) (ys := wayCells L) h1 hn hlen
      (fun j y hj => by
        rw [Nat.zero_add, wcell_of h3]
        rw [← h7, List.getElem?_take] at hj
        split at hj
        · simpa using hj
        · cases hj) hone
    refine ⟨v', w', happ, hrow, hk.mono fun j _ e => ?_, ?_⟩
    · simp [Value.ownBlock] at e; exact e.symm
    · rcases hat with e | e
      · exact .inl (by rw [e]; rfl)
      · exact .inr e
set_option maxHeartbeats 8000000 in
theorem runs_ret (J : Jb) (hJ : JobOk J) (w0 w : World) (most : Nat) (hmost : most ≤ 10000) (hsl : SlIs w0 J.l J.xs) (hsp : SpecsAt w0 J.specs J.sp) (hfr : FrozAt w0 J.frozen J.fz) {f : Nat → Option Value} {left : Value} (h : RunInv (J.job 0) w0 w f (fun _ => []) left) {L : Ways}
    {a : Int} {m : Nat} {e : Int} (hl : LeftAt w left L) (hL : L.length ≤ 1) (hg : Runs J most (fun _ => []) 0 0 L a m e) {b3 : Nat} (hb3 : RepBox w b3) :
    Ret Tryz.prog 20 [.pointer (some ⟨J.cb, 0, none⟩), .int .i64 most] w fun r w' => r = .tuple #[.agg #[.int .i64 a, .int .i64 m], .int .i64 e] ∧ Kept none' w0 w' ∧ RepBox w' b3 := by
  refine ret_of_W Tryz.func20 rfl ok_verify_checker_run ?_
  obtain ⟨hX, hXl, hsv⟩ := hJ
  simp only [c_verify_checker_run, W_seq, W_set]
  refine W_new' (v := .agg #[.int .i64 0, .int .i64 0]) (cs := #[.int .i64 0, .int .i64 0]) (by simp) rfl ?_
  have hR : Reps _ w.heap.size b3 := ⟨hp_new w (.cells #[.int .i64 0, .int .i64 0] 32), hp_old hb3 _⟩
  have hne3 : b3 ≠ w.heap.size := by have := blk_lt hb3; omega
  have hk1 := (Kept.refl none' w).alloc (.cells #[.int .i64 0, .int .i64 0] 32)
  have h1 := h.calm hk1
  have hl1 : LeftAt _ left L := rowCalm hl hk1
  have hb2 : w0.heap.size ≤ w.heap.size := h.kept.size
  generalize (w.alloc (.cells #[.int .i64 0, .int .i64 0] 32)) = w1 at *
  generalize w.heap.size = b2 at *
  simp only [W_seq, W_set]
  refine ok_intro (.int .i64 0) (by simp) ?_
  try simp only [W_seq, W_set]
  refine ok_intro (.int .i64 0) (by simp) ?_
  try simp only [W_seq]
  rw [W_block]
  refine W_loop (fun env w' => ∃ n : Nat, n ≤ most ∧ RunV J w0 b2 b3 most a m e w' n ∧
    env = [.pointer (some ⟨J.cb, 0, none⟩), .int .i64 most, .pointer (some ⟨b2, 0, none⟩), undef, .int .i64 n, undef, undef, undef, undef, undef, undef, undef, undef, undef, undef, undef, undef, undef, undef, undef, undef]) (fun env w' => 3 * (most + 1 - natAt env 4) + leftLen J.cb w') ?_ ?_
  · exact ⟨0, by omega, ⟨left, f, fun _ => [], 0, L, h1, hR, fun p => by simp, fun p t ht => (by cases ht), hl1, by omega, hg⟩, by simp⟩
  clear hR h1 hl1 hk1 hl hg h hL
  rintro env w2 ⟨n, hnm, ⟨left, f, seen, ids, L, h2, hR2, hlen, hswf, hl2, hLn, hg2⟩, rfl⟩
  have f4 : wcell w2 J.cb 4 = some left := by rw [wcell_of (show w2.heap[J.cb]? = _ from h2.chk.box)]; rfl
  have hmeas : leftLen J.cb w2 = L.length := left_len h2.chk hl2
  rw [hmeas]
  simp only [W_seq]
  cases L with
  | cons ps L =>
    obtain ⟨p, s⟩ := ps
    have hpn : ∃ p' : Nat, p = (p' : Nat) := by cases hg2 <;> exact ⟨_, rfl⟩
    obtain ⟨p, rfl⟩ := hpn
    have hl2' : WaysAt w2 left (L.length + 1) (backCells ((((p : Nat) : Int), s) :: L)).flatten := hl2
    obtain ⟨g, c, rfl, hr7⟩ : ∃ g c, left = .slice (some ⟨g, 0, none⟩) (L.length + 1) c ∧ wrow w2 g (L.length * 274) 274 = some (wayArr (p : Nat) s) := by
      have := row_wrow (L := backCells ((((p : Nat) : Int), s) :: L)) hl2' (back_all _) (by rw [back_len]; rfl) (i := L.length) (l := (wayArr (p : Nat) s).toList) (by rw [back_cons, List.getElem?_append_right (by rw [back_len]; omega), back_len]; simp)
      simpa using this
    have hll := rowLen hl2'
    have hlk : (0 : Int) < ((L.length + 1 : Nat) : Int) := by omega
    have hlk2 : ((L.length : Nat) : Int) < ((L.length + 1 : Nat) : Int) := by omega
    have hlk3 : (0 : Int) ≤ ((L.length : Nat) : Int) := by omega
    have hLn' : L.length + 1 ≤ n + 1 := hLn
    refine W_yes (by simp [f4, -Int.natCast_add, hlk]) ?_
    simp only [W_skip, W_seq, W_block, W_set]
    have e0 : IntKind.i64.wrap (((L.length + 1 : Nat) : Int) - 1) = (L.length : Nat) := by rw [i64w (by omega) (by omega)]; omega
    refine ok_intro (.int .i64 L.length) (by simp [f4, e0, -Int.natCast_add]) ?_
    try simp only [W_seq, W_set]
    refine ok_intro (.agg (wayArr (p : Nat) s)) (by simp [f4, hr7, hlk2, hlk3, -Int.natCast_add]) ?_
    try simp only [W_seq]
    refine W_new' (v := .agg (wayArr 0 AState.zero)) (cs := wayArr 0 AState.zero) (by simp) rfl ?_
    have h6 : WayBox _ w2.heap.size 0 AState.zero := hp_new w2 (.cells (wayArr 0 AState.zero) 76)
    have hk3 := (Kept.refl none' w2).alloc (.cells (wayArr 0 AState.zero) 76)
    generalize hb6 : w2.heap.size = b6 at *
    generalize (w2.alloc (.cells (wayArr 0 AState.zero) 76)) = w3 at *
    have hs3 := box_store (v := .agg (wayArr (p : Nat) s)) h6 (n := 274) (by simp) (by exact way_size _ _) (by exact way_one _ _)
    try simp only [W_seq]
    refine W_store (vv := .agg (wayArr (p : Nat) s)) (by simp) (by simp) hs3 (stab_nil _ _ _) ?_
    have hwc : (Value.agg (wayArr (p : Nat) s)).cells = wayArr (p : Nat) s := rfl
    rw [hwc]
    have hk4 := hk3.putNew (Nat.le_of_eq hb6) (.cells (wayArr (p : Nat) s) 76 (0, 0))
    have h64 := WayBox.put (blk_lt h6) (p : Nat) s
    generalize Eng.put w3 b6 (.cells (wayArr (p : Nat) s) 76 (0, 0)) = w4 at *
    have h4 := h2.calm hk4
    have hl4 : WaysAt w4 (.slice (some ⟨g, 0, none⟩) (L.length + 1) c) (L.length + 1) _ := rowCalm hl2' hk4
    have hR4 : Reps w4 b2 b3 := hR2.keep hk4 fun j _ h => h
    have hbox4 : w4.heap[J.cb]? = _ := h4.chk.box
    have g4 : wcell w4 J.cb 4 = some (.slice (some ⟨g, 0, none⟩) (L.length + 1) c) := by rw [wcell_of hbox4]; rfl
    clear hs3 h6 hk3 f4 hr7
    have hcL : L.length + 1 ≤ c := by
      rcases hl4.2 with ⟨h, _⟩ | ⟨g', cap, cur, e, _, _, h3, _⟩
      · cases h
      · cases e; exact h3
    have hcL' : L.length ≤ c := by omega
    have hcLi : ((L.length : Nat) : Int) ≤ (c : Int) := by omega
    obtain ⟨w5, (hs5 : stv w4 1 (.pointer (some ⟨J.cb, 4, none⟩)) _ = some w5), h5, hk5⟩ := h4.setleft (v := .slice (some ⟨g, 0, none⟩) L.length c) rfl rfl (fun b hb => h4.lown b hb)
    try simp only [W_seq]
    refine W_store (xv := .pointer (some ⟨J.cb, 4, none⟩)) (vv := .slice (some ⟨g, 0, none⟩) L.length c) (by simp) (by simp [g4, hcL', hcLi, hlk3]) hs5 (stab_nil _ _ _) ?_
    rw [back_cons, List.flatten_append] at hl4
    have hl4' : WaysAt w4 (.slice (some ⟨g, 0, none⟩) L.length c) L.length (backCells L).flatten := row_pop hl4 (back_flat L)
    have hgc : ∀ j, (Value.slice (some ⟨g, 0, none⟩) L.length c).ownBlock = some j → j ≠ J.cb := fun j hj => by
      obtain ⟨cc, hcc⟩ := row_block hl4' hj
      exact blk_ne hcc hbox4 (by decide)
    have h6c : b6 ≠ J.cb := blk_ne h64 hbox4 (by decide)
    have hl5 : WaysAt w5 (.slice (some ⟨g, 0, none⟩) L.length c) L.length (backCells L).flatten := rowKeep hl4' hk5 hgc
    have h65 : WayBox w5 b6 p s := hk5.has h64 h6c
    have hR5 : Reps w5 b2 b3 := hR4.keep hk5 fun j hj => blk_ne hj hbox4 (by decide)
    try simp only [W_seq]
    refine W_calm (vs := [.pointer (some ⟨J.cb, 0, none⟩), .agg (wayArr (p : Nat) s)]) (by simp [h65.all]) (gone_ret (cb := J.cb) s h5.chk h5.map (h5.seen p) (by have := hlen p; omega) (hswf p)) ?_
    intro w6 hk6
    have h6' := h5.calm hk6
    have h66 := h65.calm hk6
    have hR6 : Reps w6 b2 b3 := hR5.keep hk6 fun j _ h => h
    have hl6 : WaysAt w6 (.slice (some ⟨g, 0, none⟩) L.length c) L.length (backCells L).flatten := rowCalm hl5 hk6
    clear hk5 hs5 hl4 hl5 hR4 hR5 h64 h65 h4 h5 g4 hk4 hl4' hbox4
    generalize hcv : ((seen p).any fun t => coversS t s) = cv at *
    cases cv with
    | true =>
      refine W_yes (by simp) ?_
      have hr : Runs J most seen ids n L a m e := by
        cases hg2 with
        | gone hc hr => exact hr
        | big hn hc => rw [hcv] at hc; cases hc
        | bad hn hc => rw [hcv] at hc; cases hc
        | on hn hc => rw [hcv] at hc; cases hc
      have hm6 : leftLen J.cb w6 = L.length := left_len h6'.chk hl6
      simp [hm6]
      exact ⟨n, hnm, ⟨_, _, _, _, _, h6', hR6, hlen, hswf, hl6, by omega, hr⟩, rfl⟩
    | false =>
    refine W_no (by simp) ?_
    simp only [W_skip, W_seq]
    by_cases hbig : n = most
    · refine W_yes (by simp [hbig]) ?_
      have hres : a = (p : Nat) ∧ m = n ∧ e = 7 := by
        cases hg2 with
        | gone hc hr => rw [hcv] at hc; cases hc
        | big => exact ⟨rfl, rfl, rfl⟩
        | bad h => omega
        | on h => omega
      obtain ⟨rfl, rfl, rfl⟩ := hres
      simp only [W_seq]
      refine W_chkIn [.agg #[.int .i64 (p : Nat), .int .i64 (m : Nat)]] (by simp [h66.pos]) ?_
      have hs7 := box_store (v := .agg #[.int .i64 (p : Nat), .int .i64 (m : Nat)]) hR6.1 (n := 2) rfl rfl (by simp [Value.cells, Value.oneCell'])
      simp only [W_seq]
      refine W_store (vv := .agg #[.int .i64 (p : Nat), .int .i64 (m : Nat)]) (by simp) (by simp [h66.pos]) hs7 (stab_nil _ _ _) ?_
      have hrr : wrow (Eng.put w6 b2 (.cells #[.int .i64 (p : Nat), .int .i64 (m : Nat)] 32 (0, 0))) b2 0 2 = some #[.int .i64 (p : Nat), .int .i64 (m : Nat)] := wrow_box (put_same (blk_lt hR6.1)) rfl
      have hcc : (Value.agg #[.int .i64 ((p : Nat) : Int), .int .i64 ((m : Nat) : Int)]).cells = #[.int .i64 (p : Nat), .int .i64 (m : Nat)] := rfl
      rw [hcc]
      simp [hrr]
      exact ⟨h6'.kept.putNew hb2 _, (put_other hne3).trans hR6.2⟩
    have hlt : n < most := by omega
    refine W_no (by simp; omega) ?_
    simp only [W_skip, W_seq, W_draw]
    have h7 : RunInv (J.job ids) w0 w6.drew f seen (.slice (some ⟨g, 0, none⟩) L.length c) := h6'.calm (Kept.refl _ _).drew
    have h67 : WayBox w6.drew b6 p s := h66
    have hR7 : Reps w6.drew b2 b3 := hR6
    have hl7 : WaysAt w6.drew (.slice (some ⟨g, 0, none⟩) L.length c) L.length (backCells L).flatten := hl6
    generalize w6.drew = w7 at *
    clear hk6 h6' h66 hR6 hl6
    have f5 : wcell w7 J.cb 5 = some (.map (some J.mb)) := by rw [wcell_of (show w7.heap[J.cb]? = _ from h7.chk.box)]; rfl
    have hml := h7.map.lt
    simp only [W_seq, W_set]
    refine ok_intro (.map (some J.mb)) (by simp [f5]) ?_
    try simp only [W_seq, W_set]
    refine ok_intro (.int .i64 p) (by simp [h67.pos]) ?_
    try simp only [W_seq, W_set]
    refine ok_intro (.map (some J.mb)) (by simp [f5]) ?_
    try simp only [W_seq, W_set]
    refine ok_intro (.int .i64 p) (by simp [h67.pos]) ?_
    try simp only [W_seq, W_set]
    refine ok_intro (.agg s.arr) (by simp [h67.state]) ?_
    try simp only [W_seq]
    obtain ⟨v12, w8, w9, happ, hupd, h9, hv12, hk79, hk78⟩ := h7.note p s (by have := hlen p; omega)
    have hS : ∀ j, (∃ v, f p = some v ∧ v.ownBlock = some j) → ∃ cc, w7.heap[j]? = some (.cells cc 73 (0, 0)) := by
      rintro j ⟨v, hf, hv⟩
      have := h7.seen p
      rw [hf] at this
      exact row_block this hv
    have hk7a := (Kept.refl none' w7).alloc (.cells s.arr 73)
    have h68 : WayBox w8 b6 p s := hk78.has (hk7a.has h67 fun h => h) fun e => by
      obtain ⟨cc, hcc⟩ := hS _ e
      exact blk_ne h67 hcc (by decide) rfl
    have hc8 : ChkAt w8 J.cb J.l J.specs J.frozen J.priv (.slice (some ⟨g, 0, none⟩) L.length c) J.mb ids := (h7.chk.calm hk7a).keep hk78 fun e => by
      obtain ⟨cc, hcc⟩ := hS _ e
      exact blk_ne h7.chk.box hcc (by decide) rfl
    have f58 : wcell w8 J.cb 5 = some (.map (some J.mb)) := by rw [wcell_of hc8.box]; rfl
    have h67a : WayBox (w7.alloc (.cells s.arr 73)) b6 p s := hk7a.has h67 fun h => h
    have f5a : wcell (w7.alloc (.cells s.arr 73)) J.cb 5 = some (.map (some J.mb)) := by rw [wcell_of (show (w7.alloc (.cells s.arr 73)).heap[J.cb]? = _ from (h7.chk.calm hk7a).box)]; rfl
    have h69 : WayBox w9 b6 p s := hk79.has h67 fun e => by
      rcases e with e | e
      · exact map_ne h7.map h67 e
      · obtain ⟨cc, hcc⟩ := hS _ e
        exact blk_ne h67 hcc (by decide) rfl
    have hR9 : Reps w9 b2 b3 := hR7.keep hk79 fun j hj e => by
      rcases e with e | e
      · exact map_ne h7.map hj e
      · obtain ⟨cc, hcc⟩ := hS _ e
        exact blk_ne hj hcc (by decide) rfl
    have hl9 : WaysAt w9 (.slice (some ⟨g, 0, none⟩) L.length c) L.length (backCells L).flatten := rowKeep hl7 hk79 fun i hi e => by
      obtain ⟨cb, hcb⟩ := row_block hl7 hi
      rcases e with e | e
      · exact map_ne h7.map hcb e
      · obtain ⟨cc, hcc⟩ := hS _ e
        exact blk_ne hcb hcc (by decide) rfl
    have hvv := rowVar (h7.seen p)
    have hwf := way_setstate 0 AState.zero s
    refine W_cut (fun env' w' => w' = w9 ∧ env' = [.pointer (some ⟨J.cb, 0, none⟩), .int .i64 most, .pointer (some ⟨b2, 0, none⟩), undef, .int .i64 n, .int .i64 L.length, .pointer (some ⟨b6, 0, none⟩), .agg (wayArr (p : Nat) s), .bool false,
      (f p).getD (.slice none 0 0), .agg s.arr, .slice (some ⟨w7.heap.size, 0, none⟩) 1 1, v12, .map (some J.mb), .int .i64 p, .map (some J.mb), .int .i64 p, undef, undef, undef, undef]) ?_ ?_
    · have hlook := run_look Tryz.underlying59 Tryz.underlying3 (by kernel_rfl) h7.map (n := p) (z := .slice none 0 0)
      have hlook2 := run_look Tryz.underlying59 Tryz.underlying3 (by kernel_rfl) (h7.map.calm hk7a) (n := p) (z := .slice none 0 0)
      rw [W_alt]
      refine ⟨?_, ?_⟩
      · simp only [W_seq]
        refine W_sem (vs := [.map (some J.mb), .int .i64 p]) (by simp) hlook (fun e he v hv => hv) ?_
        try simp only [W_seq]
        refine W_row' (v := .agg s.arr) (cs := s.arr) (by simp [setRow_all]) rfl ?_
        try simp only [W_seq]
        refine W_bi (vs := [(f p).getD (.slice none 0 0), .slice (some ⟨w7.heap.size, 0, none⟩) 1 1]) (by simp [hvv]) happ ?_ ?_
        · exact stab_two (u := .int .i64 p) (v := .map (some J.mb)) (by simp [h67a.pos]) (by simp [h68.pos]) (by simp [f5a]) (by simp [f58])
        try simp only [W_seq]
        refine W_sem (vs := [.map (some J.mb), .int .i64 p, v12]) (by simp [hv12]) hupd (stab_nil _ _ _) ?_
        simp
      · simp only [W_seq]
        refine W_row' (v := .agg s.arr) (cs := s.arr) (by simp [setRow_all]) rfl ?_
        try simp only [W_seq]
        refine W_sem (vs := [.map (some J.mb), .int .i64 p]) (by simp) hlook2 (fun e he v hv => hv) ?_
        try simp only [W_seq]
        refine W_bi (vs := [(f p).getD (.slice none 0 0), .slice (some ⟨w7.heap.size, 0, none⟩) 1 1]) (by simp [hvv]) happ ?_ ?_
        · exact stab_two (u := .int .i64 p) (v := .map (some J.mb)) (by simp [h67a.pos]) (by simp [h68.pos]) (by simp [f5a]) (by simp [f58])
        try simp only [W_seq]
        refine W_sem (vs := [.map (some J.mb), .int .i64 p, v12]) (by simp [hv12]) hupd (stab_nil _ _ _) ?_
        simp
    rintro env' w' ⟨rfl, rfl⟩
    clear happ hupd hk79 hk78 hS hk7a h68 hc8 f58 h67a f5a hvv hwf f5 hml h7 h67 hR7 hl7
    have e1 := i64_succ (j := n) (by omega)
    simp only [W_seq, W_set]
    refine ok_intro (.int .i64 ((n + 1 : Nat) : Int)) (by simp [e1, -Int.natCast_add]) ?_
    try simp only [W_seq]
    have hkw := h9.kept
    have hlen' : ∀ q, (seenPut seen p s q).length ≤ n + 1 := fun q => by
      unfold seenPut
      split
      · have := hlen p; simp; omega
      · have := hlen q; omega
    obtain ⟨x, hxp, hw⟩ : ∃ x, J.xs[p]? = some x ∧ s.wf := by
      cases hg2 with
      | gone hc hr => rw [hcv] at hc; cases hc
      | big hn hc => omega
      | bad hn hc hw hx => exact ⟨_, hx, hw⟩
      | on hn hc hw hx => exact ⟨_, hx, hw⟩
    have hswf' : ∀ q, ∀ t ∈ seenPut seen p s q, t.wf := fun q t ht => by
      unfold seenPut at ht
      split at ht
      · rw [List.mem_append, List.mem_singleton] at ht
        rcases ht with ht | rfl
        · exact hswf p t ht
        · exact hw
      · exact hswf q t ht
    have hpl := (List.getElem?_eq_some_iff.1 hxp).1
    obtain ⟨hxo, hx9⟩ := hX p x hxp
    have hj9 : JAt J w' (.slice (some ⟨g, 0, none⟩) L.length c) ids := ⟨h9.chk, hsl.calm hkw, hsp.calm hkw, hfr.calm hkw⟩
    refine W_call (vs := [.pointer (some ⟨J.cb, 0, none⟩), .agg (wayArr (p : Nat) s)]) (by simp [h69.all]) (step_ret hj9 (by omega) hw hxo hxp hx9 hsv) ?_
    rintro r w10 ⟨htold, hc10, hk10⟩
    refine ⟨stab_nil _ _ _, ?_⟩
    have hbox9 : w'.heap[J.cb]? = _ := h9.chk.box
    have h10 := h9.step hc10 hk10
    have h610 : WayBox w10 b6 p s := hk10.has h69 (blk_ne h69 hbox9 (by decide))
    have hR10 : Reps w10 b2 b3 := hR9.keep hk10 fun j hj => blk_ne hj hbox9 (by decide)
    have hl10 : WaysAt w10 (.slice (some ⟨g, 0, none⟩) L.length c) L.length (backCells L).flatten := rowKeep hl9 hk10 fun i hi => by
      obtain ⟨cb, hcb⟩ := row_block hl9 hi
      exact blk_ne hcb hbox9 (by decide)
    generalize hst : stepV J ids p s x = st at *
    obtain ⟨o, ids'⟩ := st
    cases o with
    | none =>
      have hres : a = (p : Nat) ∧ m = n + 1 ∧ e = 13 := by
        cases hg2 with
        | gone hc hr => rw [hcv] at hc; cases hc
        | big hn => omega
        | bad => exact ⟨rfl, rfl, rfl⟩
        | on hn hc hw hx hs =>
          rw [hxp] at hx
          cases hx
          rw [hst] at hs
          cases hs
      obtain ⟨rfl, rfl, rfl⟩ := hres
      obtain ⟨v18, rfl, hv18⟩ := htold
      simp only [W_seq]
      refine W_chkIn [.bool false] (by simp) ?_
      simp only [W_seq, W_set]
      refine ok_intro v18 (by simp [hv18]) ?_
      try simp only [W_seq, W_set]
      refine ok_intro (.bool false) (by simp) ?_
      refine W_yes (by simp) ?_
      simp only [W_seq]
      refine W_chkIn [.agg #[.int .i64 (p : Nat), .int .i64 ((n + 1 : Nat) : Int)]] (by simp [h610.pos, -Int.natCast_add]) ?_
      have hs7 := box_store (v := .agg #[.int .i64 (p : Nat), .int .i64 ((n + 1 : Nat) : Int)]) hR10.1 (n := 2) rfl rfl (by simp [Value.cells, Value.oneCell'])
      simp only [W_seq]
      refine W_store (vv := .agg #[.int .i64 (p : Nat), .int .i64 ((n + 1 : Nat) : Int)]) (by simp) (by simp [h610.pos, -Int.natCast_add]) hs7 (stab_nil _ _ _) ?_
      have hrr : wrow (Eng.put w10 b2 (.cells #[.int .i64 (p : Nat), .int .i64 ((n + 1 : Nat) : Int)] 32 (0, 0))) b2 0 2 = some #[.int .i64 (p : Nat), .int .i64 ((n + 1 : Nat) : Int)] := wrow_box (put_same (blk_lt hR10.1)) rfl
      have hcc : (Value.agg #[.int .i64 ((p : Nat) : Int), .int .i64 ((n + 1 : Nat) : Int)]).cells = #[.int .i64 (p : Nat), .int .i64 ((n + 1 : Nat) : Int)] := rfl
      rw [hcc]
      simp [hrr, -Int.natCast_add]
      exact ⟨h10.kept.putNew hb2 _, (put_other hne3).trans hR10.2⟩
    | some M =>
      obtain ⟨hM2, hr⟩ : M.length ≤ 2 ∧ Runs J most (seenPut seen p s) ids' (n + 1) (M.reverse ++ L) a m e := by
        cases hg2 with
        | gone hc hr => rw [hcv] at hc; cases hc
        | big hn => omega
        | bad hn hc hw hx hs =>
          rw [hxp] at hx
          cases hx
          rw [hst] at hs
          cases hs
        | on hn hc hw hx hs hL hr =>
          rw [hxp] at hx
          cases hx
          rw [hst] at hs hr
          cases hs
          exact ⟨hL, hr⟩
      obtain ⟨v18, rfl, hways, hown18, hv18⟩ := htold
      have f10 : wcell w10 J.cb 4 = some (.slice (some ⟨g, 0, none⟩) L.length c) := by rw [wcell_of (show w10.heap[J.cb]? = _ from h10.chk.box)]; rfl
      simp only [W_seq]
      refine W_chkIn [.bool true] (by simp) ?_
      simp only [W_seq, W_set]
      refine ok_intro v18 (by simp [hv18]) ?_
      try simp only [W_seq, W_set]
      refine ok_intro (.bool true) (by simp) ?_
      refine W_no (by simp) ?_
      simp only [W_skip, W_seq]
      obtain ⟨v20, w11, happ, hrow, hk11, hat⟩ := ways_append hl10 hways (by omega)
      refine W_bi (vs := [.slice (some ⟨g, 0, none⟩) L.length c, v18]) (by simp [f10, hv18]) happ (stab_nil _ _ _) ?_
      have hv20 := rowVar hrow
      have hgo : ∀ b, v20.ownBlock = some b → w0.heap.size ≤ b := by
        intro b hb
        rcases hat with e | e
        · rw [e] at hb; exact h10.lown b hb
        · rw [e] at hb; injection hb with hb; have := h10.kept.size; omega
      have hlS : ∃ cc, w10.heap[g]? = some (.cells cc 76 (0, 0)) := row_block hl10 rfl
      obtain ⟨ccg, hccg⟩ := hlS
      have hg0 : w0.heap.size ≤ g := h10.lown g rfl
      have h11 : RunInv (J.job ids') w0 w11 (fput f p v12) (seenPut seen p s) (.slice (some ⟨g, 0, none⟩) L.length c) := by
        refine ⟨h10.kept.then hk11 fun j hj e => by subst e; omega, h10.chk.keep hk11 fun e => ?_, h10.map.keep hk11 fun e => ?_, fun q => rowKeep (h10.seen q) hk11 fun i hi e => ?_, h10.own, h10.apart, h10.lown, h10.cb, h10.mb⟩
        · exact blk_ne h10.chk.box hccg (by decide) e
        · exact map_ne h10.map hccg e.symm
        · obtain ⟨c2, hc2⟩ := row_block (h10.seen q) hi
          exact blk_ne hc2 hccg (by decide) e
      have hR11 : Reps w11 b2 b3 := hR10.keep hk11 fun j hj e => blk_ne hj hccg (by decide) e
      obtain ⟨w12, (hs12 : stv w11 1 (.pointer (some ⟨J.cb, 4, none⟩)) _ = some w12), h12, hk12⟩ := h11.setleft (v := v20) (rowCells hrow) (rowOne hrow) hgo
      refine W_store (xv := .pointer (some ⟨J.cb, 4, none⟩)) (vv := v20) (by simp) (by simp [hv20]) hs12 (stab_nil _ _ _) ?_
      have hbox11 : w11.heap[J.cb]? = _ := h11.chk.box
      have hR12 : Reps w12 b2 b3 := hR11.keep hk12 fun j hj => blk_ne hj hbox11 (by decide)
      have hl12 : LeftAt w12 v20 (M.reverse ++ L) := by
        unfold LeftAt
        rw [back_app, List.length_append, List.length_reverse, Nat.add_comm]
        exact rowKeep hrow hk12 fun i hi => by
          obtain ⟨cb, hcb⟩ := row_block hrow hi
          exact blk_ne hcb hbox11 (by decide)
      have hm12 : leftLen J.cb w12 = (M.reverse ++ L).length := left_len h12.chk hl12
      rw [List.length_append, List.length_reverse] at hm12
      simp [-Int.natCast_add, hm12]
      exact ⟨⟨n + 1, by omega, ⟨_, _, _, _, _, h12, hR12, hlen', hswf', hl12, by rw [List.length_append, List.length_reverse]; omega, hr⟩, rfl⟩, by simp [natAt]; omega⟩
  | nil =>
    have hres : a = 0 ∧ m = n ∧ e = 0 := by
      cases hg2
      exact ⟨rfl, rfl, rfl⟩
    obtain ⟨rfl, rfl, rfl⟩ := hres
    have hl2' : WaysAt w2 left 0 [] := hl2
    have hll := rowLen hl2'
    have hvl := rowVar hl2'
    refine W_no (by simp [f4, hll, hvl]) ?_
    simp only [W_skip, W_exit, Wx_exit_c, Wx_exit_post, Wx_exit_blk, W_seq, W_set, if_true, if_false]
    refine W_chkIn [.agg #[.int .i64 0, .int .i64 m]] (by simp) ?_
    have hs7 := box_store (v := .agg #[.int .i64 0, .int .i64 m]) hR2.1 (n := 2) rfl rfl (by simp [Value.cells, Value.oneCell'])
    try simp only [W_seq]
    refine W_store (vv := .agg #[.int .i64 0, .int .i64 m]) (by simp) (by simp) hs7 (stab_nil _ _ _) ?_
    have hrr : wrow (Eng.put w2 b2 (.cells #[.int .i64 0, .int .i64 m] 32 (0, 0))) b2 0 2 = some #[.int .i64 0, .int .i64 m] := wrow_box (put_same (blk_lt hR2.1)) rfl
    have hcc : (Value.agg #[.int .i64 0, .int .i64 ((m : Nat) : Int)]).cells = #[.int .i64 0, .int .i64 m] := rfl
    rw [hcc]
    simp [hrr]
    exact ⟨h2.kept.putNew hb2 _, (put_other hne3).trans hR2.2⟩
end Go.Proofs.YtkgpmjjleemdlaaGreat

set_option linter.unusedSimpArgs false
set_option linter.unusedVariables false
set_option maxRecDepth 8000
namespace Go.Proofs.YtkgpmjjleemdlaaGreat
open Go.Eng Go.Sort
attribute [local irreducible] Go.Eng.W

theorem kindR_wf (k : Int) : (kindR k).wf := ⟨zero_wf, by simp [kindR], by simp [kindR], by simp [kindR], by simp [kindR]⟩
theorem zeroS_wf : AState.zero.wf := ⟨fun _ _ => areg0_wf, fun _ _ => areg0_wf⟩
theorem start_wf : AState.start.wf := setR_wf (setR_wf zeroS_wf 1 (kindR_wf 2)) 10 (kindR_wf 3)
set_option maxHeartbeats 2000000 in
theorem vcheckV_ret {xs : List Ins} {d : Array Int} {lo : Bool} (ht : Tame xs) (hn : xs.length ≤ 256) (hf : checkOf xs = (0, 0)) (hd : Walks xs d lo) (hs : AllSeen xs d) {v : Value} (w : World) (h : SlIs w v xs) (priv : Bool) (hcfg : cfgOf lo priv = 0) {a e : Int} {m : Nat}
    (hX : ∀ p x, xs[p]? = some x → XOk x ∧ (kindOf x = 9 → ∃ y, xs[p + 1]? = some y))
    (hg : ∀ J : Jb, J.xs = xs → J.sp = [] → J.fz = [] → J.priv = priv → Runs J (mostOf priv) (fun _ => []) 0 0 [(0, AState.start)] a m e) :
    Ret Tryz.prog 8 [v, .agg #[.slice none 0 0, .slice none 0 0, .bool priv]] w fun r w' => r = .tuple #[.agg #[.int .i64 a, .int .i64 m], .int .i64 e] ∧ Kept none' w w' := by
  refine ret_of_W Tryz.func8 rfl ok_verify_Check ?_
  obtain ⟨hl, hv⟩ := h.len
  have hvc := slCells h
  simp only [c_verify_Check, W_seq, W_set]
  refine W_new' (v := .agg #[.slice none 0 0, .slice none 0 0, .bool priv]) (cs := #[.slice none 0 0, .slice none 0 0, .bool priv]) (by simp) rfl ?_
  have h4 := hp_new w (.cells #[.slice none 0 0, .slice none 0 0, .bool priv] 39)
  have hk1 := (Kept.refl none' w).alloc (.cells #[.slice none 0 0, .slice none 0 0, .bool priv] 39)
  generalize hb4 : w.heap.size = b4 at *
  generalize (w.alloc (.cells #[.slice none 0 0, .slice none 0 0, .bool priv] 39)) = w1 at *
  try simp only [W_seq]
  refine W_new' (v := .agg #[.int .i64 0, .int .i64 0]) (cs := #[.int .i64 0, .int .i64 0]) (by simp) rfl ?_
  have h2 : RepBox _ w1.heap.size := hp_new w1 (.cells #[.int .i64 0, .int .i64 0] 32)
  have hk2 := (Kept.refl none' w1).alloc (.cells #[.int .i64 0, .int .i64 0] 32)
  have h42 := hk2.has h4 fun h => h
  have hb2 : w.heap.size ≤ w1.heap.size := hk1.size
  generalize (w1.alloc (.cells #[.int .i64 0, .int .i64 0] 32)) = w2 at *
  generalize w1.heap.size = b2 at *
  have hk02 := hk1.trans hk2
  simp only [W_seq, W_set]
  refine ok_intro (.int .i64 0) (by simp) ?_
  have g42 : wcell w2 b4 2 = some (.bool priv) := by rw [wcell_of h42]; rfl
  try simp only [W_seq]
  refine W_calm (by simp [hv, g42]) (cfg_ret ht hn hf hd hs w2 (h.calm hk02) priv) ?_
  intro w3 hk3
  rw [hcfg]
  simp only [W_seq]
  refine W_chkIn [.int .i64 0] (by simp) ?_
  simp only [W_seq, W_set]
  refine ok_intro (.int .i64 0) (by simp) ?_
  try simp only [W_seq, W_set]
  refine ok_intro (.int .i64 0) (by simp) ?_
  refine W_no (by simp) ?_
  simp only [W_skip, W_seq]
  have hk03 := hk02.trans hk3
  have h43 := hk3.has h42 fun h => h
  have h23 : RepBox w3 b2 := hk3.has h2 fun h => h
  have g40 : wcell w3 b4 0 = some (.slice none 0 0) := by rw [wcell_of h43]; rfl
  refine W_calm (by simp [g40]) (specs_none w3 17) ?_
  intro w4 hk4
  refine W_no (by simp) ?_
  simp only [W_skip, W_seq, W_set]
  refine ok_intro (.int .i64 512) (by simp) ?_
  have hk04 := hk03.trans hk4
  have h44 := hk4.has h43 fun h => h
  have h24 : RepBox w4 b2 := hk4.has h23 fun h => h
  have g44 : wcell w4 b4 2 = some (.bool priv) := by rw [wcell_of h44]; rfl
  have g4r : wrow w4 b4 0 3 = some #[.slice none 0 0, .slice none 0 0, .bool priv] := wrow_box h44 rfl
  refine W_cut (fun env' w' => w' = w4 ∧ env' = [v, .agg #[.slice none 0 0, .slice none 0 0, .bool priv], .pointer (some ⟨b2, 0, none⟩), .int .i64 0, .pointer (some ⟨b4, 0, none⟩), .tuple #[.int .i64 0, .int .i64 0], .int .i64 0, .int .i64 0, .bool false, .int .i64 (mostOf priv), undef, undef, undef, undef, undef, undef, undef]) ?_ ?_
  · unfold mostOf
    cases priv with
    | true =>
      refine W_yes (by simp [g44]) ?_
      simp
    | false =>
      refine W_no (by simp [g44]) ?_
      simp
  rintro env' w' ⟨rfl, rfl⟩
  clear hk4 hk3 h43 h23 h42 h2 hk2 hk1
  simp only [W_seq]
  refine W_chkIn [v] (by simp [hv]) ?_
  simp only [W_seq, W_set]
  refine ok_intro (.agg #[.slice none 0 0, .slice none 0 0, .bool priv]) (by simp [g4r]) ?_
  try simp only [W_seq]
  refine W_sem (vs := []) (by simp) (run_mkm w') (stab_nil _ _ _) ?_
  have hm5 := mapN_new w'
  have hk5 := (Kept.refl none' w').alloc (.map #[] 0)
  generalize hmb : w'.heap.size = mb at *
  have hmb0 : w.heap.size ≤ mb := by have := hk04.size; omega
  generalize (w'.alloc (.map #[] 0)) = w5 at *
  have hk05 := hk04.trans hk5
  have hmc : (Value.map (some mb)).cells = #[.map (some mb)] := rfl
  simp only [W_seq]
  refine W_chkIn [.agg #[v, .slice none 0 0, .slice none 0 0, .bool priv, .slice none 0 0, .map (some mb), .int .i64 0]] (by simp [hv, hvc, hmc]) ?_
  simp only [W_seq]
  refine W_new' (v := .agg #[v, .slice none 0 0, .slice none 0 0, .bool priv, .slice none 0 0, .map (some mb), .int .i64 0]) (cs := #[v, .slice none 0 0, .slice none 0 0, .bool priv, .slice none 0 0, .map (some mb), .int .i64 0]) (by simp [hv, hvc, hmc]) rfl ?_
  have hcb := hp_new w5 (.cells #[v, .slice none 0 0, .slice none 0 0, .bool priv, .slice none 0 0, .map (some mb), .int .i64 0] 62)
  have hk6 := (Kept.refl none' w5).alloc (.cells #[v, .slice none 0 0, .slice none 0 0, .bool priv, .slice none 0 0, .map (some mb), .int .i64 0] 62)
  have hm6 := hm5.calm hk6
  generalize hcbe : w5.heap.size = cb at *
  have hcb0 : w.heap.size ≤ cb := by have := hk05.size; omega
  generalize (w5.alloc (.cells #[v, .slice none 0 0, .slice none 0 0, .bool priv, .slice none 0 0, .map (some mb), .int .i64 0] 62)) = w6 at *
  have hk06 := hk05.trans hk6
  simp only [W_seq, W_set]
  refine ok_intro (.pointer (some ⟨cb, 0, none⟩)) (by simp) ?_
  try simp only [W_seq]
  refine W_chkIn [.pointer (some ⟨cb, 0, none⟩)] (by simp) ?_
  try simp only [W_seq]
  have tst := start_T w6
  refine W_calm (by simp) (ret_of_T tst) ?_
  intro w7 hk7
  have hwp := way_setpos 0 0 AState.zero
  have hws := way_setstate 0 AState.zero AState.start
  have hwa := way_all 0 0 AState.zero AState.start
  simp only [W_seq]
  refine W_chkIn [.agg (wayArr 0 AState.start)] (by simp [AState.val, hwp, hws]) ?_
  simp only [W_seq]
  refine W_row' (v := .agg (wayArr 0 AState.start)) (cs := wayArr 0 AState.start) (by simp [AState.val, hwp, hws, hwa]) rfl ?_
  have hk07 := hk06.trans hk7
  have hcb7 := hk7.has hcb fun h => h
  have hm7 := hm6.calm hk7
  have hk8 := (Kept.refl none' w7).alloc (.cells (wayArr 0 AState.start) 76)
  have hL : WaysAt (w7.alloc (.cells (wayArr 0 AState.start) 76)) (.slice (some ⟨w7.heap.size, 0, none⟩) 1 1) 1 (wayArr 0 AState.start).toList :=
    ⟨by simp, .inr ⟨w7.heap.size, 1, wayArr 0 AState.start, rfl, by omega, hp_new w7 _, by omega, by unfold maxLen; omega, by simp, by rw [List.take_of_length_le (by simp)]⟩⟩
  have hcb8 := hk8.has hcb7 fun h => h
  have hm8 := hm7.calm hk8
  have hk08 := hk07.trans hk8
  have hL0 : w.heap.size ≤ w7.heap.size := hk07.size
  generalize (w7.alloc (.cells (wayArr 0 AState.start) 76)) = w8 at *
  generalize w7.heap.size = lb at *
  have hR8 : RepBox w8 b2 := ((hk5.trans hk6).trans (hk7.trans hk8)).has h24 fun h => h
  let J : Jb := ⟨cb, mb, v, .slice none 0 0, .slice none 0 0, priv, xs, [], []⟩
  have h8 : RunInv (J.job 0) w w8 (fun _ => none) (fun _ => []) (.slice none 0 0) := ⟨hk08, ⟨hcb8⟩, hm8, fun p => states_nil _, fun p v b hf => (by cases hf), fun p q v v' b _ hf => (by cases hf), fun b hb => (by simp [Value.ownBlock] at hb), hcb0, hmb0⟩
  obtain ⟨w9, hs9, h9, hk9⟩ := h8.setleft (v := .slice (some ⟨lb, 0, none⟩) 1 1) rfl rfl (fun b hb => by simp [Value.ownBlock] at hb; omega)
  have hL9 : WaysAt w9 (.slice (some ⟨lb, 0, none⟩) 1 1) 1 (wayArr 0 AState.start).toList := rowKeep hL hk9 fun i hi => by
    obtain ⟨cc, hcc⟩ := row_block hL hi
    exact blk_ne hcc hcb8 (by decide)
  have hR9 : RepBox w9 b2 := hk9.has hR8 (blk_ne hR8 hcb8 (by decide))
  try simp only [W_seq]
  refine W_store (xv := .pointer (some ⟨cb, 4, none⟩)) (vv := .slice (some ⟨lb, 0, none⟩) 1 1) (by simp) (by simp) hs9 (stab_nil _ _ _) ?_
  try simp only [W_seq]
  refine W_call (vs := [.pointer (some ⟨cb, 0, none⟩), .int .i64 (mostOf priv)]) (by simp) (runs_ret J ⟨hX, hn, fun y hy => by cases hy⟩ w w9 (mostOf priv) (by unfold mostOf; split <;> omega) h (.inl ⟨rfl, rfl⟩) (.inl ⟨rfl, rfl⟩) h9 (L := [(0, AState.start)]) (by simpa [LeftAt, backCells] using hL9) (by simp) (hg J rfl rfl rfl rfl) hR9) ?_
  rintro r w10 ⟨rfl, hk10, hR10⟩
  refine ⟨stab_nil _ _ _, ?_⟩
  simp only [W_seq]
  refine W_chkIn [.int .i64 e] (by simp) ?_
  have hs7 := box_store (v := .agg #[.int .i64 a, .int .i64 m]) hR10 (n := 2) rfl rfl (by simp [Value.cells, Value.oneCell'])
  simp only [W_seq]
  refine W_store (vv := .agg #[.int .i64 a, .int .i64 m]) (by simp) (by simp) hs7 (stab_nil _ _ _) ?_
  have hrr : wrow (Eng.put w10 b2 (.cells #[.int .i64 a, .int .i64 m] 32 (0, 0))) b2 0 2 = some #[.int .i64 a, .int .i64 m] := wrow_box (put_same (blk_lt hR10)) rfl
  have hcc : (Value.agg #[.int .i64 a, .int .i64 ((m : Nat) : Int)]).cells = #[.int .i64 a, .int .i64 m] := rfl
  rw [hcc]
  simp [hrr]
  exact hk10.putNew (by omega) _
set_option maxHeartbeats 2000000 in
theorem vcheck_bad {xs : List Ins} {d : Array Int} {lo : Bool} (ht : Tame xs) (hn : xs.length ≤ 256) (hf : checkOf xs = (0, 0)) (hd : Walks xs d lo) (hs : AllSeen xs d) {v : Value} (w : World) (h : SlIs w v xs) (priv : Bool) (hcfg : cfgOf lo priv = 22) :
    Ret Tryz.prog 8 [v, .agg #[.slice none 0 0, .slice none 0 0, .bool priv]] w fun r w' => r = .tuple #[.agg #[.int .i64 0, .int .i64 0], .int .i64 22] ∧ Kept none' w w' := by
  refine ret_of_W Tryz.func8 rfl ok_verify_Check ?_
  obtain ⟨hl, hv⟩ := h.len
  have hvc := slCells h
  simp only [c_verify_Check, W_seq, W_set]
  refine W_new' (v := .agg #[.slice none 0 0, .slice none 0 0, .bool priv]) (cs := #[.slice none 0 0, .slice none 0 0, .bool priv]) (by simp) rfl ?_
  have h4 := hp_new w (.cells #[.slice none 0 0, .slice none 0 0, .bool priv] 39)
  have hk1 := (Kept.refl none' w).alloc (.cells #[.slice none 0 0, .slice none 0 0, .bool priv] 39)
  generalize hb4 : w.heap.size = b4 at *
  generalize (w.alloc (.cells #[.slice none 0 0, .slice none 0 0, .bool priv] 39)) = w1 at *
  try simp only [W_seq]
  refine W_new' (v := .agg #[.int .i64 0, .int .i64 0]) (cs := #[.int .i64 0, .int .i64 0]) (by simp) rfl ?_
  have h2 : RepBox _ w1.heap.size := hp_new w1 (.cells #[.int .i64 0, .int .i64 0] 32)
  have hk2 := (Kept.refl none' w1).alloc (.cells #[.int .i64 0, .int .i64 0] 32)
  have h42 := hk2.has h4 fun h => h
  have hb2 : w.heap.size ≤ w1.heap.size := hk1.size
  generalize (w1.alloc (.cells #[.int .i64 0, .int .i64 0] 32)) = w2 at *
  generalize w1.heap.size = b2 at *
  have hk02 := hk1.trans hk2
  simp only [W_seq, W_set]
  refine ok_intro (.int .i64 0) (by simp) ?_
  have g42 : wcell w2 b4 2 = some (.bool priv) := by rw [wcell_of h42]; rfl
  try simp only [W_seq]
  refine W_calm (by simp [hv, g42]) (cfg_ret ht hn hf hd hs w2 (h.calm hk02) priv) ?_
  intro w3 hk3
  rw [hcfg]
  simp only [W_seq]
  refine W_chkIn [.int .i64 22] (by simp) ?_
  simp only [W_seq, W_set]
  refine ok_intro (.int .i64 0) (by simp) ?_
  try simp only [W_seq, W_set]
  refine ok_intro (.int .i64 22) (by simp) ?_
  refine W_yes (by simp) ?_
  simp only [W_seq]
  refine W_no (by simp) ?_
  simp only [W_skip, W_seq]
  refine W_chkIn [.agg #[.int .i64 0, .int .i64 0]] (by simp) ?_
  have hk03 := hk02.trans hk3
  have h23 : RepBox w3 b2 := hk3.has h2 fun h => h
  have hs7 := box_store (v := .agg #[.int .i64 0, .int .i64 0]) h23 (n := 2) rfl rfl (by simp [Value.cells, Value.oneCell'])
  simp only [W_seq]
  refine W_store (vv := .agg #[.int .i64 0, .int .i64 0]) (by simp) (by simp) hs7 (stab_nil _ _ _) ?_
  have hrr : wrow (Eng.put w3 b2 (.cells #[.int .i64 0, .int .i64 0] 32 (0, 0))) b2 0 2 = some #[.int .i64 0, .int .i64 0] := wrow_box (put_same (blk_lt h23)) rfl
  have hcc : (Value.agg #[.int .i64 0, .int .i64 0]).cells = #[.int .i64 0, .int .i64 0] := rfl
  rw [hcc]
  simp [hrr]
  exact hk03.putNew (by omega) _
end Go.Proofs.YtkgpmjjleemdlaaGreat

