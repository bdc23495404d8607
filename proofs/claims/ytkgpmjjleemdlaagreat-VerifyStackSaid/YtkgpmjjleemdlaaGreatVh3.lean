/- Layer 18: what a step tells: ways, in a new row; an operation; a load. -/
import Derived.Test.YtkgpmjjleemdlaaGreatVh2
import Derived.Test.YtkgpmjjleemdlaaGreatVg2
set_option linter.unusedSimpArgs false
set_option linter.unusedVariables false
set_option maxRecDepth 8000
namespace Go.Proofs.YtkgpmjjleemdlaaGreat
open Go.Eng Go.Sort
attribute [local irreducible] Go.Eng.W

abbrev Ways := List (Int × AState)
def wayCells (L : Ways) : List Value := (L.map fun x => (wayArr x.1 x.2).toList).flatten
def WaysIs (w : World) (v : Value) (L : Ways) : Prop := Row 76 274 w v L.length (wayCells L)
theorem wayCells_len (L : Ways) : (wayCells L).length = L.length * 274 := by
  have := flat_len (k := 274) (L.map fun x => (wayArr x.1 x.2).toList) (fun y hy => by
    obtain ⟨x, _, rfl⟩ := List.mem_map.1 hy
    simp)
  rw [List.length_map] at this
  exact this
theorem ways_nil (w : World) : WaysIs w (.slice none 0 0) [] := row_nil _ _ _
theorem ways_one {w : World} {b : Nat} {p : Int} {s : AState} (h : WayBox w b p s) : WaysIs w (.slice (some ⟨b, 0, none⟩) 1 1) [(p, s)] :=
  ⟨by simp [wayCells], .inr ⟨b, 1, wayArr p s, rfl, by simp, h, by simp, by unfold maxLen; omega, by simp, by simp [wayCells]; rw [List.take_of_length_le (by simp)]⟩⟩
/-- What a step tells. -/
def Told (w : World) (o : Option Ways) (r : Value) (w' : World) : Prop :=
  match o with
  | some L => ∃ v, r = .tuple #[v, .bool true] ∧ WaysIs w' v L ∧ (∀ b, v.ownBlock = some b → w.heap.size ≤ b) ∧ varV v = some v
  | none => ∃ v, r = .tuple #[v, .bool false] ∧ varV v = some v
theorem Told.before {w0 w w' : World} {o : Option Ways} {r : Value} (h : Told w o r w') (hk : w0.heap.size ≤ w.heap.size) : Told w0 o r w' := by
  cases o with
  | some L => obtain ⟨v, h1, h2, h3, h4⟩ := h; exact ⟨v, h1, h2, fun b hb => Nat.le_trans hk (h3 b hb), h4⟩
  | none => exact h
theorem Told.behind {w w' w2 : World} {o : Option Ways} {r : Value} (h : Told w o r w') (hk : Kept none' w' w2) : Told w o r w2 := by
  cases o with
  | some L => obtain ⟨v, h1, h2, h3, h4⟩ := h; exact ⟨v, h1, rowCalm h2 hk, h3, h4⟩
  | none => exact h
theorem Told.two {w w' : World} {o : Option Ways} {r : Value} (h : Told w o r w') : ∃ v t, r = .tuple #[v, .bool t] ∧ varV v = some v := by
  cases o with
  | some L => obtain ⟨v, h1, _, _, h4⟩ := h; exact ⟨v, true, h1, h4⟩
  | none => obtain ⟨v, h1, h4⟩ := h; exact ⟨v, false, h1, h4⟩
theorem told_one {w w' : World} {b : Nat} {p : Int} {s : AState} (h : WayBox w' b p s) (hb : w.heap.size ≤ b) : Told w (some [(p, s)]) (.tuple #[.slice (some ⟨b, 0, none⟩) 1 1, .bool true]) w' :=
  ⟨_, rfl, ways_one h, fun j hj => by simp [Value.ownBlock] at hj; omega, rfl⟩
structure XOk (x : Ins) : Prop where
  wf : x.wf
  dst : x.dst < 11
  src : x.src < 11
theorem second_wf {s : AState} (h : s.wf) {x : Ins} (hx : XOk x) (reg : Bool) : (secondA s x reg).wf := by
  unfold secondA
  split
  · exact h.r _ hx.src
  · rw [known_num]; exact numR_wf (constR_wf (w64_in _))
def aluV (J : Jb) (p : Int) (s : AState) (x : Ins) (q : Parts) : Option Ways :=
  if (aluA q (s.r x.dst) (secondA s x q.reg)).kind = 1 ∧ (secondA s x q.reg).kind = 1 then
    some [(i64 (p + 1), s.setR x.dst (numR (doR q.op q.long (aluA q (s.r x.dst) (secondA s x q.reg)).rng (secondA s x q.reg).rng)))]
  else if (onPlaceA J.priv q.op (aluA q (s.r x.dst) (secondA s x q.reg)) (secondA s x q.reg)).2 = false ∨ q.long = false ∨ q.op = 8 then none
  else some [(i64 (p + 1), s.setR x.dst (onPlaceA J.priv q.op (aluA q (s.r x.dst) (secondA s x q.reg)) (secondA s x q.reg)).1)]
theorem aluA_wf {s : AState} (h : s.wf) {x : Ins} (hx : XOk x) (q : Parts) (b : AReg) : (aluA q (s.r x.dst) b).wf := by
  unfold aluA
  split
  · exact known0_wf
  · exact h.r _ hx.dst
set_option maxHeartbeats 8000000 in
theorem alu_ret {J : Jb} {w : World} {left : Value} {ids : Int} (hj : JAt J w left ids) (p : Int) {s : AState} (hs : s.wf) {x : Ins} (hx : XOk x) (q : Parts) :
    Ret Tryz.prog 51 [.pointer (some ⟨J.cb, 0, none⟩), .agg (wayArr p s), .agg x.arr, .agg q.arr] w fun r w' => Told w (aluV J p s x q) r w' ∧ Kept none' w w' := by
  refine ret_of_W Tryz.func51 rfl ok_verify_checker_alu ?_
  have hd := hx.dst
  have hd' : (x.dst : Int) < 11 := by omega
  have t1 := second_T w s hx.wf hx.src q.reg
  have t2 := known_T w 0
  have e1 := row_wreg p s hd
  have hwa := aluA_wf hs hx q (secondA s x q.reg)
  have hwb := second_wf hs hx q.reg
  unfold aluV
  simp only [AState.val, Ins.val, AReg.val] at t1 t2
  generalize hB : secondA s x q.reg = b at *
  generalize hA : aluA q (s.r x.dst) b = a at *
  unfold aluA at hA
  simp only [c_verify_checker_alu]
  rw [W_assoc, W_assoc, W_seq]
  refine W_seg [.v (.pointer (some ⟨J.cb, 0, none⟩)), .v (.agg (wayArr p s)), .v (.agg x.arr), .v (.agg q.arr), .v (.slice none 0 0), .v (.bool false), .p 76 (wayArr p s), .p 28 x.arr, .p 82 q.arr, .any,
    .p 68 a.arr, .p 68 b.arr, .any, .any, .any, .any, .any, .any, .any, .any, .any, .any, .any, .any, .any] (by simp [hj.lt]) ?_ (fun B hB => ?_) ?_
  · simp_all [slsOk, Sl.ok, hj.lt]
  · by_cases h11 : q.op = 11 ∧ b.kind = 1
    · obtain ⟨h11, hb1⟩ := h11
      have hA' : knownR 0 = a := by rw [← hA, if_pos ⟨h11, hb1⟩]
      simp [C_cond_eq, C_alt, hd', hd, e1, t1, t2, h11, slsIs, Sl.is, hb1, hA', pickV_bool]
    · have hA' : s.r x.dst = a := by rw [← hA, if_neg h11]
      have h11' : (decide ((q.op : Int) = 11) && decide (b.kind = 1)) = false := by
        by_cases h : q.op = 11
        · have : ¬ b.kind = 1 := fun e => h11 ⟨h, e⟩
          simp [this]
        · have : ¬ (q.op : Int) = 11 := by omega
          simp [this]
      simp [C_cond_eq, C_alt, hd', hd, e1, t1, t2, h11', slsIs, Sl.is, hA', pickV_bool]
  · intro w1 hk
    refine open_v (open_v (open_v (open_v (open_v (open_v (open_p fun p6 _ h6 => open_p fun p7 _ h7 => open_p fun p8 _ h8 => open_any fun u9 => open_p fun p10 _ h10 => open_p fun p11 _ h11 => ?_))))))
    repeat' refine open_any fun _ => ?_
    refine open_nil ?_
    have r10 : wrow w1 p10 1 6 = some a.rng.arr := by rw [wrow_of h10 (by simp)]; rfl
    have r11 : wrow w1 p11 1 6 = some b.rng.arr := by rw [wrow_of h11 (by simp)]; rfl
    have f10 : wrow w1 p10 0 11 = some a.arr := wrow_box h10 (areg_size a)
    have f11 : wrow w1 p11 0 11 = some b.arr := wrow_box h11 (areg_size b)
    have k10 : wcell w1 p10 0 = some (.int .i64 a.kind) := by rw [wcell_of h10]; exact areg_kind0 a
    have k11 : wcell w1 p11 0 = some (.int .i64 b.kind) := by rw [wcell_of h11]; exact areg_kind0 b
    clear hA hB t1 t2 e1
    simp only [W_seq]
    by_cases hn : a.kind = 1 ∧ b.kind = 1
    · rw [if_pos hn]
      refine W_yes (by simp [k10, k11, hn.1, hn.2]) ?_
      simp only [W_seq]
      refine W_calm (vs := [.int .i64 q.op, .bool q.long, a.rng.val, b.rng.val]) (by simp [wcell_of h8, r10, r11]) (ret_of_T (do_T w1 q.op q.long a.rng b.rng hwa.rng hwb.rng)) ?_
      intro w2 hk2
      generalize doR q.op q.long a.rng b.rng = e at *
      simp only [W_seq]
      refine W_chkIn [(numR e).val] (by simp [AReg.val, AReg.arr, AReg.zero, numR]) ?_
      simp only [W_seq]
      refine W_new' (v := .agg AReg.zero.arr) (cs := AReg.zero.arr) (by simp) rfl ?_
      have h18 : RegBox _ w2.heap.size AReg.zero := hp_new w2 (.cells AReg.zero.arr 68)
      have hk3 := (Kept.refl none' w2).alloc (.cells AReg.zero.arr 68)
      generalize hb18 : w2.heap.size = b18 at *
      generalize (w2.alloc (.cells AReg.zero.arr 68)) = w3 at *
      try simp only [W_seq]
      refine W_store (xv := .pointer (some ⟨b18, 0, none⟩)) (vv := .agg (numR e).arr) (by simp) (by simp [AReg.val, AReg.arr, AReg.zero, numR]) (h18.store _) (stab_nil _ _ _) ?_
      have h19 : RegBox _ b18 (numR e) := put_same (blk_lt h18)
      have hk4 := hk3.putNew (Nat.le_of_eq hb18) (.cells (numR e).arr 68 (0, 0))
      generalize Eng.put w3 b18 (.cells (numR e).arr 68 (0, 0)) = w4 at *
      have hk14 := hk2.trans hk4
      have hk04 := hk.trans hk14
      have g6 : WayBox w4 p6 p s := hk14.has h6 fun h => h
      have g7 := hk14.has h7 fun h => h
      have g71 : wcell w4 p7 1 = some (.int .u8 x.dst) := by rw [wcell_of g7]; rfl
      try simp only [W_seq]
      refine W_call (by simp [g6.all, g71, h19.row]) (wset_ret w4 p s hd (numR e) 1) ?_
      rintro r w5 h5
      refine ⟨stab_nil _ _ _, ?_⟩
      obtain ⟨hk5, b5, rfl, hb5, hlt5⟩ := h5
      simp
      exact ⟨told_one hb5 (by have := hk04.size; omega), hk04.trans hk5⟩
    · rw [if_neg hn]
      have hnb : (decide (a.kind = 1) && decide (b.kind = 1)) = false := by
        by_cases h1 : a.kind = 1
        · have : ¬ b.kind = 1 := fun e => hn ⟨h1, e⟩
          simp [this]
        · simp [h1]
      refine W_no (by simp [k10, k11, pickV_bool, hnb]) ?_
      simp only [W_skip, W_seq]
      have hj1 := hj.calm hk
      refine W_calm (vs := [.pointer (some ⟨J.cb, 0, none⟩), .int .i64 q.op, a.val, b.val]) (by simp [wcell_of h8, f10, f11, AReg.val]) (ret_of_T (onPlace_T hj1 q.op a b)) ?_
      intro w2 hk2
      generalize onPlaceA J.priv q.op a b = o at *
      obtain ⟨o, ok⟩ := o
      simp only [W_seq]
      refine W_chkIn [.bool ok, o.val] (by simp) ?_
      simp only [W_seq]
      refine W_new' (v := .agg AReg.zero.arr) (cs := AReg.zero.arr) (by simp) rfl ?_
      have h18 : RegBox _ w2.heap.size AReg.zero := hp_new w2 (.cells AReg.zero.arr 68)
      have hk3 := (Kept.refl none' w2).alloc (.cells AReg.zero.arr 68)
      generalize hb18 : w2.heap.size = b18 at *
      generalize (w2.alloc (.cells AReg.zero.arr 68)) = w3 at *
      try simp only [W_seq]
      refine W_store (xv := .pointer (some ⟨b18, 0, none⟩)) (vv := .agg o.arr) (by simp) (by simp [AReg.val]) (h18.store _) (stab_nil _ _ _) ?_
      have h19 : RegBox _ b18 o := put_same (blk_lt h18)
      have hk4 := hk3.putNew (Nat.le_of_eq hb18) (.cells o.arr 68 (0, 0))
      generalize Eng.put w3 b18 (.cells o.arr 68 (0, 0)) = w4 at *
      have hk14 := hk2.trans hk4
      have hk04 := hk.trans hk14
      have g6 : WayBox w4 p6 p s := hk14.has h6 fun h => h
      have g7 := hk14.has h7 fun h => h
      have g8 := hk14.has h8 fun h => h
      have g71 : wcell w4 p7 1 = some (.int .u8 x.dst) := by rw [wcell_of g7]; rfl
      have g81 : wcell w4 p8 1 = some (.int .i64 q.op) := by rw [wcell_of g8]; rfl
      have g83 : wcell w4 p8 3 = some (.bool q.long) := by rw [wcell_of g8]; rfl
      simp only [W_seq, W_set]
      refine ok_intro (.bool ok) (by simp) ?_
      try simp only [W_seq]
      have h8c : ((q.op : Int) = 8) = (q.op = 8) := propext (by omega)
      by_cases hbad : ok = false ∨ q.long = false ∨ q.op = 8
      · rw [if_pos hbad]
        refine W_yes (by simp [g81, g83, pickV_bool, h8c]; simpa [or_assoc] using hbad) ?_
        simp
        exact ⟨⟨_, rfl, rfl⟩, hk04⟩
      · rw [if_neg hbad]
        simp only [not_or] at hbad
        refine W_no (by simp [g81, g83, pickV_bool, h8c]; simpa [and_assoc] using hbad) ?_
        simp only [W_skip, W_seq]
        refine W_call (by simp [g6.all, g71, h19.row]) (wset_ret w4 p s hd o 1) ?_
        rintro r w5 h5
        refine ⟨stab_nil _ _ _, ?_⟩
        obtain ⟨hk5, b5, rfl, hb5, hlt5⟩ := h5
        simp
        exact ⟨told_one hb5 (by have := hk04.size; omega), hk04.trans hk5⟩
end Go.Proofs.YtkgpmjjleemdlaaGreat

set_option linter.unusedSimpArgs false
set_option linter.unusedVariables false
set_option maxRecDepth 8000
namespace Go.Proofs.YtkgpmjjleemdlaaGreat
open Go.Eng Go.Sort
attribute [local irreducible] Go.Eng.W

def loadV (J : Jb) (p : Int) (s : AState) (x : Ins) (q : Parts) : Option Ways :=
  if (s.r x.src).kind = 3 then (if (loadOf s (i64 ((s.r x.src).low + x.off)) q.size).2 = true then some [(i64 (p + 1), s.setR x.dst (loadOf s (i64 ((s.r x.src).low + x.off)) q.size).1)] else none)
  else if readsOf J.sp s (s.r x.src) x.off q.size = true then some [(i64 (p + 1), s.setR x.dst (unkOf q.size))] else none
theorem off64 {x : Ins} (h : x.wf) : IntKind.i64.wrap x.off = x.off := i64w (by have := h.off; omega) (by have := h.off; omega)
theorem oneWay_var {w w' : World} {v : Value} {p : Int} {s : AState} (h : OneWay w w' v p s) : varV v = some v := by
  obtain ⟨h1, b, rfl, _⟩ := h; rfl
/-- A row of one way, whose state goes on. -/
theorem told_if {w w' : World} {v : Value} {p : Int} {s : AState} {t : Bool} (h : OneWay w w' v p s) : Told w (if t = true then some [(p, s)] else none) (.tuple #[v, .bool t]) w' := by
  have hv := oneWay_var h
  obtain ⟨h1, b, rfl, h2, h3⟩ := h
  cases t with
  | true => exact told_one h2 h3
  | false => exact ⟨_, rfl, hv⟩
set_option maxHeartbeats 8000000 in
theorem load_ret {J : Jb} {w : World} {left : Value} {ids : Int} (hj : JAt J w left ids) (p : Int) (s : AState) {x : Ins} (hx : XOk x) (q : Parts) :
    Ret Tryz.prog 56 [.pointer (some ⟨J.cb, 0, none⟩), .agg (wayArr p s), .agg x.arr, .agg q.arr] w fun r w' => Told w (loadV J p s x q) r w' ∧ Kept none' w w' := by
  refine ret_of_W Tryz.func56 rfl ok_verify_checker_load ?_
  have hd := hx.dst
  have hsr := hx.src
  have hs' : (x.src : Int) < 11 := by omega
  have e1 := row_wreg p s hsr
  have eo := off64 hx.wf
  unfold loadV
  generalize hA : s.r x.src = a at *
  simp only [c_verify_checker_load]
  rw [W_assoc, W_seq]
  refine W_seg [.v (.pointer (some ⟨J.cb, 0, none⟩)), .v (.agg (wayArr p s)), .v (.agg x.arr), .v (.agg q.arr), .v (.slice none 0 0), .v (.bool false), .p 76 (wayArr p s), .p 28 x.arr, .p 82 q.arr, .p 68 a.arr,
    .any, .any, .any, .any, .any, .any, .any, .any, .any, .any, .any, .any, .any, .any] (by simp [hj.lt]) ?_ (fun B hB => ?_) ?_
  · simp_all [slsOk, Sl.ok, hj.lt]
  · simp [C_cond_eq, hs', hsr, e1, slsIs, Sl.is]
  · intro w1 hk
    refine open_v (open_v (open_v (open_v (open_v (open_v (open_p fun p6 _ h6 => open_p fun p7 _ h7 => open_p fun p8 _ h8 => open_p fun p9 _ h9 => ?_))))))
    repeat' refine open_any fun _ => ?_
    refine open_nil ?_
    have g6 : WayBox w1 p6 p s := h6
    have g9 : RegBox w1 p9 a := h9
    obtain ⟨ak, asl, al, ah⟩ := g9.k
    have x1 : wcell w1 p7 1 = some (.int .u8 x.dst) := by rw [wcell_of h7]; rfl
    have x3 : wcell w1 p7 3 = some (.int .i16 x.off) := by rw [wcell_of h7]; rfl
    have q2 : wcell w1 p8 2 = some (.int .i64 q.size) := by rw [wcell_of h8]; rfl
    clear e1
    simp only [W_seq]
    by_cases h3 : a.kind = 3
    · rw [if_pos h3]
      refine W_yes (by simp [ak, h3]) ?_
      simp only [W_seq]
      refine W_calm (vs := [s.val, .int .i64 (i64 (a.low + x.off)), .int .i64 q.size]) (by simp [g6.state, al, x3, q2, eo, AState.val]) (ret_of_T (load_T w1 s (i64 (a.low + x.off)) q.size (i64_in _))) ?_
      intro w2 hk2
      generalize loadOf s (i64 (a.low + x.off)) q.size = o at *
      obtain ⟨o, ok⟩ := o
      simp only [W_seq]
      refine W_chkIn [.bool ok, o.val] (by simp) ?_
      simp only [W_seq]
      refine W_new' (v := .agg AReg.zero.arr) (cs := AReg.zero.arr) (by simp) rfl ?_
      have h18 : RegBox _ w2.heap.size AReg.zero := hp_new w2 (.cells AReg.zero.arr 68)
      have hk3 := (Kept.refl none' w2).alloc (.cells AReg.zero.arr 68)
      generalize hb18 : w2.heap.size = b18 at *
      generalize (w2.alloc (.cells AReg.zero.arr 68)) = w3 at *
      try simp only [W_seq]
      refine W_store (xv := .pointer (some ⟨b18, 0, none⟩)) (vv := .agg o.arr) (by simp) (by simp [AReg.val]) (h18.store _) (stab_nil _ _ _) ?_
      have h19 : RegBox _ b18 o := put_same (blk_lt h18)
      have hk4 := hk3.putNew (Nat.le_of_eq hb18) (.cells o.arr 68 (0, 0))
      generalize Eng.put w3 b18 (.cells o.arr 68 (0, 0)) = w4 at *
      have hk14 := hk2.trans hk4
      have hk04 := hk.trans hk14
      have g64 : WayBox w4 p6 p s := hk14.has h6 fun h => h
      have g7 := hk14.has h7 fun h => h
      have g71 : wcell w4 p7 1 = some (.int .u8 x.dst) := by rw [wcell_of g7]; rfl
      simp only [W_seq, W_set]
      refine ok_intro (.bool ok) (by simp) ?_
      try simp only [W_seq]
      refine W_call (by simp [g64.all, g71, h19.row]) (wset_ret w4 p s hd o 1) ?_
      rintro r w5 h5
      refine ⟨stab_nil _ _ _, ?_⟩
      have hv := oneWay_var h5
      have hk5 := h5.1
      simp [hv]
      exact ⟨told_if (h5.before hk04), hk04.trans hk5⟩
    · rw [if_neg h3]
      refine W_no (by simp [ak, h3]) ?_
      simp only [W_skip, W_seq, W_draw]
      have hkd : Kept none' w1 w1.drew := (Kept.refl _ _).drew
      have hk2 := hk.trans hkd
      have g62 := g6.calm hkd
      have g92 := g9.calm hkd
      have h72 := hkd.has h7 fun h => h
      have h82 := hkd.has h8 fun h => h
      generalize w1.drew = w2 at *
      have x1 : wcell w2 p7 1 = some (.int .u8 x.dst) := by rw [wcell_of h72]; rfl
      have x3 : wcell w2 p7 3 = some (.int .i16 x.off) := by rw [wcell_of h72]; rfl
      have q2 : wcell w2 p8 2 = some (.int .i64 q.size) := by rw [wcell_of h82]; rfl
      simp only [W_seq, W_set]
      refine ok_intro (.agg (wayArr p s)) (by simp [g62.all]) ?_
      try simp only [W_seq, W_set]
      refine ok_intro (.int .u8 x.dst) (by simp [x1]) ?_
      try simp only [W_seq]
      refine W_chkIn [.pointer (some ⟨J.cb, 0, none⟩), .int .i64 q.size] (by simp [q2]) ?_
      simp only [W_seq, W_set]
      refine ok_intro (.agg s.arr) (by simp [g62.state]) ?_
      try simp only [W_seq, W_set]
      refine ok_intro (.agg a.arr) (by simp [g92.row]) ?_
      try simp only [W_seq, W_set]
      refine ok_intro (.int .i64 x.off) (by simp [x3, eo]) ?_
      try simp only [W_seq, W_set]
      refine ok_intro (.int .i64 q.size) (by simp [q2]) ?_
      try simp only [W_seq]
      refine W_calm (by simp [q2]) (ret_of_T (unk_T w2 q.size)) ?_
      intro w3 hk3
      simp only [W_seq]
      have hk03 := hk2.trans hk3
      refine W_call (by simp [AReg.val]) (wset_ret w3 p s hd (unkOf q.size) 1) ?_
      rintro r w5 h5
      have hv := oneWay_var h5
      have hk5 := h5.1
      refine ⟨stab_calm hk5, ?_⟩
      have hj5 := hj.calm (hk03.trans hk5)
      simp only [W_seq]
      refine W_calm (vs := [.pointer (some ⟨J.cb, 0, none⟩), s.val, a.val, .int .i64 x.off, .int .i64 q.size]) (by simp [AState.val, AReg.val]) (ret_of_T (reads_T hj5 s a x.off q.size)) ?_
      intro w6 hk6
      simp [hv]
      exact ⟨told_if ((h5.before hk03).behind hk6), (hk03.trans hk5).trans hk6⟩
end Go.Proofs.YtkgpmjjleemdlaaGreat

set_option linter.unusedSimpArgs false
set_option linter.unusedVariables false
set_option maxRecDepth 8000
namespace Go.Proofs.YtkgpmjjleemdlaaGreat
open Go.Eng Go.Sort
attribute [local irreducible] Go.Eng.W

def saveV (J : Jb) (p : Int) (s : AState) (x : Ins) (q : Parts) (r : AReg) : Option Ways :=
  if writesOf J.sp J.fz (s.r x.dst) x.off q.size = false then none
  else if (s.r x.dst).kind = 5 then (if decide (r.kind = 1) = true then some [(i64 (p + 1), s)] else none)
  else if (saveOf s (i64 ((s.r x.dst).low + x.off)) q.size r).2 = true then some [(i64 (p + 1), (saveOf s (i64 ((s.r x.dst).low + x.off)) q.size r).1)] else none
theorem told_if2 {w w' : World} {b : Nat} {p : Int} {s : AState} {t : Bool} (h : WayBox w' b p s) (hb : w.heap.size ≤ b) : Told w (if t = true then some [(p, s)] else none) (.tuple #[.slice (some ⟨b, 0, none⟩) 1 1, .bool t]) w' := by
  cases t with
  | true => exact told_one h hb
  | false => exact ⟨_, rfl, rfl⟩
set_option maxHeartbeats 8000000 in
theorem vsave_ret {J : Jb} {w : World} {left : Value} {ids : Int} (hj : JAt J w left ids) (p : Int) (s : AState) {x : Ins} (hx : XOk x) (q : Parts) (r : AReg) :
    Ret Tryz.prog 57 [.pointer (some ⟨J.cb, 0, none⟩), .agg (wayArr p s), .agg x.arr, .agg q.arr, .agg r.arr] w fun v w' => Told w (saveV J p s x q r) v w' ∧ Kept none' w w' := by
  refine ret_of_W Tryz.func57 rfl ok_verify_checker_save ?_
  have hd := hx.dst
  have hd' : (x.dst : Int) < 11 := by omega
  have e1 := row_wreg p s hd
  have eo := off64 hx.wf
  unfold saveV
  generalize hA : s.r x.dst = a at *
  simp only [c_verify_checker_save]
  rw [W_assoc, W_seq]
  refine W_seg [.v (.pointer (some ⟨J.cb, 0, none⟩)), .v (.agg (wayArr p s)), .v (.agg x.arr), .v (.agg q.arr), .v (.agg r.arr), .v (.slice none 0 0), .v (.bool false), .p 76 (wayArr p s), .p 28 x.arr, .p 82 q.arr, .p 68 r.arr, .p 68 a.arr,
    .any, .any, .any, .any, .any, .any, .any, .any, .any, .any] (by simp [hj.lt]) ?_ (fun B hB => ?_) ?_
  · simp_all [slsOk, Sl.ok, hj.lt]
  · simp [C_cond_eq, hd', hd, e1, slsIs, Sl.is]
  intro w1 hk
  refine open_v (open_v (open_v (open_v (open_v (open_v (open_v (open_p fun p7 l7 h7 => open_p fun p8 l8 h8 => open_p fun p9 l9 h9 => open_p fun p10 l10 h10 => open_p fun p11 l11 h11 => ?_)))))))
  repeat' refine open_any fun _ => ?_
  refine open_nil ?_
  have g7 : WayBox w1 p7 p s := h7
  have g10 : RegBox w1 p10 r := h10
  have g11 : RegBox w1 p11 a := h11
  have x3 : wcell w1 p8 3 = some (.int .i16 x.off) := by rw [wcell_of h8]; rfl
  have q2 : wcell w1 p9 2 = some (.int .i64 q.size) := by rw [wcell_of h9]; rfl
  clear e1
  simp only [W_seq]
  refine W_calm (vs := [.pointer (some ⟨J.cb, 0, none⟩), a.val, .int .i64 x.off, .int .i64 q.size]) (by simp [g11.row, x3, q2, eo, AReg.val]) (ret_of_T (vwrites_T (hj.calm hk) a x.off q.size)) ?_
  intro w2 hk2
  have g72 := g7.calm hk2
  have g102 := g10.calm hk2
  have g112 := g11.calm hk2
  have h82 := hk2.has h8 fun h => h
  have h92 := hk2.has h9 fun h => h
  have hk02 := hk.trans hk2
  obtain ⟨ak, asl, al, ah⟩ := g112.k
  obtain ⟨rk, _, _, _⟩ := g102.k
  cases hw : writesOf J.sp J.fz a x.off q.size with
  | false =>
    rw [if_pos rfl]
    refine W_yes (by simp) ?_
    simp
    exact ⟨⟨_, rfl, rfl⟩, hk02⟩
  | true =>
    rw [if_neg (by simp)]
    refine W_no (by simp) ?_
    simp only [W_skip, W_seq]
    by_cases h5 : a.kind = 5
    · rw [if_pos h5]
      generalize ht : decide (r.kind = 1) = t
      refine W_yes (by simp [ak, h5]) ?_
      simp only [W_seq, W_draw]
      have hkd : Kept none' w2 w2.drew := (Kept.refl _ _).drew
      have hk03 := hk02.trans hkd
      have g73 := g72.calm hkd
      have g103 := g102.calm hkd
      generalize w2.drew = w3 at *
      obtain ⟨rk, _, _, _⟩ := g103.k
      refine W_chkIn [.int .i64 (i64 (p + 1)), .agg (wayArr p s)] (by simp [g73.pos, g73.all]) ?_
      simp only [W_seq, W_set]
      refine ok_intro (.bool t) (by simp [rk, ht]) ?_
      try simp only [W_seq]
      refine W_calm (vs := [.agg (wayArr p s), .int .i64 (i64 (p + 1))]) (by simp [g73.pos, g73.all]) (ret_of_T (wto_T w3 p (i64 (p + 1)) s)) ?_
      intro w4 hk4
      simp only [W_seq]
      refine W_row' (v := .agg (wayArr (i64 (p + 1)) s)) (cs := wayArr (i64 (p + 1)) s) (by simp [way_all]) rfl ?_
      have hk04 := hk03.trans hk4
      simp
      exact ⟨told_if2 (hp_new w4 _) hk04.size, hk04.alloc _⟩
    · rw [if_neg h5]
      refine W_no (by simp [ak, h5]) ?_
      simp only [W_skip, W_seq]
      have x3 : wcell w2 p8 3 = some (.int .i16 x.off) := by rw [wcell_of h82]; rfl
      have q2 : wcell w2 p9 2 = some (.int .i64 q.size) := by rw [wcell_of h92]; rfl
      refine W_calm (vs := [s.val, .int .i64 (i64 (a.low + x.off)), .int .i64 q.size, r.val]) (by simp [g72.state, al, x3, q2, eo, g102.row, AState.val, AReg.val]) (ret_of_T (save_T w2 s (i64 (a.low + x.off)) q.size r (i64_in _))) ?_
      intro w3 hk3
      generalize saveOf s (i64 (a.low + x.off)) q.size r = o at *
      obtain ⟨o, ok⟩ := o
      have hk03 := hk02.trans hk3
      simp only [W_seq]
      refine W_chkIn [.bool ok, o.val] (by simp) ?_
      simp only [W_seq]
      refine W_new' (v := .agg AState.zero.arr) (cs := AState.zero.arr) (by simp) rfl ?_
      have h18 := SBox.new w3 AState.zero
      have hk4 := (Kept.refl none' w3).alloc (.cells AState.zero.arr 73)
      have g74 := (g72.calm hk3).calm hk4
      have n18 : p7 < w3.heap.size := blk_lt (g72.calm hk3)
      generalize hb18 : w3.heap.size = b18 at *
      generalize (w3.alloc (.cells AState.zero.arr 73)) = w4 at *
      try simp only [W_seq]
      refine W_store (xv := .pointer (some ⟨b18, 0, none⟩)) (vv := .agg o.arr) (by simp) (by simp [AState.val]) (h18.setAll o) (stab_nil _ _ _) ?_
      have h185 := SBox.put (blk_lt h18) o
      have hk5 : Kept none' w3 _ := hk4.putNew (Nat.le_of_eq hb18) (.cells o.arr 73 (0, 0))
      have g75 : WayBox _ p7 p s := (put_other (o := .cells o.arr 73) (w := w4) (show p7 ≠ b18 by omega)).trans g74
      generalize Eng.put w4 b18 (.cells o.arr 73 (0, 0)) = w5 at *
      have hk05 := hk03.trans hk5
      simp only [W_seq, W_set]
      refine ok_intro (.bool ok) (by simp) ?_
      try simp only [W_seq]
      refine W_store (xv := .pointer (some ⟨p7, 1, none⟩)) (vv := .agg o.arr) (by simp) (by simp [h185.row]) (g75.setstate o) (stab_nil _ _ _) ?_
      have g76 := WayBox.put (blk_lt g75) p o
      have hk06 := hk05.putNew l7 (.cells (wayArr p o) 76 (0, 0))
      generalize Eng.put w5 p7 (.cells (wayArr p o) 76 (0, 0)) = w6 at *
      try simp only [W_seq]
      refine W_calm (vs := [.agg (wayArr p o), .int .i64 (i64 (p + 1))]) (by simp [g76.pos, g76.all]) (ret_of_T (wto_T w6 p (i64 (p + 1)) o)) ?_
      intro w7 hk7
      simp only [W_seq]
      refine W_row' (v := .agg (wayArr (i64 (p + 1)) o)) (cs := wayArr (i64 (p + 1)) o) (by simp [way_all]) rfl ?_
      have hk07 := hk06.trans hk7
      try simp only [W_seq]
      refine W_chkIn [.bool ok] (by simp) ?_
      simp
      exact ⟨told_if2 (hp_new w7 _) hk07.size, hk07.alloc _⟩
def atomV (J : Jb) (p : Int) (s : AState) (x : Ins) (q : Parts) : Option Ways :=
  if (readsOf J.sp s (s.r x.dst) x.off q.size && writesOf J.sp J.fz (s.r x.dst) x.off q.size && decide ((s.r x.src).kind = 1)) = true then some [(i64 (p + 1), s)] else none
set_option maxHeartbeats 8000000 in
theorem atom_ret {J : Jb} {w : World} {left : Value} {ids : Int} (hj : JAt J w left ids) (p : Int) (s : AState) {x : Ins} (hx : XOk x) (q : Parts) :
    Ret Tryz.prog 59 [.pointer (some ⟨J.cb, 0, none⟩), .agg (wayArr p s), .agg x.arr, .agg q.arr] w fun v w' => Told w (atomV J p s x q) v w' ∧ Kept none' w w' := by
  refine ret_of_W Tryz.func59 rfl ok_verify_checker_atomic ?_
  have hd := hx.dst
  have hd' : (x.dst : Int) < 11 := by omega
  have hsr := hx.src
  have hs' : (x.src : Int) < 11 := by omega
  have e1 := row_wreg p s hd
  have eo := off64 hx.wf
  unfold atomV
  generalize hA : s.r x.dst = a at *
  simp only [c_verify_checker_atomic]
  rw [W_assoc, W_seq]
  refine W_seg [.v (.pointer (some ⟨J.cb, 0, none⟩)), .v (.agg (wayArr p s)), .v (.agg x.arr), .v (.agg q.arr), .v (.slice none 0 0), .v (.bool false), .p 76 (wayArr p s), .p 28 x.arr, .p 82 q.arr, .p 68 a.arr,
    .any, .any, .any, .any, .any, .any, .any, .any] (by simp [hj.lt]) ?_ (fun B hB => ?_) ?_
  · simp_all [slsOk, Sl.ok, hj.lt]
  · simp [C_cond_eq, hd', hd, e1, slsIs, Sl.is]
  intro w1 hk
  refine open_v (open_v (open_v (open_v (open_v (open_v (open_p fun p6 l6 h6 => open_p fun p7 l7 h7 => open_p fun p8 l8 h8 => open_p fun p9 l9 h9 => ?_))))))
  repeat' refine open_any fun _ => ?_
  refine open_nil ?_
  have g6 : WayBox w1 p6 p s := h6
  have g9 : RegBox w1 p9 a := h9
  have x3 : wcell w1 p7 3 = some (.int .i16 x.off) := by rw [wcell_of h7]; rfl
  have q2 : wcell w1 p8 2 = some (.int .i64 q.size) := by rw [wcell_of h8]; rfl
  clear e1
  simp only [W_seq]
  refine W_calm (vs := [.pointer (some ⟨J.cb, 0, none⟩), s.val, a.val, .int .i64 x.off, .int .i64 q.size]) (by simp [g6.state, g9.row, x3, q2, eo, AReg.val, AState.val]) (ret_of_T (reads_T (hj.calm hk) s a x.off q.size)) ?_
  intro w2 hk2
  have g62 := g6.calm hk2
  have g92 := g9.calm hk2
  have h72 := hk2.has h7 fun h => h
  have h82 := hk2.has h8 fun h => h
  have hk02 := hk.trans hk2
  have x3 : wcell w2 p7 3 = some (.int .i16 x.off) := by rw [wcell_of h72]; rfl
  have q2 : wcell w2 p8 2 = some (.int .i64 q.size) := by rw [wcell_of h82]; rfl
  simp only [W_seq]
  have kd := at_kind s hsr
  generalize hrd : readsOf J.sp s a x.off q.size = rd at *
  generalize hwr : writesOf J.sp J.fz a x.off q.size = wr at *
  cases rd with
  | false =>
    refine W_chkIn [.bool false, .bool false, .bool false, .bool false] (by simp) ?_
    try simp only [W_seq]
    refine W_no (by simp) ?_
    rw [W_clr]
    rw [W_set]
    refine ok_intro (.bool false) (by simp) ?_
    have hk3 := hk02
    have g63 := g62
    have h73 := h72
    generalize w2 = w3 at *
    simp only [W_seq, W_draw]
    have hkd : Kept none' w3 w3.drew := (Kept.refl _ _).drew
    have hk04 := hk3.trans hkd
    have g64 := g63.calm hkd
    have h74 := hkd.has h73 fun h => h
    generalize w3.drew = w4 at *
    have x2 : wcell w4 p7 2 = some (.int .u8 x.src) := by rw [wcell_of h74]; rfl
    refine W_chkIn [.bool false] (by simp) ?_
    simp only [W_seq]
    refine W_calm (vs := [.agg (wayArr p s), .int .i64 (i64 (p + 1))]) (by simp [g64.pos, g64.all]) (ret_of_T (wto_T w4 p (i64 (p + 1)) s)) ?_
    intro w5 hk5
    have hk05 := hk04.trans hk5
    have g65 := g64.calm hk5
    have h75 := hk5.has h74 fun h => h
    have x2 : wcell w5 p7 2 = some (.int .u8 x.src) := by rw [wcell_of h75]; rfl
    have ks : wcell w5 p6 (1 + x.src * 11) = some (.int .i64 (s.r x.src).kind) := by
      rw [wcell_of g65, Nat.add_comm, way_at _ _ _ (by omega)]
      rw [astate_at _ _ (by omega)] at kd
      exact kd
    simp only [W_seq]
    refine W_chkIn [.bool false] (by simp) ?_
    try simp only [W_seq]
    refine W_no (by simp) ?_
    simp only [W_clr]
    try simp only [W_seq, W_set]
    refine ok_intro (.bool false) (by simp) ?_
    try simp only [W_seq]
    refine W_row' (v := .agg (wayArr (i64 (p + 1)) s)) (cs := wayArr (i64 (p + 1)) s) (by simp [way_all]) rfl ?_
    simp
    exact ⟨⟨_, rfl, rfl⟩, hk05.alloc _⟩
  | true =>
    refine W_chkIn [.int .i64 q.size, .int .i64 x.off, .agg a.arr, .pointer (some ⟨J.cb, 0, none⟩)] (by simp [q2, x3, eo, g92.row]) ?_
    try simp only [W_seq]
    refine W_yes (by simp) ?_
    refine W_calm (vs := [.pointer (some ⟨J.cb, 0, none⟩), a.val, .int .i64 x.off, .int .i64 q.size]) (by simp [q2, x3, eo, g92.row, AReg.val]) (ret_of_T (vwrites_T (hj.calm hk02) a x.off q.size)) ?_
    intro w3 hk23
    rw [hwr]
    rw [W_set]
    refine ok_intro (.bool wr) (by simp) ?_
    have hk3 := hk02.trans hk23
    have g63 := g62.calm hk23
    have h73 := hk23.has h72 fun h => h
    simp only [W_seq, W_draw]
    have hkd : Kept none' w3 w3.drew := (Kept.refl _ _).drew
    have hk04 := hk3.trans hkd
    have g64 := g63.calm hkd
    have h74 := hkd.has h73 fun h => h
    generalize w3.drew = w4 at *
    have x2 : wcell w4 p7 2 = some (.int .u8 x.src) := by rw [wcell_of h74]; rfl
    refine W_chkIn [.bool wr] (by simp) ?_
    simp only [W_seq]
    refine W_calm (vs := [.agg (wayArr p s), .int .i64 (i64 (p + 1))]) (by simp [g64.pos, g64.all]) (ret_of_T (wto_T w4 p (i64 (p + 1)) s)) ?_
    intro w5 hk5
    have hk05 := hk04.trans hk5
    have g65 := g64.calm hk5
    have h75 := hk5.has h74 fun h => h
    have x2 : wcell w5 p7 2 = some (.int .u8 x.src) := by rw [wcell_of h75]; rfl
    have ks : wcell w5 p6 (1 + x.src * 11) = some (.int .i64 (s.r x.src).kind) := by
      rw [wcell_of g65, Nat.add_comm, way_at _ _ _ (by omega)]
      rw [astate_at _ _ (by omega)] at kd
      exact kd
    cases wr with
    | true =>
      simp only [W_seq]
      refine W_chkIn [.pointer (some ⟨p7, 2, none⟩)] (by simp) ?_
      try simp only [W_seq]
      refine W_yes (by simp) ?_
      rw [W_set]
      refine ok_intro (.int .u8 x.src) (by simp [x2]) ?_
      try simp only [W_seq, W_set]
      refine ok_intro (.bool (decide ((s.r x.src).kind = 1))) (by simp [hs', hsr, ks]) ?_
      try simp only [W_seq]
      refine W_row' (v := .agg (wayArr (i64 (p + 1)) s)) (cs := wayArr (i64 (p + 1)) s) (by simp [way_all]) rfl ?_
      generalize ht : decide ((s.r x.src).kind = 1) = t
      simp
      exact ⟨told_if2 (hp_new w5 _) hk05.size, hk05.alloc _⟩
    | false =>
      simp only [W_seq]
      refine W_chkIn [.bool false] (by simp) ?_
      try simp only [W_seq]
      refine W_no (by simp) ?_
      simp only [W_clr]
      try simp only [W_seq, W_set]
      refine ok_intro (.bool false) (by simp) ?_
      try simp only [W_seq]
      refine W_row' (v := .agg (wayArr (i64 (p + 1)) s)) (cs := wayArr (i64 (p + 1)) s) (by simp [way_all]) rfl ?_
      simp
      exact ⟨⟨_, rfl, rfl⟩, hk05.alloc _⟩
end Go.Proofs.YtkgpmjjleemdlaaGreat

set_option linter.unusedSimpArgs false
set_option linter.unusedVariables false
set_option maxRecDepth 8000
namespace Go.Proofs.YtkgpmjjleemdlaaGreat
open Go.Eng Go.Sort
attribute [local irreducible] Go.Eng.W

def wideNum (a b : Int) : Int := bitOr .u64 (w64 (IntKind.u32.wrap a)) (shl64 (w64 (IntKind.u32.wrap b)) 32)
def mapR (slot : Int) : AReg := ⟨4, 0, 0, 0, 0, 0, 0, slot, 0, 0, 0⟩
def wideV (J : Jb) (p : Nat) (s : AState) (x : Ins) : Option Ways :=
  if x.src = 0 then some [(i64 (p + 2), s.setR x.dst (knownR (wideNum x.imm ((J.xs[p + 1]?).getD Ins.zero).imm)))]
  else if (specOf J.sp x.imm).2 = true then some [(i64 (p + 2), s.setR x.dst (mapR x.imm))] else none
theorem imm64 {x : Ins} (h : x.wf) : IntKind.i64.wrap x.imm = x.imm := i64w (by have := h.imm; omega) (by have := h.imm; omega)
set_option maxHeartbeats 8000000 in
theorem wide_ret {J : Jb} {w : World} {left : Value} {ids : Int} (hj : JAt J w left ids) {p : Nat} (hp : p ≤ 1000) (s : AState) {x y : Ins} (hx : XOk x) (hy : J.xs[p + 1]? = some y) :
    Ret Tryz.prog 60 [.pointer (some ⟨J.cb, 0, none⟩), .agg (wayArr p s), .agg x.arr] w fun v w' => Told w (wideV J p s x) v w' ∧ Kept none' w w' := by
  refine ret_of_W Tryz.func60 rfl ok_verify_checker_wide ?_
  have hd := hx.dst
  have hd' : (x.dst : Int) < 11 := by omega
  have ei := imm64 hx.wf
  unfold wideV
  rw [hy, Option.getD_some]
  simp only [c_verify_checker_wide]
  rw [W_seq]
  refine W_seg [.v (.pointer (some ⟨J.cb, 0, none⟩)), .v (.agg (wayArr p s)), .v (.agg x.arr), .v (.slice none 0 0), .v (.bool false), .p 76 (wayArr p s), .p 28 x.arr, .any, .any, .any, .any, .any, .any, .any, .any, .any] (by simp [hj.lt]) ?_ (fun B hB => ?_) ?_
  · simp_all [slsOk, Sl.ok, hj.lt]
  · simp [C_cond_eq, slsIs, Sl.is]
  intro w1 hk
  refine open_v (open_v (open_v (open_v (open_v (open_p fun p5 l5 h5 => open_p fun p6 l6 h6 => ?_)))))
  repeat' refine open_any fun _ => ?_
  refine open_nil ?_
  have g5 : WayBox w1 p5 p s := h5
  have x2 : wcell w1 p6 2 = some (.int .u8 x.src) := by rw [wcell_of h6]; rfl
  simp only [W_seq]
  by_cases h0 : x.src = 0
  · rw [if_pos h0]
    refine W_yes (by simp [x2, h0]) ?_
    simp only [W_seq, W_draw]
    have hkd : Kept none' w1 w1.drew := (Kept.refl _ _).drew
    have hk2 := hk.trans hkd
    have g52 := g5.calm hkd
    have h62 := hkd.has h6 fun h => h
    have hj2 := hj.calm hk2
    generalize w1.drew = w2 at *
    have x4 : wcell w2 p6 4 = some (.int .i32 x.imm) := by rw [wcell_of h62]; rfl
    obtain ⟨cl, _⟩ := hj2.cells
    obtain ⟨b, o, c, ev, hrow⟩ := hj2.code.at hy
    have hlt := (List.getElem?_eq_some_iff.1 hy).1
    have hc4 := row_cell hrow 4 (by omega)
    rw [ev] at cl
    have ep : IntKind.i64.wrap ((p : Int) + 1) = ((p + 1 : Nat) : Int) := i64_succ (by omega)
    have hlt' : ((p + 1 : Nat) : Int) < J.xs.length := by omega
    have hge : (0 : Int) ≤ ((p + 1 : Nat) : Int) := by omega
    rw [W_set]
    refine ok_intro (.int .u64 (wideNum x.imm y.imm)) ?_ ?_
    · simp [x4, cl, g52.pos, ep, hlt, hlt', hge, hc4, -Int.natCast_add]
      rfl
    simp only [W_seq, W_draw]
    have hkd : Kept none' w2 w2.drew := (Kept.refl _ _).drew
    have hk3 := hk2.trans hkd
    have g53 := g52.calm hkd
    have h63 := hkd.has h62 fun h => h
    generalize w2.drew = w3 at *
    have x1 : wcell w3 p6 1 = some (.int .u8 x.dst) := by rw [wcell_of h63]; rfl
    simp only [W_seq, W_set]
    refine ok_intro (.agg (wayArr p s)) (by simp [g53.all]) ?_
    try simp only [W_seq, W_set]
    refine ok_intro (.int .u8 x.dst) (by simp [x1]) ?_
    try simp only [W_seq]
    refine W_calm (by simp) (ret_of_T (known_T w3 (wideNum x.imm y.imm))) ?_
    intro w4 hk4
    have hk04 := hk3.trans hk4
    try simp only [W_seq]
    refine W_call (by simp [AReg.val]) (wset_ret w4 p s hd (knownR (wideNum x.imm y.imm)) 2) ?_
    rintro r w5 h5
    refine ⟨stab_nil _ _ _, ?_⟩
    have hv := oneWay_var h5
    have hk5 := h5.1
    have ht := told_if (t := true) (h5.before hk04)
    rw [if_pos rfl] at ht
    simp [hv]
    exact ⟨ht, hk04.trans hk5⟩
  · rw [if_neg h0]
    refine W_no (by simp [x2]; omega) ?_
    simp only [W_skip, W_seq]
    have x4 : wcell w1 p6 4 = some (.int .i32 x.imm) := by rw [wcell_of h6]; rfl
    refine W_calm (vs := [.pointer (some ⟨J.cb, 0, none⟩), .int .i64 x.imm]) (by simp [x4, ei]) (ret_of_T (spec_T (hj.calm hk) x.imm)) ?_
    intro w2 hk2
    generalize specOf J.sp x.imm = o at *
    obtain ⟨o, ok⟩ := o
    simp only [W_seq]
    refine W_chkIn [.bool ok, .agg o.arr] (by simp) ?_
    simp only [W_seq]
    refine W_new' (v := .agg Sp.zero.arr) (cs := Sp.zero.arr) (by simp [repSp]) rfl ?_
    have h13 := hp_new w2 (.cells Sp.zero.arr 55)
    have hk3 := (Kept.refl none' w2).alloc (.cells Sp.zero.arr 55)
    generalize hb13 : w2.heap.size = b13 at *
    generalize (w2.alloc (.cells Sp.zero.arr 55)) = w3 at *
    have hs13 := box_store (v := .agg o.arr) h13 (n := 4) rfl rfl (by simp [Value.cells, Value.oneCell', Sp.arr])
    try simp only [W_seq]
    refine W_store (xv := .pointer (some ⟨b13, 0, none⟩)) (vv := .agg o.arr) (by simp) (by simp) hs13 (stab_nil _ _ _) ?_
    have hk4 := hk3.putNew (Nat.le_of_eq hb13) (.cells (Value.agg o.arr).cells 55 (0, 0))
    generalize Eng.put w3 b13 (.cells (Value.agg o.arr).cells 55 (0, 0)) = w4 at *
    have hk14 := hk2.trans hk4
    have hk04 := hk.trans hk14
    have g54 := g5.calm hk14
    have h64 := hk14.has h6 fun h => h
    have x4 : wcell w4 p6 4 = some (.int .i32 x.imm) := by rw [wcell_of h64]; rfl
    have x1 : wcell w4 p6 1 = some (.int .u8 x.dst) := by rw [wcell_of h64]; rfl
    simp only [W_seq, W_set]
    refine ok_intro (.bool ok) (by simp) ?_
    try simp only [W_seq]
    have hm : (AReg.zero.arr.setIfInBounds 0 (.int .i64 4)).setIfInBounds 7 (.int .i64 x.imm) = (mapR x.imm).arr := rfl
    refine W_chkIn [.agg (mapR x.imm).arr] (by simp [x4, ei]; exact hm) ?_
    try simp only [W_seq]
    refine W_call (vs := [.agg (wayArr p s), .int .u8 x.dst, .agg (mapR x.imm).arr, .int .i64 2]) (by simp [x4, ei, g54.all, x1]; exact hm) (wset_ret w4 p s hd (mapR x.imm) 2) ?_
    rintro r w5 h5
    refine ⟨stab_nil _ _ _, ?_⟩
    have hv := oneWay_var h5
    have hk5 := h5.1
    try simp only [W_seq]
    refine W_chkIn [.bool ok] (by simp) ?_
    simp [hv]
    exact ⟨told_if (h5.before hk04), hk04.trans hk5⟩
end Go.Proofs.YtkgpmjjleemdlaaGreat

set_option linter.unusedSimpArgs false
set_option linter.unusedVariables false
set_option maxRecDepth 8000
namespace Go.Proofs.YtkgpmjjleemdlaaGreat
open Go.Eng Go.Sort
attribute [local irreducible] Go.Eng.W

def maybeR (slot id : Int) : AReg := ⟨6, 0, 0, 0, 0, 0, 0, slot, id, 0, 0⟩
def callV (J : Jb) (ids : Int) (p : Int) (s : AState) (x : Ins) : Option Ways × Int :=
  if x.imm = 5 ∨ x.imm = 7 then (some [(i64 (p + 1), calledOf s (unkOf 8))], ids)
  else if (s.r 1).kind ≠ 4 ∨ (specOf J.sp (s.r 1).slot).2 = false then (none, ids)
  else if argsOf J.sp J.fz s x.imm (s.r 1).slot (specOf J.sp (s.r 1).slot).1 = false then (none, ids)
  else if x.imm = 1 then (some [(i64 (p + 1), calledOf s (maybeR (s.r 1).slot (i64 (ids + 1))))], i64 (ids + 1))
  else if x.imm = 88 ∨ x.imm = 89 then
    (if (filledOf J.sp J.fz s 2 (specOf J.sp (s.r 1).slot).1.val).2 = true then some [(i64 (p + 1), calledOf (filledOf J.sp J.fz s 2 (specOf J.sp (s.r 1).slot).1.val).1 (unkOf 8))] else none, ids)
  else (some [(i64 (p + 1), calledOf s (unkOf 8))], ids)
/-- The checker's number of Maybes is written. -/
theorem ChkAt.setids {w : World} {cb : Nat} {l specs frozen left : Value} {priv : Bool} {mb : Nat} {ids : Int} (h : ChkAt w cb l specs frozen priv left mb ids) (n : Int) :
    ∃ w', stv w 1 (.pointer (some ⟨cb, 6, none⟩)) (.int .i64 n) = some w' ∧ ChkAt w' cb l specs frozen priv left mb n ∧ Kept (fun j => j = cb) w w' := by
  have hb := blk_lt h.box
  refine ⟨_, ?_, ⟨put_same hb⟩, (Kept.refl (fun j => j = cb) w).put (b := cb) (fun _ => rfl) _⟩
  rw [stv_of (n := 1) (v := .int .i64 n) h.box rfl (by simp) (.inl (by simp)) (by simp [Value.cells, Value.oneCell'])]
  rfl
theorem regs_1 {w : World} {b : Nat} {p : Int} {s : AState} (h : WayBox w b p s) : wcell w b 12 = some (.int .i64 (s.r 1).kind) ∧ wcell w b 19 = some (.int .i64 (s.r 1).slot) := by
  have h0 := cell_reg s 1 0 (by omega) (by omega)
  have h7 := cell_reg s 1 7 (by omega) (by omega)
  constructor
  · rw [wcell_of h, way_at p s 11 (by omega), h0]; rfl
  · rw [wcell_of h, way_at p s 18 (by omega), h7]; rfl
set_option maxHeartbeats 16000000 in
theorem call_ret {J : Jb} {w : World} {left : Value} {ids : Int} (hj : JAt J w left ids) (hsp : ∀ y ∈ J.sp, 0 ≤ y.val ∧ y.val ≤ 1000000) (p : Int) (s : AState) {x : Ins} (hx : XOk x) :
    Ret Tryz.prog 55 [.pointer (some ⟨J.cb, 0, none⟩), .agg (wayArr p s), .agg x.arr] w fun v w' => Told w (callV J ids p s x).1 v w' ∧ ChkAt w' J.cb J.l J.specs J.frozen J.priv left J.mb (callV J ids p s x).2 ∧ Kept (fun j => j = J.cb) w w' := by
  refine ret_of_W Tryz.func55 rfl ok_verify_checker_call ?_
  unfold callV
  have tu := unk_T
  simp only [c_verify_checker_call]
  rw [W_assoc, W_seq]
  refine W_seg [.v (.pointer (some ⟨J.cb, 0, none⟩)), .v (.agg (wayArr p s)), .v (.agg x.arr), .v (.slice none 0 0), .v (.bool false), .p 76 (wayArr p s), .p 28 x.arr, .any, .p 68 (unkOf 8).arr, .any, .any, .any, .any, .any, .any, .any, .any, .any, .any, .any, .any, .any, .any, .any, .any] (by simp [hj.lt]) ?_ (fun B hB => ?_) ?_
  · simp_all [slsOk, Sl.ok, hj.lt]
  · have tu := unk_T w 8
    simp only [AReg.val] at tu
    simp [C_cond_eq, slsIs, Sl.is, tu]
  intro w1 hk
  refine open_v (open_v (open_v (open_v (open_v (open_p fun p5 l5 h5 => open_p fun p6 l6 h6 => open_any fun u7 => open_p fun p8 l8 h8 => ?_)))))
  refine open_any fun VV9 => open_any fun VV10 => open_any fun VV11 => open_any fun VV12 => open_any fun VV13 => open_any fun VV14 => open_any fun VV15 => open_any fun VV16 => open_any fun VV17 => open_any fun VV18 => open_any fun VV19 => open_any fun VV20 => open_any fun VV21 => open_any fun VV22 => open_any fun VV23 => open_any fun VV24 => ?_
  refine open_nil ?_
  have g5 : WayBox w1 p5 p s := h5
  have g8 : RegBox w1 p8 (unkOf 8) := h8
  have x4 : wcell w1 p6 4 = some (.int .i32 x.imm) := by rw [wcell_of h6]; rfl
  have n5 : p5 ≠ p8 := cells_ne h5 h8 (by decide)
  have n6 : p6 ≠ p8 := cells_ne h6 h8 (by decide)
  have n56 : p6 ≠ p5 := cells_ne h6 h5 (by decide)
  have ncb5 : J.cb ≠ p5 := by have := hj.lt; omega
  have ncb8 : J.cb ≠ p8 := by have := hj.lt; omega
  have ncb6 : J.cb ≠ p6 := by have := hj.lt; omega
  clear tu
  try simp only [W_seq]
  by_cases h57 : x.imm = 5 ∨ x.imm = 7
  · rw [if_pos h57]
    refine W_yes (by simp [x4, pickV_bool]; exact h57) ?_
    try simp only [W_seq]
    refine W_calm (vs := [s.val, (unkOf 8).val]) (by simp [g5.state, g8.row, AState.val, AReg.val]) (ret_of_T (called_T w1 s (unkOf 8))) ?_
    intro w2 hk2
    have g52 := g5.calm hk2
    have hk02 := hk.trans hk2
    try simp only [W_seq]
    refine W_store (xv := .pointer (some ⟨p5, 1, none⟩)) (vv := .agg (calledOf s (unkOf 8)).arr) (by simp) (by simp [AState.val]) (g52.setstate _) (stab_nil _ _ _) ?_
    generalize calledOf s (unkOf 8) = t at *
    have g53 := WayBox.put (blk_lt g52) p t
    have hk03 := hk02.putNew l5 (.cells (wayArr p t) 76 (0, 0))
    generalize Eng.put w2 p5 (.cells (wayArr p t) 76 (0, 0)) = w3 at *
    try simp only [W_seq]
    refine W_calm (vs := [.agg (wayArr p t), .int .i64 (i64 (p + 1))]) (by simp [g53.pos, g53.all]) (ret_of_T (wto_T w3 p (i64 (p + 1)) t)) ?_
    intro w4 hk4
    try simp only [W_seq]
    refine W_row' (v := .agg (wayArr (i64 (p + 1)) t)) (cs := wayArr (i64 (p + 1)) t) (by simp [way_all]) rfl ?_
    have hk04 := hk03.trans hk4
    simp
    exact ⟨told_one (hp_new w4 _) hk04.size, hj.chk.calm (hk04.alloc _), (hk04.alloc _).any⟩
  rw [if_neg h57]
  simp only [not_or] at h57
  refine W_no (by simp [x4, pickV_bool]; exact h57) ?_
  obtain ⟨k1, s1⟩ := regs_1 g5
  generalize hslot : (s.r 1).slot = slot at *
  generalize hkind : (s.r 1).kind = kind at *
  simp only [W_skip, W_seq, W_set]
  refine ok_intro (.int .i64 slot) (by simp [s1]) ?_
  try simp only [W_seq]
  refine W_calm (vs := [.pointer (some ⟨J.cb, 0, none⟩), .int .i64 slot]) (by simp) (ret_of_T (spec_T (hj.calm hk) slot)) ?_
  intro w2 hk2
  have hoge : (specOf J.sp slot).2 = true → 0 ≤ slot := specOf_ge
  have hoval : (specOf J.sp slot).2 = true → 0 ≤ (specOf J.sp slot).1.val ∧ (specOf J.sp slot).1.val ≤ 1000000 := by
    intro h
    unfold specOf at h ⊢
    split at h
    · cases h
    · rename_i hn
      rw [if_neg hn]
      have hl : slot.toNat < J.sp.length := by omega
      rw [List.getElem?_eq_getElem hl]
      exact hsp _ (List.getElem_mem hl)
  generalize specOf J.sp slot = o at *
  obtain ⟨o, ok⟩ := o
  try simp only [W_seq]
  refine W_chkIn [.bool ok, .agg o.arr] (by simp) ?_
  try simp only [W_seq]
  refine W_new' (v := .agg Sp.zero.arr) (cs := Sp.zero.arr) (by simp [repSp]) rfl ?_
  have h14 := hp_new w2 (.cells Sp.zero.arr 55)
  have hk3 := (Kept.refl none' w2).alloc (.cells Sp.zero.arr 55)
  generalize hb14 : w2.heap.size = b14 at *
  generalize (w2.alloc (.cells Sp.zero.arr 55)) = w3 at *
  have hs14 := box_store (v := .agg o.arr) h14 (n := 4) rfl rfl (by simp [Value.cells, Value.oneCell', Sp.arr])
  try simp only [W_seq]
  refine W_store (xv := .pointer (some ⟨b14, 0, none⟩)) (vv := .agg o.arr) (by simp) (by simp) hs14 (stab_nil _ _ _) ?_
  have h144 : (Eng.put w3 b14 (.cells (Value.agg o.arr).cells 55 (0, 0))).heap[b14]? = some (.cells o.arr 55 (0, 0)) := put_same (blk_lt h14)
  have hk4 := hk3.putNew (Nat.le_of_eq hb14) (.cells (Value.agg o.arr).cells 55 (0, 0))
  generalize Eng.put w3 b14 (.cells (Value.agg o.arr).cells 55 (0, 0)) = w4 at *
  have hk14 := hk2.trans hk4
  have hk04 := hk.trans hk14
  have g54 := g5.calm hk14
  have g84 := g8.calm hk14
  have h64 := hk14.has h6 fun h => h
  have x4 : wcell w4 p6 4 = some (.int .i32 x.imm) := by rw [wcell_of h64]; rfl
  obtain ⟨k1, s1⟩ := regs_1 g54
  rw [hslot] at s1
  rw [hkind] at k1
  have r14 : wrow w4 b14 0 4 = some o.arr := wrow_box h144 rfl
  clear h14 hs14 hk3 hk4 hk2 g5 g8 h5 h6 h8
  simp only [W_seq, W_set]
  refine ok_intro (.bool ok) (by simp) ?_
  try simp only [W_seq, W_set]
  refine ok_intro (.bool (!decide (kind = 4) || !ok)) (by simp [k1, pickV_bool]) ?_
  try simp only [W_seq]
  by_cases hbad : kind ≠ 4 ∨ ok = false
  · rw [if_pos hbad]
    have hbb : (!decide (kind = 4) || !ok) = true := by rcases hbad with h | h <;> simp [h]
    rw [hbb]
    refine W_chkIn [.bool false, .bool false, .bool false, .bool false, .bool false] (by simp) ?_
    try simp only [W_seq]
    refine W_no (by simp) ?_
    rw [W_clr]
    try simp only [W_seq]
    refine W_yes (by simp) ?_
    simp
    exact ⟨⟨_, rfl, rfl⟩, hj.chk.calm hk04, hk04.any⟩
  rw [if_neg hbad]
  simp only [not_or, Classical.not_not, Bool.not_eq_false] at hbad
  obtain ⟨hk4', rfl⟩ := hbad
  have hbb : (!decide (kind = 4) || !true) = false := by simp [hk4']
  rw [hbb]
  refine W_chkIn [.agg o.arr, .int .i64 slot, .int .i32 x.imm, .agg s.arr, .pointer (some ⟨J.cb, 0, none⟩)] (by simp [r14, x4, g54.state]) ?_
  try simp only [W_seq]
  refine W_yes (by simp) ?_
  have hge := hoge rfl
  obtain ⟨hv0, hv1⟩ := hoval rfl
  refine W_calm (vs := [.pointer (some ⟨J.cb, 0, none⟩), s.val, .int .i32 x.imm, .int .i64 slot, .agg o.arr]) (by simp [r14, x4, g54.state, AState.val]) (ret_of_T (args_TV (hj.calm hk04) s x.imm slot o hge)) ?_
  intro w5 hk5
  have g55 := g54.calm hk5
  have g85 := g84.calm hk5
  have h65 := hk5.has h64 fun h => h
  have h145 := hk5.has h144 fun h => h
  have hk05 := hk04.trans hk5
  have x4 : wcell w5 p6 4 = some (.int .i32 x.imm) := by rw [wcell_of h65]; rfl
  clear g54 g84 h64 h144 k1 s1 r14
  try simp only [W_seq]
  cases hargs : argsOf J.sp J.fz s x.imm slot o with
  | false =>
    rw [if_pos rfl]
    refine W_yes (by simp) ?_
    simp
    exact ⟨⟨_, rfl, rfl⟩, hj.chk.calm hk05, hk05.any⟩
  | true =>
    rw [if_neg (by simp)]
    refine W_no (by simp) ?_
    rw [W_skip]
    simp only [W_seq, W_set]
    refine ok_intro (.int .i32 x.imm) (by simp [x4]) ?_
    try simp only [W_seq]
    rw [W_block]
    simp only [W_seq, W_set]
    refine ok_intro (.bool (decide (x.imm = 1))) (by simp) ?_
    by_cases h1 : x.imm = 1
    · rw [if_pos h1]
      refine W_yes (by simp [h1]) ?_
      have hj5 := hj.calm hk05
      obtain ⟨_, _, _, _, c6⟩ := hj5.cells
      obtain ⟨w6, hs6, hc6, hk6⟩ := hj5.chk.setids (i64 (ids + 1))
      try simp only [W_seq]
      refine W_store (xv := .pointer (some ⟨J.cb, 6, none⟩)) (vv := .int .i64 (i64 (ids + 1))) (by simp) (by simp [c6]) hs6 (stab_nil _ _ _) ?_
      have g56 : WayBox w6 p5 p s := hk6.has g55 (fun e => ncb5 e.symm)
      have g86 : RegBox w6 p8 (unkOf 8) := hk6.has g85 (fun e => ncb8 e.symm)
      have c66 : wcell w6 J.cb 6 = some (.int .i64 (i64 (ids + 1))) := by rw [wcell_of hc6.box]; rfl
      have hm : ((AReg.zero.arr.setIfInBounds 0 (.int .i64 6)).setIfInBounds 7 (.int .i64 slot)).setIfInBounds 8 (.int .i64 (i64 (ids + 1))) = (maybeR slot (i64 (ids + 1))).arr := rfl
      have hk06 : Kept (fun j => j = J.cb) w w6 := hk05.any.trans hk6
      try simp only [W_seq]
      refine W_chkIn [.agg (maybeR slot (i64 (ids + 1))).arr] (by simp [c66]; exact hm) ?_
      try simp only [W_seq]
      refine W_store (xv := .pointer (some ⟨p8, 0, none⟩)) (vv := .agg (maybeR slot (i64 (ids + 1))).arr) (by simp) (by simp [c66]; exact hm) (g86.store _) (stab_nil _ _ _) ?_
      have g87 : RegBox _ p8 (maybeR slot (i64 (ids + 1))) := put_same (blk_lt g86)
      have g57 : WayBox _ p5 p s := (put_other (o := .cells (maybeR slot (i64 (ids + 1))).arr 68) (w := w6) n5).trans g56
      have hc7 : ChkAt _ J.cb J.l J.specs J.frozen J.priv left J.mb (i64 (ids + 1)) := ⟨(put_other (o := .cells (maybeR slot (i64 (ids + 1))).arr 68) (w := w6) ncb8).trans hc6.box⟩
      have hk07 : Kept (fun j => j = J.cb) w (Eng.put w6 p8 (.cells (maybeR slot (i64 (ids + 1))).arr 68 (0, 0))) := hk06.put (fun h => by omega) _
      generalize Eng.put w6 p8 (.cells (maybeR slot (i64 (ids + 1))).arr 68 (0, 0)) = w7 at *
      simp only [W_blk, W_seq]
      refine W_calm (vs := [s.val, (maybeR slot (i64 (ids + 1))).val]) (by simp [g57.state, g87.row, AState.val, AReg.val]) (ret_of_T (called_T w7 s (maybeR slot (i64 (ids + 1))))) ?_
      intro w8 hk8
      have g58 := g57.calm hk8
      have hc8 := hc7.calm hk8
      have hk08 := hk07.trans hk8.any
      try simp only [W_seq]
      refine W_store (xv := .pointer (some ⟨p5, 1, none⟩)) (vv := .agg (calledOf s (maybeR slot (i64 (ids + 1)))).arr) (by simp) (by simp [AState.val]) (g58.setstate _) (stab_nil _ _ _) ?_
      generalize calledOf s (maybeR slot (i64 (ids + 1))) = t at *
      have g59 := WayBox.put (blk_lt g58) p t
      have hc9 : ChkAt _ J.cb J.l J.specs J.frozen J.priv left J.mb (i64 (ids + 1)) := ⟨(put_other (o := .cells (wayArr p t) 76) (w := w8) ncb5).trans hc8.box⟩
      have hk09 : Kept (fun j => j = J.cb) w (Eng.put w8 p5 (.cells (wayArr p t) 76 (0, 0))) := hk08.put (fun h => by omega) _
      generalize Eng.put w8 p5 (.cells (wayArr p t) 76 (0, 0)) = w9 at *
      try simp only [W_seq]
      refine W_calm (vs := [.agg (wayArr p t), .int .i64 (i64 (p + 1))]) (by simp [g59.pos, g59.all]) (ret_of_T (wto_T w9 p (i64 (p + 1)) t)) ?_
      intro w10 hk10
      try simp only [W_seq]
      refine W_row' (v := .agg (wayArr (i64 (p + 1)) t)) (cs := wayArr (i64 (p + 1)) t) (by simp [way_all]) rfl ?_
      have hk010 := hk09.trans hk10.any
      have hk11 := (Kept.refl none' w10).alloc (.cells (wayArr (i64 (p + 1)) t) 76)
      simp
      exact ⟨told_one (hp_new w10 _) hk010.size, (hc9.calm hk10).calm hk11, hk010.trans hk11.any⟩
    rw [if_neg h1]
    refine W_no (by simp [h1]) ?_
    simp only [W_seq, W_set]
    refine ok_intro (.bool (decide (x.imm = 88))) (by simp) ?_
    refine W_cut (fun env' w' => w' = w5 ∧ env' = [.pointer (some ⟨J.cb, 0, none⟩), .agg (wayArr p s), .agg x.arr, .slice none 0 0, .bool false, .pointer (some ⟨p5, 0, none⟩), .pointer (some ⟨p6, 0, none⟩), u7, .pointer (some ⟨p8, 0, none⟩), VV9, VV10, VV11, .int .i64 slot, .tuple #[.agg o.arr, .bool true], .pointer (some ⟨b14, 0, none⟩), .bool true, .bool true, .bool false, .int .i32 x.imm, .bool false, .bool (decide (x.imm = 88 ∨ x.imm = 89)), VV21, VV22, VV23, VV24]) ?_ ?_
    · by_cases h88 : x.imm = 88
      · refine W_yes (by simp [h88]) ?_
        simp [h88]
      · refine W_no (by simp [h88]) ?_
        simp [h88, h1]
    rintro env' w' ⟨rfl, rfl⟩
    generalize w' = w5 at *
    by_cases h8 : x.imm = 88 ∨ x.imm = 89
    · rw [if_pos h8]
      refine W_yes (by simp [h8]) ?_
      have q14 : wcell w5 b14 2 = some (.int .i64 o.val) := by rw [wcell_of h145]; rfl
      try simp only [W_seq]
      refine W_calm (vs := [.pointer (some ⟨J.cb, 0, none⟩), s.val, .int .i64 ((2 : Nat) : Int), .int .i64 o.val]) (by simp [g55.state, q14, AState.val]) (ret_of_T (filled_T (hj.calm hk05) s 2 (by omega) o.val hv0 hv1)) ?_
      intro w6 hk6
      generalize filledOf J.sp J.fz s 2 o.val = fs at *
      have g56 := g55.calm hk6
      have g86 := g85.calm hk6
      have hk06 := hk05.trans hk6
      try simp only [W_seq]
      refine W_chkIn [.bool fs.2] (by simp) ?_
      try simp only [W_seq]
      refine W_store (xv := .pointer (some ⟨p5, 1, none⟩)) (vv := .agg fs.1.arr) (by simp) (by simp [AState.val]) (g56.setstate fs.1) (stab_nil _ _ _) ?_
      have g57 := WayBox.put (blk_lt g56) p fs.1
      have g87 : RegBox _ p8 (unkOf 8) := (put_other (o := .cells (wayArr p fs.1) 76) (w := w6) n5.symm).trans g86
      have hk07 := hk06.putNew l5 (.cells (wayArr p fs.1) 76 (0, 0))
      generalize Eng.put w6 p5 (.cells (wayArr p fs.1) 76 (0, 0)) = w7 at *
      simp only [W_seq, W_set]
      refine ok_intro (.bool fs.2) (by simp) ?_
      cases hfs : fs.2 with
      | false =>
        rw [if_neg (by simp)]
        refine W_yes (by simp) ?_
        simp
        exact ⟨⟨_, rfl, rfl⟩, hj.chk.calm hk07, hk07.any⟩
      | true =>
        rw [if_pos rfl]
        refine W_no (by simp) ?_
        simp only [W_skip, W_blk, W_seq]
        have g58 := g57
        have g88 := g87
        have hk08 := hk07
        generalize w7 = w8 at *
        refine W_calm (vs := [AState.val fs.1, (unkOf 8).val]) (by simp [g58.state, g88.row, AState.val, AReg.val]) (ret_of_T (called_T w8 fs.1 (unkOf 8))) ?_
        intro w9 hk9
        have g59 := g58.calm hk9
        have hk09 := hk08.trans hk9
        try simp only [W_seq]
        refine W_store (xv := .pointer (some ⟨p5, 1, none⟩)) (vv := .agg (calledOf fs.1 (unkOf 8)).arr) (by simp) (by simp [AState.val]) (g59.setstate _) (stab_nil _ _ _) ?_
        generalize calledOf fs.1 (unkOf 8) = t at *
        have g510 := WayBox.put (blk_lt g59) p t
        have hk010 := hk09.putNew l5 (.cells (wayArr p t) 76 (0, 0))
        generalize Eng.put w9 p5 (.cells (wayArr p t) 76 (0, 0)) = w10 at *
        try simp only [W_seq]
        refine W_calm (vs := [.agg (wayArr p t), .int .i64 (i64 (p + 1))]) (by simp [g510.pos, g510.all]) (ret_of_T (wto_T w10 p (i64 (p + 1)) t)) ?_
        intro w11 hk11
        try simp only [W_seq]
        refine W_row' (v := .agg (wayArr (i64 (p + 1)) t)) (cs := wayArr (i64 (p + 1)) t) (by simp [way_all]) rfl ?_
        have hk011 := hk010.trans hk11
        simp
        exact ⟨told_one (hp_new w11 _) hk011.size, hj.chk.calm (hk011.alloc _), (hk011.alloc _).any⟩
    · rw [if_neg h8]
      refine W_no (by simp [h8]) ?_
      simp only [W_skip, W_blk, W_seq]
      refine W_calm (vs := [AState.val s, (unkOf 8).val]) (by simp [g55.state, g85.row, AState.val, AReg.val]) (ret_of_T (called_T w5 s (unkOf 8))) ?_
      intro w6 hk6
      have g56 := g55.calm hk6
      have hk06 := hk05.trans hk6
      try simp only [W_seq]
      refine W_store (xv := .pointer (some ⟨p5, 1, none⟩)) (vv := .agg (calledOf s (unkOf 8)).arr) (by simp) (by simp [AState.val]) (g56.setstate _) (stab_nil _ _ _) ?_
      generalize calledOf s (unkOf 8) = t at *
      have g57 := WayBox.put (blk_lt g56) p t
      have hk07 := hk06.putNew l5 (.cells (wayArr p t) 76 (0, 0))
      generalize Eng.put w6 p5 (.cells (wayArr p t) 76 (0, 0)) = w7 at *
      try simp only [W_seq]
      refine W_calm (vs := [.agg (wayArr p t), .int .i64 (i64 (p + 1))]) (by simp [g57.pos, g57.all]) (ret_of_T (wto_T w7 p (i64 (p + 1)) t)) ?_
      intro w8 hk8
      try simp only [W_seq]
      refine W_row' (v := .agg (wayArr (i64 (p + 1)) t)) (cs := wayArr (i64 (p + 1)) t) (by simp [way_all]) rfl ?_
      have hk08 := hk07.trans hk8
      simp
      exact ⟨told_one (hp_new w8 _) hk08.size, hj.chk.calm (hk08.alloc _), (hk08.alloc _).any⟩
end Go.Proofs.YtkgpmjjleemdlaaGreat

