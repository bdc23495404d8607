/- Layer 18: a jump on two numbers. -/
import Derived.Test.YtkgpmjjleemdlaaGreatVh3
import Derived.Test.YtkgpmjjleemdlaaGreatCmdsVi
set_option linter.unusedSimpArgs false
set_option linter.unusedVariables false
set_option maxRecDepth 8000
namespace Go.Proofs.YtkgpmjjleemdlaaGreat
open Go.Eng Go.Sort
attribute [local irreducible] Go.Eng.W

def AReg.setRng (r : AReg) (a : Rng) : AReg := ⟨r.kind, a.b.v, a.b.m, a.lo, a.hi, a.sl, a.sh, r.slot, r.id, r.low, r.high⟩
@[simp] theorem setRng_rng (r : AReg) (a : Rng) : (r.setRng a).rng = a := rfl
theorem setRng_in (r : AReg) (a : Rng) (j : Nat) (h0 : 1 ≤ j) (h1 : j < 7) : a.arr.toList[j - 1]? = some ((r.setRng a).at j) := by
  match j, h0, h1 with
  | 1, _, _ | 2, _, _ | 3, _, _ | 4, _, _ | 5, _, _ | 6, _, _ => rfl
theorem setRng_out (r : AReg) (a : Rng) (j : Nat) (h : j = 0 ∨ 7 ≤ j) (h1 : j < 11) : (r.setRng a).at j = r.at j := by
  match j, h, h1 with
  | 0, _, _ | 7, _, _ | 8, _, _ | 9, _, _ | 10, _, _ => rfl
  | 1, h, _ | 2, h, _ | 3, h, _ | 4, h, _ | 5, h, _ | 6, h, _ => omega
theorem way_setrng (p : Int) (s : AState) (d : Nat) (a : Rng) (h : d < 11) : setRow (wayArr p s) (1 + d * 11 + 1) a.arr.toList = wayArr p (s.setR d ((s.r d).setRng a)) := by
  have hl : a.arr.toList.length = 6 := rfl
  refine way_ext' (by rw [Go.Eng.setRow_size]; simp) ?_ fun i hi => ?_
  · rw [setRow_eq, if_neg (by omega), way_pos]
  · rw [setRow_eq, setR_cell _ _ _ _ h]
    rw [hl, way_size]
    by_cases h2 : d * 11 ≤ i ∧ i < d * 11 + 11
    · rw [if_pos h2]
      by_cases h3 : d * 11 + 1 ≤ i ∧ i < d * 11 + 7
      · rw [if_pos (by omega), show i + 1 - (1 + d * 11 + 1) = (i - d * 11) - 1 by omega, setRng_in _ _ _ (by omega) (by omega)]
      · rw [if_neg (by omega), way_at _ _ _ hi, setRng_out _ _ _ (by omega) (by omega)]
        have : i = d * 11 + (i - d * 11) := by omega
        rw [this, cell_reg _ _ _ h (by omega)]
        simp
    · rw [if_neg h2, if_neg (by omega), way_at _ _ _ hi]
theorem WayBox.setrng {w : World} {b : Nat} {p : Int} {s : AState} (h : WayBox w b p s) {d : Nat} (hd : d < 11) (a : Rng) : stv w 6 (.pointer (some ⟨b, 1 + d * 11 + 1, none⟩)) (.agg a.arr) = some (Eng.put w b (.cells (wayArr p (s.setR d ((s.r d).setRng a))) 76 (0, 0))) := by
  have hc : (Value.agg a.arr).cells = a.arr := rfl
  rw [stv_of (n := 6) (v := .agg a.arr) h (by rw [hc]; rfl) (by rw [way_size]; omega) (.inl (by simp)) (by rw [hc]; simp [Rng.arr, Value.oneCell']), hc, way_setrng p s d a hd]
def refinedS (s : AState) (x : Ins) (reg : Bool) (a b : Rng) : AState :=
  if reg = true then (s.setR x.dst ((s.r x.dst).setRng a)).setR x.src (((s.setR x.dst ((s.r x.dst).setRng a)).r x.src).setRng b) else s.setR x.dst ((s.r x.dst).setRng a)
def onNumV (s : AState) (x : Ins) (q : Parts) (holds : Bool) (at' : Int) : Ways :=
  if q.reg = true ∧ x.dst = x.src then [(at', s)]
  else if (refineR q.op q.long (s.r x.dst).rng (secondA s x q.reg).rng holds).2.2 = true then
    [(at', refinedS s x q.reg (refineR q.op q.long (s.r x.dst).rng (secondA s x q.reg).rng holds).1 (refineR q.op q.long (s.r x.dst).rng (secondA s x q.reg).rng holds).2.1)]
  else []
/-- A row of no way, or of one. -/
def Few (w w' : World) (v : Value) (L : Ways) : Prop := Kept none' w w' ∧ ((L = [] ∧ v = .slice none 0 0) ∨ ∃ b p s, L = [(p, s)] ∧ v = .slice (some ⟨b, 0, none⟩) 1 1 ∧ WayBox w' b p s ∧ w.heap.size ≤ b)
set_option maxHeartbeats 8000000 in
theorem onNum_ret (w : World) (p : Int) {s : AState} {x : Ins} (hx : XOk x) (q : Parts) (holds : Bool) (at' : Int) :
    Ret Tryz.prog 95 [.agg (wayArr p s), .agg x.arr, .agg q.arr, .bool holds, .int .i64 at'] w fun v w' => Few w w' v (onNumV s x q holds at') := by
  refine ret_of_W Tryz.func95 rfl ok_verify_onNumbers ?_
  have hd := hx.dst
  have hd' : (x.dst : Int) < 11 := by omega
  have hsr := hx.src
  have hsr' : (x.src : Int) < 11 := by omega
  have t1 := second_T w s hx.wf hx.src q.reg
  have e1 := row_wreg p s hd
  unfold onNumV
  simp only [AState.val, Ins.val, AReg.val] at t1
  generalize hB : secondA s x q.reg = b at *
  generalize hA : s.r x.dst = a at *
  simp only [c_verify_onNumbers]
  rw [W_assoc, W_seq]
  refine W_seg [.v (.agg (wayArr p s)), .v (.agg x.arr), .v (.agg q.arr), .v (.bool holds), .v (.int .i64 at'), .v (.slice none 0 0), .p 76 (wayArr p s), .p 28 x.arr, .p 82 q.arr, .any,
    .p 68 a.arr, .p 68 b.arr, .any, .any, .any, .any, .any, .any, .any, .any, .any, .any, .any, .any, .any] (by simp) ?_ (fun B hB => ?_) ?_
  · simp_all [slsOk, Sl.ok]
  · simp [C_cond_eq, C_alt, hd', hd, e1, t1, slsIs, Sl.is, hA, pickV_bool]
  · intro w1 hk
    refine open_v (open_v (open_v (open_v (open_v (open_v (open_p fun p6 l6 h6 => open_p fun p7 _ h7 => open_p fun p8 _ h8 => open_any fun u9 => open_p fun p10 _ h10 => open_p fun p11 _ h11 =>
      open_any fun u12 => open_any fun u13 => open_any fun u14 => open_any fun u15 => open_any fun u16 => open_any fun u17 => open_any fun u18 => open_any fun u19 => open_any fun u20 => open_any fun u21 => open_any fun u22 => open_any fun u23 => open_any fun u24 => ?_))))))
    refine open_nil ?_
    have g6 : WayBox w1 p6 p s := h6
    have r10 : wrow w1 p10 1 6 = some a.rng.arr := by rw [wrow_of h10 (by simp)]; rfl
    have r11 : wrow w1 p11 1 6 = some b.rng.arr := by rw [wrow_of h11 (by simp)]; rfl
    have x1 : wcell w1 p7 1 = some (.int .u8 x.dst) := by rw [wcell_of h7]; rfl
    have x2 : wcell w1 p7 2 = some (.int .u8 x.src) := by rw [wcell_of h7]; rfl
    have q1 : wcell w1 p8 1 = some (.int .i64 q.op) := by rw [wcell_of h8]; rfl
    have q3 : wcell w1 p8 3 = some (.bool q.long) := by rw [wcell_of h8]; rfl
    have q4 : wcell w1 p8 4 = some (.bool q.reg) := by rw [wcell_of h8]; rfl
    have hds : ((x.dst : Int) = (x.src : Int)) = (x.dst = x.src) := propext (by omega)
    clear t1 e1
    simp only [W_seq]
    by_cases hsame : q.reg = true ∧ x.dst = x.src
    · rw [if_pos hsame]
      refine W_yes (by simp [q4, x1, x2, hsame.1, hsame.2]) ?_
      simp only [W_seq]
      refine W_calm (vs := [.agg (wayArr p s), .int .i64 at']) (by simp [g6.all]) (ret_of_T (wto_T w1 p at' s)) ?_
      intro w2 hk2
      try simp only [W_seq]
      refine W_row' (v := .agg (wayArr at' s)) (cs := wayArr at' s) (by simp [way_all]) rfl ?_
      have hk02 := hk.trans hk2
      simp
      exact ⟨hk02.alloc _, .inr ⟨_, _, _, rfl, rfl, hp_new w2 _, hk02.size⟩⟩
    rw [if_neg hsame]
    refine W_no (by simp [q4, x1, x2, pickV_bool, hds]; intro h e; exact hsame ⟨h, e⟩) ?_
    simp only [W_skip, W_seq]
    refine W_calm (vs := [.int .i64 q.op, .bool q.long, a.rng.val, b.rng.val, .bool holds]) (by simp [q1, q3, r10, r11, Rng.val]) (ret_of_T (refine_T w1 q.op q.long a.rng b.rng holds)) ?_
    intro w2 hk2
    generalize refineR q.op q.long a.rng b.rng holds = o at *
    obtain ⟨o1, o2, ok⟩ := o
    simp only [W_seq]
    refine W_chkIn [.bool ok, o2.val, o1.val] (by simp) ?_
    simp only [W_seq]
    refine W_new' (v := .agg Rng.zero.arr) (cs := Rng.zero.arr) (by simp; exact ⟨rfl, rfl, rfl, rfl, rfl, rfl⟩) rfl ?_
    have h19 := hp_new w2 (.cells Rng.zero.arr 66)
    have hk3 := (Kept.refl none' w2).alloc (.cells Rng.zero.arr 66)
    generalize hb19 : w2.heap.size = b19 at *
    generalize (w2.alloc (.cells Rng.zero.arr 66)) = w3 at *
    try simp only [W_seq]
    refine W_new' (v := .agg Rng.zero.arr) (cs := Rng.zero.arr) (by simp; exact ⟨rfl, rfl, rfl, rfl, rfl, rfl⟩) rfl ?_
    have h20 := hp_new w3 (.cells Rng.zero.arr 66)
    have hk4 := (Kept.refl none' w3).alloc (.cells Rng.zero.arr 66)
    have h194 := hk4.has h19 fun h => h
    have hne : w3.heap.size ≠ b19 := by have := blk_lt h19; omega
    have hle : w2.heap.size ≤ w3.heap.size := hk3.size
    generalize hb20 : w3.heap.size = b20 at *
    generalize (w3.alloc (.cells Rng.zero.arr 66)) = w4 at *
    have hk24 := hk3.trans hk4
    have hs5 := box_store (v := .agg o1.arr) h194 (n := 6) rfl rfl (by simp [Value.cells, Value.oneCell', Rng.arr])
    have hc1 : (Value.agg o1.arr).cells = o1.arr := rfl
    have hc2 : (Value.agg o2.arr).cells = o2.arr := rfl
    rw [hc1] at hs5
    try simp only [W_seq]
    refine W_store (xv := .pointer (some ⟨b19, 0, none⟩)) (vv := .agg o1.arr) (by simp) (by simp [Rng.val]) hs5 (stab_nil _ _ _) ?_
    have h195 : (Eng.put w4 b19 (.cells o1.arr 66 (0, 0))).heap[b19]? = some (.cells o1.arr 66 (0, 0)) := put_same (blk_lt h194)
    have h205 : (Eng.put w4 b19 (.cells o1.arr 66 (0, 0))).heap[b20]? = some (.cells Rng.zero.arr 66 (0, 0)) := (put_other hne).trans h20
    have hk25 := hk24.putNew (Nat.le_of_eq hb19) (.cells o1.arr 66 (0, 0))
    generalize Eng.put w4 b19 (.cells o1.arr 66 (0, 0)) = w5 at *
    have hs6 := box_store (v := .agg o2.arr) h205 (n := 6) rfl rfl (by simp [Value.cells, Value.oneCell', Rng.arr])
    rw [hc2] at hs6
    try simp only [W_seq]
    refine W_store (xv := .pointer (some ⟨b20, 0, none⟩)) (vv := .agg o2.arr) (by simp) (by simp [Rng.val]) hs6 (stab_nil _ _ _) ?_
    have h206 : (Eng.put w5 b20 (.cells o2.arr 66 (0, 0))).heap[b20]? = some (.cells o2.arr 66 (0, 0)) := put_same (blk_lt h205)
    have h196 : (Eng.put w5 b20 (.cells o2.arr 66 (0, 0))).heap[b19]? = some (.cells o1.arr 66 (0, 0)) := (put_other (Ne.symm hne)).trans h195
    have hk26 := hk25.putNew (by omega) (.cells o2.arr 66 (0, 0))
    generalize Eng.put w5 b20 (.cells o2.arr 66 (0, 0)) = w6 at *
    have hk16 := hk2.trans hk26
    have hk06 := hk.trans hk16
    have g66 := g6.calm hk16
    have h76 := hk16.has h7 fun h => h
    have h86 := hk16.has h8 fun h => h
    have x1 : wcell w6 p7 1 = some (.int .u8 x.dst) := by rw [wcell_of h76]; rfl
    have r19 : wrow w6 b19 0 6 = some o1.arr := wrow_box h196 rfl
    clear h19 h20 h194 h195 h205 hs5 hs6 r10 r11 q1 q3 q4 x2
    simp only [W_seq, W_set]
    refine ok_intro (.bool ok) (by simp) ?_
    try simp only [W_seq]
    cases ok with
    | false =>
      rw [if_neg (by simp)]
      refine W_yes (by simp) ?_
      simp
      exact ⟨hk06, .inl ⟨rfl, rfl⟩⟩
    | true =>
      rw [if_pos rfl]
      refine W_no (by simp) ?_
      simp only [W_skip, W_seq]
      have hs7 := g66.setrng hd o1
      rw [hA] at hs7
      refine W_store (xv := .pointer (some ⟨p6, 1 + x.dst * 11 + 1, none⟩)) (vv := .agg o1.arr) (by simp [x1, hd, hd']) (by simp [r19]) hs7 (stab_nil _ _ _) ?_
      have g67 := WayBox.put (blk_lt g66) p (s.setR x.dst (a.setRng o1))
      have hk07 := hk06.putNew l6 (.cells (wayArr p (s.setR x.dst (a.setRng o1))) 76 (0, 0))
      have n7 : p7 ≠ p6 := cells_ne h7 h6 (by decide)
      have n8 : p8 ≠ p6 := cells_ne h8 h6 (by decide)
      have n20 : b20 ≠ p6 := by have := blk_lt g6; have := hk2.size; omega
      have h77 := (put_other (o := .cells (wayArr p (s.setR x.dst (a.setRng o1))) 76) (w := w6) n7).trans h76
      have h87 := (put_other (o := .cells (wayArr p (s.setR x.dst (a.setRng o1))) 76) (w := w6) n8).trans h86
      have h207 := (put_other (o := .cells (wayArr p (s.setR x.dst (a.setRng o1))) 76) (w := w6) n20).trans h206
      generalize Eng.put w6 p6 (.cells (wayArr p (s.setR x.dst (a.setRng o1))) 76 (0, 0)) = w7 at *
      have q4 : wcell w7 p8 4 = some (.bool q.reg) := by rw [wcell_of h87]; rfl
      have x2 : wcell w7 p7 2 = some (.int .u8 x.src) := by rw [wcell_of h77]; rfl
      have r20 : wrow w7 b20 0 6 = some o2.arr := wrow_box h207 rfl
      clear hs7 g66 h76 h86 h196 h206 x1 r19
      try simp only [W_seq]
      unfold refinedS
      rw [hA]
      refine W_cut (fun env' w' => Kept none' w w' ∧ WayBox w' p6 p (if q.reg = true then (s.setR x.dst (a.setRng o1)).setR x.src (((s.setR x.dst (a.setRng o1)).r x.src).setRng o2) else s.setR x.dst (a.setRng o1)) ∧ env' = [.agg (wayArr p s), .agg x.arr, .agg q.arr, .bool holds, .int .i64 at', .slice none 0 0, .pointer (some ⟨p6, 0, none⟩), .pointer (some ⟨p7, 0, none⟩), .pointer (some ⟨p8, 0, none⟩), u9, .pointer (some ⟨p10, 0, none⟩), .pointer (some ⟨p11, 0, none⟩),
        u12, u13, u14, u15, u16, u17, .tuple #[o1.val, o2.val, .bool true], .pointer (some ⟨b19, 0, none⟩), .pointer (some ⟨b20, 0, none⟩), .bool true, u22, u23, u24]) ?_ ?_
      · cases hreg : q.reg with
        | true =>
          refine W_yes (by simp [q4, hreg]) ?_
          refine W_store (xv := .pointer (some ⟨p6, 1 + x.src * 11 + 1, none⟩)) (vv := .agg o2.arr) (by simp [x2, hsr, hsr']) (by simp [r20]) (g67.setrng hsr o2) (stab_nil _ _ _) ?_
          simp
          exact ⟨hk07.putNew l6 _, WayBox.put (blk_lt g67) p _⟩
        | false =>
          refine W_no (by simp [q4, hreg]) ?_
          simp
          exact ⟨hk07, g67⟩
      rintro env' w8 ⟨hk08, g68, rfl⟩
      generalize (if q.reg = true then (s.setR x.dst (a.setRng o1)).setR x.src (((s.setR x.dst (a.setRng o1)).r x.src).setRng o2) else s.setR x.dst (a.setRng o1)) = t at *
      simp only [W_seq]
      refine W_calm (vs := [.agg (wayArr p t), .int .i64 at']) (by simp [g68.all]) (ret_of_T (wto_T w8 p at' t)) ?_
      intro w9 hk9
      try simp only [W_seq]
      refine W_row' (v := .agg (wayArr at' t)) (cs := wayArr at' t) (by simp [way_all]) rfl ?_
      have hk09 := hk08.trans hk9
      simp
      exact ⟨hk09.alloc _, .inr ⟨_, _, _, rfl, rfl, hp_new w9 _, hk09.size⟩⟩
end Go.Proofs.YtkgpmjjleemdlaaGreat

set_option linter.unusedSimpArgs false
set_option linter.unusedVariables false
set_option maxRecDepth 8000
namespace Go.Proofs.YtkgpmjjleemdlaaGreat
open Go.Eng Go.Sort
attribute [local irreducible] Go.Eng.W

theorem append_nn {P : Program} {t ty e : TypeId} (ht : P.underlying t = some (.slice e)) (hi' : (P.info? e).isSome = true) (w : World) :
    (builtin .append #[t, t] ty #[] #[.slice none 0 0, .slice none 0 0]).run P w = .ok (.value (.slice none 0 0)) w := by
  obtain ⟨i, hi⟩ := Option.isSome_iff_exists.1 hi'
  simp [builtin, Builtin.append_, run_underlying ht, sizeOf, typeInfo, hi, Builtin.lenOf, Builtin.firstCells, loadCells, loadCellsFrom]
  try rfl
theorem ways_cons (p : Int) (s : AState) (L : Ways) : wayCells ((p, s) :: L) = (wayArr p s).toList ++ wayCells L := rfl
theorem wayCells_one (p : Int) (s : AState) : wayCells [(p, s)] = (wayArr p s).toList := by simp [wayCells]
set_option maxHeartbeats 1000000 in
theorem few_append {w w1 w2 : World} {v1 v2 : Value} {L1 L2 : Ways} (h1 : Few w w1 v1 L1) (h2 : Few w1 w2 v2 L2) :
    ∃ v w3, (builtin .append #[60, 60] 60 #[] #[v1, v2]).run Tryz.prog w2 = .ok (.value v) w3 ∧ WaysIs w3 v (L1 ++ L2) ∧ Kept none' w w3 ∧ (∀ b, v.ownBlock = some b → w.heap.size ≤ b) ∧ varV v = some v := by
  obtain ⟨hk1, h1⟩ := h1
  obtain ⟨hk2, h2⟩ := h2
  have hk := hk1.trans hk2
  have hone : ∀ (p : Int) (s : AState) (y : Value), y ∈ (wayArr p s).toList → y.oneCell' = true := fun p s y hy => by
    have := way_one p s
    rw [← Array.all_toList] at this
    exact List.all_eq_true.1 this y hy
  rcases h1 with ⟨rfl, rfl⟩ | ⟨b1, p1, s1, rfl, rfl, hb1, hl1⟩ <;> rcases h2 with ⟨rfl, rfl⟩ | ⟨b2, p2, s2, rfl, rfl, hb2, hl2⟩
  · exact ⟨_, _, append_nn Tryz.underlying60 (by kernel_rfl) w2, ways_nil _, hk, fun b hb => by simp [Value.ownBlock] at hb, rfl⟩
  · have h0 : Row 76 274 w2 (.slice none 0 0) 0 [] := row_nil _ _ _
    obtain ⟨v, w3, happ, hrow, hk3, hat⟩ := row_append (P := Tryz.prog) (t := 60) (k := 274) Tryz.underlying60 (by kernel_rfl) (by omega) (sb := b2) (so := 0) (c := 1) (m := 1) (ys := (wayArr p2 s2).toList) h0 (by omega) (by simp)
        (fun j y hj => by rw [Nat.zero_add, wcell_of hb2]; simpa using hj) (hone p2 s2)
    refine ⟨v, w3, happ, ?_, hk.then hk3 (fun j hj e => by simp [Value.ownBlock] at e), ?_, rowVar hrow⟩
    · unfold WaysIs
      rw [List.nil_append] at hrow ⊢
      rw [wayCells_one]
      exact (show Row _ 274 w3 v 1 _ from hrow)
    · intro b hb
      rcases hat with e | e
      · rw [e] at hb; simp [Value.ownBlock] at hb
      · rw [e] at hb; injection hb with hb; have := hk.size; omega
  · refine ⟨_, _, append_none Tryz.underlying60 (by kernel_rfl) ⟨b1, 0, none⟩ 1 1 (by omega) w2, ?_, hk, fun b hb => by simp [Value.ownBlock] at hb; omega, rfl⟩
    rw [List.append_nil]
    exact rowCalm (ways_one hb1) hk2
  · have h0 := rowCalm (ways_one hb1) hk2
    obtain ⟨v, w3, happ, hrow, hk3, hat⟩ := row_append (P := Tryz.prog) (t := 60) (k := 274) Tryz.underlying60 (by kernel_rfl) (by omega) (sb := b2) (so := 0) (c := 1) (m := 1) (ys := (wayArr p2 s2).toList) h0 (by simp) (by simp)
        (fun j y hj => by rw [Nat.zero_add, wcell_of hb2]; simpa using hj) (hone p2 s2)
    refine ⟨v, w3, happ, ?_, hk.then hk3 (fun j hj e => by simp [Value.ownBlock] at e; omega), ?_, rowVar hrow⟩
    · unfold WaysIs
      rw [List.singleton_append, ways_cons, wayCells_one]
      rw [wayCells_one] at hrow
      exact (show Row _ 274 w3 v 2 _ from hrow)
    · intro b hb
      rcases hat with e | e
      · rw [e] at hb; simp [Value.ownBlock] at hb; omega
      · rw [e] at hb; injection hb with hb; have := hk.size; omega
def twoArr (p : Int) (s : AState) (q : Int) (t : AState) : Array Value := ((wayArr p s).toList ++ (wayArr q t).toList).toArray
@[simp] theorem ways0_size : ways0.size = 548 := by simp [ways0]
@[simp] theorem twoArr_size (p : Int) (s : AState) (q : Int) (t : AState) : (twoArr p s q t).size = 548 := by simp [twoArr]
theorem two_all (p : Int) (s : AState) (q : Int) (t : AState) : setRow (setRow ways0 0 (wayArr p s).toList) 274 (wayArr q t).toList = twoArr p s q t := by
  apply Array.ext_getElem?
  intro i
  rw [setRow_eq, setRow_eq, Go.Eng.setRow_size]
  have h1 : (wayArr p s).toList.length = 274 := by simp
  have h2 : (wayArr q t).toList.length = 274 := by simp
  rw [h1, h2, ways0_size]
  have h3 : (twoArr p s q t)[i]? = ((wayArr p s).toList ++ (wayArr q t).toList)[i]? := by simp only [twoArr, List.getElem?_toArray]
  rw [h3, List.getElem?_append, h1]
  by_cases a1 : i < 274
  · rw [if_neg (by omega), if_pos (by omega), if_pos a1]
    simp
  · by_cases a2 : i < 548
    · rw [if_pos (by omega), if_neg a1]
    · rw [if_neg (by omega), if_neg (by omega), if_neg a1, Array.getElem?_eq_none (by simp; omega), List.getElem?_eq_none (by simp; omega)]
theorem ways_two {w : World} {b : Nat} {p : Int} {s : AState} {q : Int} {t : AState} (h : w.heap[b]? = some (.cells (twoArr p s q t) 76 (0, 0))) : WaysIs w (.slice (some ⟨b, 0, none⟩) 2 2) [(p, s), (q, t)] := by
  have hc : wayCells [(p, s), (q, t)] = (twoArr p s q t).toList := by rw [ways_cons, wayCells_one]; simp [twoArr]
  refine ⟨by rw [hc]; simp, .inr ⟨b, 2, twoArr p s q t, rfl, by simp, h, by simp, by unfold maxLen; omega, by simp, by rw [hc, List.take_of_length_le (by simp)]⟩⟩
theorem arr_get0 (a : Array Value) (h : 0 < a.size) (v : Value) (e : a[0]? = some v) : a[0]'h = v := by
  rw [Array.getElem?_eq_getElem h] at e
  exact Option.some.inj e
section
attribute [local irreducible] wayArr
theorem way_get0 (p : Int) (s : AState) (h : 0 < (wayArr p s).size) : (wayArr p s)[0]'h = .int .i64 p := arr_get0 _ h _ (way_pos p s)
end
def jumpTo (p : Nat) (x : Ins) : Int := (p : Int) + x.off + 1
def jumpV (p : Nat) (s : AState) (x : Ins) (q : Parts) : Option Ways :=
  if (s.r x.dst).kind = 1 ∧ (secondA s x q.reg).kind = 1 then some (onNumV s x q true (jumpTo p x) ++ onNumV s x q false (i64 (p + 1)))
  else if (s.r x.dst).kind = 0 ∨ (s.r x.dst).kind = 1 ∨ q.reg = true ∨ x.imm ≠ 0 ∨ q.long = false ∨ (q.op ≠ 1 ∧ q.op ≠ 5) then none
  else if (s.r x.dst).kind ≠ 6 then some [(if q.op = 1 then i64 (p + 1) else jumpTo p x, s)]
  else some [(if q.op = 1 then i64 (p + 1) else jumpTo p x, settleS s (s.r x.dst).id true), (if q.op = 1 then jumpTo p x else i64 (p + 1), settleS s (s.r x.dst).id false)]
set_option maxHeartbeats 16000000 in
theorem jump_ret {J : Jb} {w : World} {left : Value} {ids : Int} (hj : JAt J w left ids) {p : Nat} (hp : p ≤ 1000000) {s : AState} {x : Ins} (hx : XOk x) (q : Parts) :
    Ret Tryz.prog 52 [.pointer (some ⟨J.cb, 0, none⟩), .agg (wayArr p s), .agg x.arr, .agg q.arr] w fun r w' => Told w (jumpV p s x q) r w' ∧ Kept none' w w' := by
  refine ret_of_W Tryz.func52 rfl ok_verify_checker_jump2 ?_
  have hd := hx.dst
  have hd' : (x.dst : Int) < 11 := by omega
  have t1 := second_T w s hx.wf hx.src q.reg
  have t2 := target_T w p hp hx.wf
  have e1 := row_wreg p s hd
  unfold jumpV
  simp only [AState.val, Ins.val, AReg.val] at t1 t2
  have ht : (p : Int) + x.off + 1 = jumpTo p x := rfl
  rw [ht] at t2
  generalize jumpTo p x = T at *
  generalize hO : i64 ((p : Int) + 1) = O at *
  generalize hB : secondA s x q.reg = b at *
  generalize hA : s.r x.dst = a at *
  simp only [c_verify_checker_jump2]
  rw [W_assoc, W_assoc, W_seq]
  refine W_seg [.v (.pointer (some ⟨J.cb, 0, none⟩)), .v (.agg (wayArr p s)), .v (.agg x.arr), .v (.agg q.arr), .v (.slice none 0 0), .v (.bool false), .p 76 (wayArr p s), .p 28 x.arr, .p 82 q.arr, .v (.agg b.arr),
    .p 68 a.arr, .p 68 b.arr, .v (.agg a.arr), .v (.agg s.arr), .v (.agg x.arr), .v (.bool q.reg), .v (.int .i64 T), .v (.int .i64 T), .v (.int .i64 O), .v (.int .i64 O),
    .v undef, .v undef, .v undef, .v undef, .v undef, .v undef, .v undef, .v undef, .v undef, .v undef, .v undef, .v undef, .v undef, .v undef, .v undef, .v undef, .v undef, .v undef, .v undef, .v undef, .v (.int .u8 x.dst)] (by simp [hj.lt]) ?_ (fun B hB => ?_) ?_
  · simp_all [slsOk, Sl.ok, hj.lt]
  · simp [C_cond_eq, C_alt, hd', hd, e1, t1, t2, slsIs, Sl.is, hA, hO, pickV_bool, way_get0]
  intro w1 hk
  refine open_v (open_v (open_v (open_v (open_v (open_v (open_p fun p6 l6 h6 => open_p fun p7 l7 h7 => open_p fun p8 l8 h8 => open_v (open_p fun p10 l10 h10 => open_p fun p11 l11 h11 => ?_)))))))
  repeat' refine open_v ?_
  refine open_nil ?_
  have g6 : WayBox w1 p6 p s := h6
  have g10 : RegBox w1 p10 a := h10
  obtain ⟨ak, as', al, ah⟩ := g10.k
  have aid : wcell w1 p10 8 = some (.int .i64 a.id) := by rw [wcell_of h10]; simp
  have bk : wcell w1 p11 0 = some (.int .i64 b.kind) := by rw [wcell_of h11]; exact areg_kind0 b
  have r7 : wrow w1 p7 0 5 = some x.arr := wrow_box h7 (by simp)
  have r8 : wrow w1 p8 0 5 = some q.arr := wrow_box h8 (by simp)
  have x4 : wcell w1 p7 4 = some (.int .i32 x.imm) := by rw [wcell_of h7]; rfl
  have q1 : wcell w1 p8 1 = some (.int .i64 q.op) := by rw [wcell_of h8]; rfl
  have q3 : wcell w1 p8 3 = some (.bool q.long) := by rw [wcell_of h8]; rfl
  have q4 : wcell w1 p8 4 = some (.bool q.reg) := by rw [wcell_of h8]; rfl
  clear t1 t2 e1
  simp only [W_seq]
  by_cases hn : a.kind = 1 ∧ b.kind = 1
  · rw [if_pos hn]
    refine W_yes (by simp [ak, bk, hn.1, hn.2]) ?_
    simp only [W_seq, W_draw]
    have hkd : Kept none' w1 w1.drew := (Kept.refl _ _).drew
    have hk2 := hk.trans hkd
    have g62 := g6.calm hkd
    have h72 := hkd.has h7 fun h => h
    have h82 := hkd.has h8 fun h => h
    generalize w1.drew = w2 at *
    have r7 : wrow w2 p7 0 5 = some x.arr := wrow_box h72 (by simp)
    have r8 : wrow w2 p8 0 5 = some q.arr := wrow_box h82 (by simp)
    refine W_chkIn [.int .i64 T, .agg q.arr, .agg x.arr] (by simp [r7, r8]) ?_
    simp only [W_seq, W_set]
    refine ok_intro (.agg (wayArr p s)) (by simp [g62.all]) ?_
    try simp only [W_seq, W_set]
    refine ok_intro (.agg x.arr) (by simp [r7]) ?_
    try simp only [W_seq, W_set]
    refine ok_intro (.agg q.arr) (by simp [r8]) ?_
    try simp only [W_seq]
    refine W_chkIn [.int .i64 O] (by simp) ?_
    simp only [W_seq]
    refine W_call (vs := [.agg (wayArr p s), .agg x.arr, .agg q.arr, .bool true, .int .i64 T]) (by simp [g62.all, r7, r8]) (onNum_ret w2 p hx q true T) ?_
    rintro v1 w3 h13
    refine ⟨stab_calm h13.1, ?_⟩
    have hv1 : varV v1 = some v1 := by
      rcases h13.2 with ⟨_, rfl⟩ | ⟨b, p, s, _, rfl, _⟩ <;> rfl
    simp only [W_seq]
    refine W_call (vs := [.agg (wayArr p s), .agg x.arr, .agg q.arr, .bool false, .int .i64 O]) (by simp) (onNum_ret w3 p hx q false O) ?_
    rintro v2 w4 h24
    refine ⟨stab_nil _ _ _, ?_⟩
    have hv2 : varV v2 = some v2 := by
      rcases h24.2 with ⟨_, rfl⟩ | ⟨b, p, s, _, rfl, _⟩ <;> rfl
    obtain ⟨v, w5, happ, hways, hk5, hown, hvv⟩ := few_append h13 h24
    simp only [W_seq]
    refine W_bi (vs := [v1, v2]) (by simp [hv1, hv2]) happ (stab_nil _ _ _) ?_
    simp [hvv]
    exact ⟨⟨v, rfl, hways, fun b hb => Nat.le_trans hk2.size (hown b hb), hvv⟩, hk2.trans hk5⟩
  rw [if_neg hn]
  have hnb : (decide (a.kind = 1) && decide (b.kind = 1)) = false := by
    by_cases h1 : a.kind = 1
    · have : ¬ b.kind = 1 := fun e => hn ⟨h1, e⟩
      simp [this]
    · simp [h1]
  refine W_no (by simp [ak, bk, pickV_bool, hnb]) ?_
  simp only [W_skip, W_seq]
  have o1 : ((q.op : Int) = 1) = (q.op = 1) := propext (by omega)
  have o5 : ((q.op : Int) = 5) = (q.op = 5) := propext (by omega)
  by_cases hbad : a.kind = 0 ∨ a.kind = 1 ∨ q.reg = true ∨ x.imm ≠ 0 ∨ q.long = false ∨ (q.op ≠ 1 ∧ q.op ≠ 5)
  · rw [if_pos hbad]
    refine W_yes (by simp [ak, x4, q1, q3, q4, o1, o5, pickV_bool]; simpa [or_assoc] using hbad) ?_
    simp
    exact ⟨⟨_, rfl, rfl⟩, hk⟩
  rw [if_neg hbad]
  simp only [not_or] at hbad
  obtain ⟨n0, n1, nr, ni, nl, no⟩ := hbad
  have no' : q.op = 1 ∨ q.op = 5 := by omega
  refine W_no (by rcases no' with e | e <;> simp [ak, x4, q1, q3, q4, o1, o5, pickV_bool, n0, n1, nr, Classical.not_not.1 ni, nl, e]) ?_
  simp only [W_skip, W_seq]
  generalize hT' : (if q.op = 1 then O else T) = T' at *
  generalize hO' : (if q.op = 1 then T else O) = O' at *
  refine W_cut (fun env' w' => w' = w1 ∧ ∃ u26, (∀ n, Ext n u26) ∧ env' = [.pointer (some ⟨J.cb, 0, none⟩), .agg (wayArr p s), .agg x.arr, .agg q.arr, .slice none 0 0, .bool false, .pointer (some ⟨p6, 0, none⟩), .pointer (some ⟨p7, 0, none⟩), .pointer (some ⟨p8, 0, none⟩), .agg b.arr, .pointer (some ⟨p10, 0, none⟩), .pointer (some ⟨p11, 0, none⟩),
      .agg a.arr, .agg s.arr, .agg x.arr, .bool q.reg, .int .i64 T, .int .i64 T', .int .i64 O, .int .i64 O', undef, undef, undef, undef, undef, undef, u26, undef, undef, undef, undef, undef, undef, undef, undef, undef, undef, undef, undef, undef, .int .u8 x.dst]) ?_ ?_
  · by_cases h1 : q.op = 1
    · rw [if_pos h1] at hT' hO'
      subst hT' hO'
      refine W_yes (by simp [q1, h1]) ?_
      simp
    · rw [if_neg h1] at hT' hO'
      subst hT' hO'
      refine W_no (by simp [q1, o1, h1]) ?_
      simp
  rintro env' w' ⟨rfl, u26, hu26, rfl⟩
  simp only [W_seq]
  by_cases h6k : a.kind ≠ 6
  · rw [if_pos h6k]
    refine W_yes (by simp [ak]; exact h6k) ?_
    simp only [W_seq]
    refine W_calm (vs := [.agg (wayArr p s), .int .i64 T']) (by simp [g6.all]) (ret_of_T (wto_T w' p T' s)) ?_
    intro w2 hk2
    try simp only [W_seq]
    refine W_row' (v := .agg (wayArr T' s)) (cs := wayArr T' s) (by simp [way_all]) rfl ?_
    have hk02 := hk.trans hk2
    simp
    exact ⟨told_one (hp_new w2 _) hk02.size, hk02.alloc _⟩
  rw [if_neg h6k]
  refine W_no (by simp [ak]; exact Classical.not_not.1 h6k) ?_
  simp only [W_skip]
  have tt := wto_T w' p T' s
  have to' := wto_T w' p O' s
  have ts := settle_TS w' s a.id true
  have tf := settle_TS w' s a.id false
  simp only [AState.val] at ts tf
  generalize settleS s a.id true = s1 at *
  generalize settleS s a.id false = s2 at *
  rw [W_assoc, W_seq]
  refine W_seg [.v (.pointer (some ⟨J.cb, 0, none⟩)), .any, .any, .any, .v (.slice none 0 0), .v (.bool false), .v (.pointer (some ⟨p6, 0, none⟩)), .any, .any, .any, .v (.pointer (some ⟨p10, 0, none⟩)), .any,
      .any, .any, .any, .any, .any, .any, .any, .any, .any, .any, .any, .any, .any, .any, .any, .any, .any, .any, .any, .any, .p 76 (wayArr T' s1), .p 76 (wayArr O' s2), .any, .any, .any, .any, .any, .any, .any] ?_ ?_ (fun B hB => ?_) ?_
  · have ll : J.cb < w'.heap.size ∧ p6 < w'.heap.size ∧ p7 < w'.heap.size ∧ p8 < w'.heap.size ∧ p10 < w'.heap.size ∧ p11 < w'.heap.size := ⟨Nat.lt_of_lt_of_le hj.lt hk.size, blk_lt h6, blk_lt h7, blk_lt h8, blk_lt h10, blk_lt h11⟩
    simp [ll, hu26]
  · have ll : J.cb < w'.heap.size ∧ p6 < w'.heap.size ∧ p10 < w'.heap.size := ⟨Nat.lt_of_lt_of_le hj.lt hk.size, blk_lt h6, blk_lt h10⟩
    simp [slsOk, Sl.ok, ll]
  · have e6 := fun l => own_extR (l := l) hB g6.all
    have e6s := fun l => own_extR (l := l) hB g6.state
    have eid := fun l => own_ext (l := l) hB aid
    simp [C_cond_eq, C_alt, e6, e6s, eid, tt, to', ts, tf, ost_wstate, slsIs, Sl.is, pickV_bool]
  intro w2 hk2
  refine open_v (open_any fun _ => open_any fun _ => open_any fun _ => open_v (open_v (open_v (open_any fun _ => open_any fun _ => open_any fun _ => open_v ?_))))
  refine open_any fun _ => open_any fun _ => open_any fun _ => open_any fun _ => open_any fun _ => open_any fun _ => open_any fun _ => open_any fun _ => open_any fun _ => open_any fun _ => open_any fun _ => ?_
  refine open_any fun _ => open_any fun _ => open_any fun _ => open_any fun _ => open_any fun _ => open_any fun _ => open_any fun _ => open_any fun _ => open_any fun _ => open_any fun _ => open_p fun p32 l32 h32 => open_p fun p33 l33 h33 => ?_
  repeat' refine open_any fun _ => ?_
  refine open_nil ?_
  have g32 : WayBox w2 p32 T' s1 := h32
  have g33 : WayBox w2 p33 O' s2 := h33
  have hk02 := hk.trans hk2
  try simp only [W_seq]
  refine W_row' (v := .agg (twoArr T' s1 O' s2)) (cs := twoArr T' s1 O' s2) (by simp [g32.all, g33.all, two_all, Go.Eng.setRow_size]) rfl ?_
  simp
  exact ⟨⟨_, rfl, ways_two (hp_new w2 _), fun b hb => by simp [Value.ownBlock] at hb; have := hk02.size; omega, rfl⟩, hk02.alloc _⟩
end Go.Proofs.YtkgpmjjleemdlaaGreat

