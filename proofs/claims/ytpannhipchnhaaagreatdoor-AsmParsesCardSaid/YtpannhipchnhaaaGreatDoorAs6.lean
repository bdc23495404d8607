/- Layer 23: a line read; a text read. -/
import Derived.Test.YtpannhipchnhaaaGreatDoorAs5
set_option linter.unusedSimpArgs false
set_option linter.unusedVariables false
set_option maxRecDepth 8000
namespace Go.Proofs.YtpannhipchnhaaaGreatDoor
open Go.Eng

/-! What is read is well formed. -/
theorem ins0_wf (op d s : Nat) (o i : Int) (h1 : op < 256) (h2 : d < 256) (h3 : s < 256) (h4 : -32768 ≤ o ∧ o ≤ 32767) (h5 : -2147483648 ≤ i ∧ i ≤ 2147483647) : (Ins.mk op d s o i).wf := ⟨h1, h2, h3, h4, h5⟩
theorem low_lt (is32 : Bool) : (if is32 = true then 4 else 7) ≤ 255 ∧ (if is32 = true then 6 else 5) ≤ 255 := by cases is32 <;> simp
theorem zero_wf : Ins.zero.wf := ⟨by decide, by decide, by decide, ⟨by decide, by decide⟩, ⟨by decide, by decide⟩⟩
theorem aluR_wf (r : Rd) {op low : Nat} (ho : op < 16) (hl : low ≤ 255) : (aluR r op low).1.wf := by
  have hop : op * 16 ||| low ≤ 255 := or_le (by omega) hl
  have hx := ins0_wf (op * 16 ||| low) (regR r).1 0 0 0 (by omega) (regR_lt r) (by omega) (by omega) (by omega)
  unfold aluR
  split
  · exact hx
  · exact secR_wf hx (by omega)
theorem jumpR_wf (r : Rd) {op low : Nat} (ho : op < 16) (hl : low ≤ 255) : (jumpR r op low).1.wf := by
  have hop : op * 16 ||| low ≤ 255 := or_le (by omega) hl
  have hx := ins0_wf (op * 16 ||| low) (regR r).1 0 0 0 (by omega) (regR_lt r) (by omega) (by omega) (by omega)
  have h := secR_wf (r := (regR r).2) (bit := 8) hx (by omega)
  unfold jumpR
  exact ⟨h.op, h.dst, h.src, offR_in _, h.imm⟩
theorem memR_wf (r : Rd) (name : Str) {size : Nat} (hz : size < 4) : (memR r name size).1.wf := by
  have o1 : 97 ||| size * 8 ≤ 255 := or_le (by omega) (by omega)
  have o2 : 98 ||| size * 8 ≤ 255 := or_le (by omega) (by omega)
  have o3 : 195 ||| size * 8 ≤ 255 := or_le (by omega) (by omega)
  unfold memR
  split
  · exact ins0_wf _ _ _ _ _ (by omega) (regR_lt _) (regR_lt _) (offR_in _) (by omega)
  split
  · exact secR_wf (ins0_wf _ _ _ _ _ (by omega) (regR_lt _) (by omega) (offR_in _) (by omega)) (by omega)
  split
  · exact zero_wf
  · rename_i h
    refine ins0_wf _ _ _ _ _ (by omega) (regR_lt _) (regR_lt _) (offR_in _) ?_
    have : ∀ i : Nat, -2147483648 ≤ atomN.getD i 0 ∧ atomN.getD i 0 ≤ 2147483647 := by
      intro i
      rw [List.getD_eq_getElem?_getD]
      cases hi : atomN[i]? with
      | none => simp
      | some m =>
        have : ∀ x ∈ atomN, -2147483648 ≤ x ∧ x ≤ 2147483647 := by decide
        exact this m (List.mem_of_getElem? hi)
    exact this _
theorem exit_wf : exitI.wf := ⟨by decide, by decide, by decide, ⟨by decide, by decide⟩, ⟨by decide, by decide⟩⟩
theorem one_wf {x : Ins} (h : x.wf) : AllWf [x] := fun y hy => by simp at hy; subst hy; exact h
theorem namedR_wf (r : Rd) (name : Str) : AllWf (namedR r name).1 ∧ (namedR r name).1.length ≤ 2 := by
  unfold namedR
  split
  · exact ⟨one_wf exit_wf, by simp⟩
  split
  · exact ⟨one_wf (ins0_wf _ _ _ _ _ (by omega) (by omega) (by omega) (offR_in _) (by omega)), by simp⟩
  split
  · exact ⟨one_wf (ins0_wf _ _ _ _ _ (by omega) (by omega) (by omega) (by omega) (pi32 _)), by simp⟩
  split
  · unfold wideR
    split
    · refine ⟨fun y hy => ?_, by simp⟩
      simp at hy
      rcases hy with rfl | rfl
      · exact ins0_wf _ _ _ _ _ (by omega) (regR_lt _) (by omega) (by omega) (pi32 _)
      · exact zero_wf
    · refine ⟨fun y hy => ?_, by simp⟩
      simp at hy
      rcases hy with rfl | rfl
      · exact ins0_wf _ _ _ _ _ (by omega) (regR_lt _) (by omega) (by omega) (i32c_in _)
      · exact ins0_wf _ _ _ _ _ (by omega) (by omega) (by omega) (by omega) (i32c_in _)
  split
  · exact ⟨fun y hy => (by cases hy), by simp⟩
  split
  · rename_i h
    obtain ⟨n, hn⟩ : ∃ n : Nat, ixOf aluW (Lib.trimSuffix name [51, 50]) = n := ⟨(ixOf aluW (Lib.trimSuffix name [51, 50])).toNat, by omega⟩
    have h13 : n < 13 := (ixOf_at hn).1
    rw [hn, Int.toNat_natCast]
    exact ⟨one_wf (aluR_wf _ (by omega) (low_lt _).1), by simp⟩
  split
  · rename_i h
    obtain ⟨n, hn⟩ : ∃ n : Nat, ixOf jumpW (Lib.trimSuffix name [51, 50]) = n := ⟨(ixOf jumpW (Lib.trimSuffix name [51, 50])).toNat, by omega⟩
    have h13 : n < 14 := (ixOf_at hn).1
    rw [hn, Int.toNat_natCast]
    exact ⟨one_wf (jumpR_wf _ (by omega) (low_lt _).2), by simp⟩
  split
  · exact ⟨fun y hy => (by cases hy), by simp⟩
  · rename_i h
    obtain ⟨n, hn⟩ : ∃ n : Nat, ixOf sizeW (name.drop (name.length - 1)) = n := ⟨(ixOf sizeW (name.drop (name.length - 1))).toNat, by omega⟩
    have h13 : n < 4 := (ixOf_at hn).1
    rw [hn, Int.toNat_natCast]
    exact ⟨one_wf (memR_wf _ _ (by omega)), by simp⟩

theorem inShape_nil (w0 : World) : T Tryz.prog w0 21 [.slice none 0 0] = some (.bool false) := by
  refine T_of (by kernel_rfl) Tryz.func21 rfl ok_asm_inShape (by simp) (by simp) fun B hB => ?_
  simp [c_asm_inShape, C_cond_eq]
/-- A line read: what was read, and whether it is just that line. -/
def rdOf (s : Str) : List Ins × Rd := namedR (nextR ⟨splitG 32 s, false⟩).2 (nextR ⟨splitG 32 s, false⟩).1
def readR (s : Str) : List Ins × Bool :=
  if ((rdOf s).2.wr || decide (0 < (rdOf s).2.l.length)) || !shapeOk (rdOf s).1 then ([], false) else ((rdOf s).1, decide (textL (rdOf s).1 = s ++ [10]))
set_option maxHeartbeats 2000000 in
theorem read_ret {s : Str} (w : World) (hg : GlobA w) (hs : s.length ≤ 900000) :
    Ret Tryz.prog 20 [.string (us s)] w fun v w' => Kept none' w w' ∧ ∃ lv, v = .tuple #[lv, .bool (readR s).2] ∧ OutAt w' lv (readR s).1 := by
  refine ret_of_W Tryz.func20 rfl ok_asm_read ?_
  have hsl := splitG_len s
  have hsw := splitG_words 32 s
  simp only [c_asm_read, W_seq, W_set]
  refine ok_intro (.slice none 0 0) (by simp) ?_
  refine ok_intro (.bool false) (by simp) ?_
  try simp only [W_seq]
  refine W_calmP (vs := [.string (us s), .string (us [32])]) (by simp; rfl) (split_ret s w (by omega) hg) ?_
  rintro v w1 hk1 ⟨rfl, hs1, hst⟩
  try simp only [W_seq]
  refine W_chkIn [.agg #[.slice (some ⟨w.heap.size, 0, none⟩) (splitG 32 s).length (splitG 32 s).length, .bool false]] (by simp) ?_
  try simp only [W_seq]
  refine W_new' (cs := #[.slice (some ⟨w.heap.size, 0, none⟩) (splitG 32 s).length (splitG 32 s).length, .bool false]) (by simp; rfl) rfl ?_
  have hb := hp_new w1 (.cells #[.slice (some ⟨w.heap.size, 0, none⟩) (splitG 32 s).length (splitG 32 s).length, .bool false] 78)
  have hk2 : Kept none' w1 (w1.alloc (.cells #[.slice (some ⟨w.heap.size, 0, none⟩) (splitG 32 s).length (splitG 32 s).length, .bool false] 78)) := (Kept.refl _ _).alloc _
  generalize w1.alloc (.cells #[.slice (some ⟨w.heap.size, 0, none⟩) (splitG 32 s).length (splitG 32 s).length, .bool false] 78) = w2 at hb hk2
  have hr : RdAt w2 w1.heap.size ⟨splitG 32 s, false⟩ := ⟨w.heap.size, 0, _, hb, hst.calm hk2, by omega, Nat.le_refl _, fun m hm => by have := hsw m hm; omega⟩
  have hbA : Above w1.heap.size := above_le hg.above (by omega)
  have hg2 := hg.calm (hk1.trans hk2)
  have hbs : w.heap.size ≤ w1.heap.size := by omega
  generalize w1.heap.size = b at *
  try simp only [W_seq, W_set]
  refine ok_intro (.pointer (some ⟨b, 0, none⟩)) (by simp) ?_
  have hnl := next_len hr.words
  have hnle := next_le ⟨splitG 32 s, false⟩
  try simp only [W_seq]
  refine W_call0 (by simp) (next_ret w2 hr (by simp only; omega)) ?_
  rintro v w3 ⟨rfl, h3, hk3⟩
  unfold readR rdOf
  generalize nextR ⟨splitG 32 s, false⟩ = q at *
  obtain ⟨nm, r3⟩ := q
  simp only at *
  try simp only [W_seq]
  refine W_call0 (by simp) (named_ret (name := nm) w3 (hg2.kb hbA hk3) hbA h3 (by omega) hnl) ?_
  rintro v w4 ⟨ho, h4, hk4⟩
  obtain ⟨hwf, hl2⟩ := namedR_wf r3 nm
  generalize namedR r3 nm = q at *
  obtain ⟨l, r4⟩ := q
  simp only at *
  have hv := ho.var
  have hk04 : Kept none' w w4 := kept_new (hk1.trans hk2) (hk3.trans hk4) fun i hi => by omega
  have hr4 := h4
  obtain ⟨sb, o, c, h5, _⟩ := hr4
  have hc0 : wcell w4 b 0 = some (.slice (some ⟨sb, o, none⟩) r4.l.length c) := by rw [wcell_of h5]; rfl
  have hc1 : wcell w4 b 1 = some (.bool r4.wr) := by rw [wcell_of h5]; rfl
  have hd : decide ((0 : Int) < (r4.l.length : Int)) = decide (0 < r4.l.length) := by
    by_cases h : 0 < r4.l.length
    · rw [decide_eq_true h, decide_eq_true (by omega)]
    · rw [decide_eq_false h, decide_eq_false (by omega)]
  try simp only [W_seq, W_set]
  refine ok_intro v (by simp [hv]) ?_
  try simp only [W_seq, W_set]
  refine ok_intro (.bool (r4.wr || decide (0 < r4.l.length))) (by simp [hc0, hc1, hd]) ?_
  have hg4 := hg.calm hk04
  cases hbad : (r4.wr || decide (0 < r4.l.length)) with
  | true =>
    try simp only [W_seq]
    refine W_chkIn [.bool false] (by simp) ?_
    try simp only [W_seq]
    refine W_no (by simp) ?_
    simp only [W_clr, W_seq, List.foldl_cons, List.foldl_nil]
    refine W_yes (by simp) ?_
    simp
    exact ⟨hk04, .inl ⟨rfl, rfl⟩⟩
  | false =>
    try simp only [W_seq]
    refine W_chkIn [v] (by simp [hv]) ?_
    try simp only [W_seq]
    refine W_yes (by simp) ?_
    rcases ho with ⟨rfl, rfl⟩ | ⟨h0, q, c, rfl, hc, hcode⟩
    · try simp only [W_seq]
      refine W_calm (by simp) (ret_of_T (inShape_nil w4)) ?_
      intro w5 hk5
      try simp only [W_seq]
      refine W_yes (by simp) ?_
      have : shapeOk [] = false := rfl
      simp [this]
      exact ⟨hk04.trans hk5, .inl ⟨rfl, rfl⟩⟩
    · try simp only [W_seq]
      refine W_calm (by simp) (ret_of_T (inShape_T hcode hwf (by omega) hc h0)) ?_
      intro w5 hk5
      try simp only [W_seq]
      refine W_cond (t := !shapeOk l) (by simp) ?_ ?_
      · intro hsh
        have hsh : shapeOk l = false := by simpa using hsh
        rw [hsh]
        simp
        exact ⟨hk04.trans hk5, .inl ⟨rfl, rfl⟩⟩
      · intro hsh
        have hsh : shapeOk l = true := by simpa using hsh
        rw [hsh]
        have htl := textL_len l hwf
        have hx := text_T (hg4.calm hk5) (hcode.calm hk5) hwf (by omega) hc h0
        rw [if_pos hsh] at hx
        have hcat : strBin .add (us s) ⟨#[10]⟩ = some (.string (us (s ++ [10]))) := us_cat _ [10] (by simp; omega)
        have heq := us_eql (textL l) (s ++ [10])
        simp only [W_skip, W_seq]
        refine W_calm (by simp) (ret_of_T hx) ?_
        intro w6 hk6
        simp [hcat, heq]
        exact ⟨(hk04.trans hk5).trans hk6, .inr ⟨h0, q, c, rfl, hc, (hcode.calm hk5).calm hk6⟩⟩
end Go.Proofs.YtpannhipchnhaaaGreatDoor
namespace Go.Proofs.YtpannhipchnhaaaGreatDoor
open Go.Eng

def lenAt (env : List Value) (i : Nat) : Nat := match env[i]? with
  | some (.string s) => s.size
  | _ => 0
def cutL : Str → Str × Str × Bool
  | [] => ([], [], false)
  | x :: r => if x = 10 then ([], r, true) else (x :: (cutL r).1, (cutL r).2.1, (cutL r).2.2)
theorem cut_eq : ∀ s : Str, Lib.cut s [10] = cutL s
  | [] => by simp [Lib.cut, Lib.index, cutL]
  | x :: r => by
    have ih := cut_eq r
    by_cases h : x = 10
    · subst h
      have hix : Lib.index ((10 : UInt8) :: r) [10] = 0 := by rw [Lib.index]; simp [List.isPrefixOf]
      simp only [Lib.cut, hix, cutL, if_true]
      simp
    · have hp : ([10] : List UInt8).isPrefixOf (x :: r) = false := by simp [List.isPrefixOf, Ne.symm h]
      have hix : Lib.index (x :: r) [10] = if Lib.index r [10] == -1 then -1 else Lib.index r [10] + 1 := by rw [Lib.index, hp]; simp
      simp only [cutL, if_neg h, ← ih]
      simp only [Lib.cut, hix]
      have hge := Lib.index_ge r [10]
      by_cases hm : Lib.index r [10] = -1
      · simp [hm]
      · obtain ⟨j, hj⟩ : ∃ j : Nat, Lib.index r [10] = j := ⟨(Lib.index r [10]).toNat, by omega⟩
        have hb : ¬ ((j : Int) == -1) = true := fun e => by have := beq_iff_eq.1 e; omega
        have h1 : (0 : Int) ≤ (j : Int) + 1 := by omega
        have h2 : ((j : Int) + 1).toNat = j + 1 := by omega
        simp only [hj, if_neg hb, if_pos h1, h2]
        have h3 : (0 : Int) ≤ (j : Int) := by omega
        simp only [if_pos h3, Int.toNat_natCast]
        rw [show j + 1 + ([10] : List UInt8).length = (j + ([10] : List UInt8).length) + 1 from by omega]
        simp only [List.take_succ_cons, List.drop_succ_cons]
theorem cutL_len : ∀ s : Str, (cutL s).1.length ≤ s.length ∧ ((cutL s).2.2 = true → (cutL s).2.1.length < s.length) ∧ (cutL s).2.1.length ≤ s.length
  | [] => by simp [cutL]
  | x :: r => by
    have ih := cutL_len r
    simp only [cutL]
    split
    · simp
    · simp only [List.length_cons]
      refine ⟨by omega, fun h => ?_, by omega⟩
      have := ih.2.1 h
      omega
/-- A text read: the instructions, the line, why not. -/
def parseF : Nat → Str → Nat → List Ins → List Ins × Nat × Nat
  | 0, _, _, _ => ([], 0, 0)
  | f + 1, t, k, out => if t = [] then (if 256 < out.length then ([], 0, 7) else (out, 0, 0))
    else if (cutL t).2.2 = false ∨ (readR (cutL t).1).2 = false then ([], k, 22)
    else parseF f (cutL t).2.1 (k + 1) (out ++ (readR (cutL t).1).1)
def parseR (t : Str) : List Ins × Nat × Nat := parseF (t.length + 1) t 1 []
theorem readR_ok {s : Str} (h : (readR s).2 = true) : shapeOk (readR s).1 = true ∧ textL (readR s).1 = s ++ [10] ∧ AllWf (readR s).1 ∧ 0 < (readR s).1.length ∧ (readR s).1.length ≤ 2 := by
  have hw := namedR_wf (nextR ⟨splitG 32 s, false⟩).2 (nextR ⟨splitG 32 s, false⟩).1
  unfold readR at h ⊢
  split at h
  · cases h
  · rename_i hc
    rw [if_neg hc]
    simp at hc
    have hsh := hc.2
    exact ⟨hsh, of_decide_eq_true h, hw.1, ((shapeOk_iff _).1 hsh).1, hw.2⟩
theorem insRow_nil (w : World) : InsRow w (.slice none 0 0) [] := row_nil _ _ _
/-- What was read: a row. -/
def RowAt (w : World) (v : Value) (l : List Ins) : Prop := InsRow w v l
set_option maxHeartbeats 4000000 in
theorem parse_ret {t : Str} (w : World) (hg : GlobA w) (ht : t.length ≤ 400000) :
    Ret Tryz.prog 9 [.string (us t)] w fun v w' => Kept none' w w' ∧ ∃ lv, v = .tuple #[lv, .int .i64 (parseR t).2.1, .int .i64 (parseR t).2.2] ∧ InsRow w' lv (parseR t).1 ∧ ∀ j, lv.ownBlock = some j → w.heap.size ≤ j := by
  refine ret_of_W Tryz.func9 rfl ok_asm_Parse ?_
  simp only [c_asm_Parse, W_seq, W_set]
  refine ok_intro (.slice none 0 0) (by simp) ?_
  try simp only [W_seq, W_set]
  refine ok_intro (.int .i64 0) (by simp) ?_
  refine ok_intro (.int .i64 0) (by simp) ?_
  try simp only [W_seq, W_set]
  refine ok_intro (.slice none 0 0) (by simp) ?_
  try simp only [W_seq, W_set]
  refine ok_intro (.int .i64 1) (by simp) ?_
  try simp only [W_seq, W_block]
  refine W_loop (fun env w' => Kept none' w w' ∧ ∃ (f k : Nat) (s : Str) (out : List Ins) (ov : Value), env = [.string (us s), undef, undef, undef, ov, .int .i64 k, undef, undef, undef, undef, undef, undef, undef, undef] ∧ s.length < f ∧ s.length ≤ t.length ∧ k + s.length ≤ t.length + 1 ∧ out.length + 2 * s.length ≤ 2 * t.length ∧ parseR t = parseF f s k out ∧ InsRow w' ov out ∧ (∀ j, ov.ownBlock = some j → w.heap.size ≤ j)) (fun env _ => lenAt env 0) ?_ ?_
  · exact ⟨Kept.refl _ _, t.length + 1, 1, t, [], .slice none 0 0, by simp, by omega, by omega, by omega, by simp, rfl, insRow_nil w, fun j hj => by simp [Value.ownBlock] at hj⟩
  rintro env w1 ⟨hk1, f, k, s, out, ov, rfl, hf, hst, hks, hos, hp, hrow, hown⟩
  obtain ⟨f', rfl⟩ : ∃ f', f = f' + 1 := ⟨f - 1, by omega⟩
  have hv := rowVar hrow
  have hlv := rowLen hrow
  have hne := us_neq s []
  rw [parseF] at hp
  try simp only [W_seq]
  refine W_chkIn [.bool (!decide (s = []))] (by simp [nil_us, hne]) ?_
  try simp only [W_seq]
  by_cases hs : s = []
  · subst hs
    refine W_no (by simp [nil_us, hne]) ?_
    simp only [W_exit, Wx_exit_c, Wx_exit_post, Wx_exit_blk, if_true, W_seq]
    rw [if_pos rfl] at hp
    by_cases h256 : 256 < out.length
    · rw [if_pos h256] at hp
      refine W_yes (by simp [hv, hlv]; omega) ?_
      rw [hp]
      simp
      exact ⟨hk1, insRow_nil w1, by simp [Value.ownBlock]⟩
    · rw [if_neg h256] at hp
      refine W_no (by simp [hv, hlv]; omega) ?_
      rw [hp]
      simp [hv]
      exact ⟨hk1, hrow, hown⟩
  rw [if_neg hs] at hp
  refine W_yes (by simp [nil_us, hne, hs]) ?_
  obtain ⟨hc1, hc2, hc3⟩ := cutL_len s
  have tcut := cut_T (hg.calm hk1) s [10] (by omega)
  rw [cut_eq] at tcut
  generalize hcut : cutL s = q at *
  obtain ⟨ln, rest, okc⟩ := q
  simp only at *
  simp only [W_skip, W_block, W_seq]
  refine W_calm (vs := [.string (us s), .string (us [10])]) (by simp; rfl) (ret_of_T tcut) ?_
  intro w2 hk2
  try simp only [W_seq]
  refine W_chkIn [.bool okc, .string (us rest)] (by simp) ?_
  try simp only [W_seq, W_set]
  refine ok_intro (.string (us ln)) (by simp) ?_
  try simp only [W_seq, W_set]
  refine ok_intro (.string (us rest)) (by simp) ?_
  refine ok_intro (.bool okc) (by simp) ?_
  try simp only [W_seq]
  have hk12 := hk1.trans hk2
  refine W_calmP (by simp) (read_ret (s := ln) w2 (hg.calm hk12) (by omega)) ?_
  rintro v w3 hk3 ⟨lv, rfl, ho⟩
  have hrd := readR_ok (s := ln)
  generalize readR ln = q at *
  obtain ⟨l, okr⟩ := q
  simp only at *
  have hlv3 := ho.var
  try simp only [W_seq]
  refine W_chkIn [.bool okr] (by simp) ?_
  try simp only [W_seq, W_set]
  refine ok_intro lv (by simp [hlv3]) ?_
  refine ok_intro (.bool okr) (by simp) ?_
  have hk13 := hk12.trans hk3
  try simp only [W_seq]
  by_cases hbad : okc = false ∨ okr = false
  · rw [if_pos hbad] at hp
    refine W_yes (by rcases hbad with h | h <;> rw [h] <;> simp) ?_
    try simp only [W_seq]
    refine W_chkIn [.int .i64 k] (by simp) ?_
    rw [hp]
    simp
    exact ⟨hk13, insRow_nil w3, by simp [Value.ownBlock]⟩
  rw [if_neg hbad] at hp
  have hoc : okc = true := by cases okc <;> simp at hbad ⊢
  have hor : okr = true := by cases okr <;> simp at hbad ⊢
  subst hoc
  subst hor
  obtain ⟨hsh, htx, hwf, hl0, hl2⟩ := hrd rfl
  refine W_no (by simp) ?_
  rcases ho with ⟨rfl, _⟩ | ⟨_, q, c, rfl, hc, hcode⟩
  · simp at hl0
  have hrow3 := rowCalm hrow (hk2.trans hk3)
  have hlt := hc2 rfl
  obtain ⟨v', w4, hrun, hrow4, hk4, hat⟩ := ins_append (c := c) hrow3 (by omega) hcode
  simp only [W_skip, W_seq]
  refine W_bi (by simp [hv]) hrun (stab_nil _ _ _) ?_
  have hv4 := rowVar hrow4
  try simp only [W_seq]
  refine W_chkIn [.string (us rest)] (by simp) ?_
  have e1 : IntKind.i64.wrap ((k : Int) + 1) = ((k + 1 : Nat) : Int) := i64w (by omega) (by omega)
  simp [hv4, e1, -Int.natCast_add]
  refine ⟨⟨hk13.then hk4 fun i hi h => by have := hown i h; omega, f', k + 1, rest, out ++ l, v', ⟨rfl, rfl, rfl⟩, by omega, by omega, by omega, by simp; omega, hp, hrow4, fun j hj => ?_⟩, by simp [lenAt]; omega⟩
  have := hk13.size
  rcases hat with h | h
  · exact hown j (by rw [← h]; exact hj)
  · rw [hj] at h; simp at h; omega
end Go.Proofs.YtpannhipchnhaaaGreatDoor
namespace Go.Proofs.YtpannhipchnhaaaGreatDoor
open Go.Eng

theorem dec_eq (u : Nat) : Lib.decDigits u = if u < 10 then [UInt8.ofNat (48 + u)] else Lib.decDigits (u / 10) ++ [UInt8.ofNat (48 + u % 10)] := by
  rw [Lib.decDigits]
  split <;> rfl
theorem dec_ind {P : Nat → Prop} (h1 : ∀ u, u < 10 → P u) (h2 : ∀ u, ¬ u < 10 → P (u / 10) → P u) (u : Nat) : P u := by
  induction u using Nat.strongRecOn with
  | ind u ih =>
    by_cases h : u < 10
    · exact h1 u h
    · exact h2 u h (ih (u / 10) (by omega))
theorem dig_in (k : Nat) (h : k < 10) : (UInt8.ofNat (48 + k)).toNat = 48 + k := by
  simp; omega
theorem dec_digits (u : Nat) : ∀ c ∈ Lib.decDigits u, 48 ≤ c.toNat ∧ c.toNat ≤ 57 := by
  induction u using dec_ind with
  | h1 u h =>
    intro c hc
    rw [dec_eq, if_pos h] at hc
    simp only [List.mem_singleton] at hc
    subst hc
    rw [dig_in u h]; omega
  | h2 u h ih =>
    intro c hc
    rw [dec_eq, if_neg h] at hc
    rcases List.mem_append.1 hc with hc | hc
    · exact ih c hc
    · simp only [List.mem_singleton] at hc
      subst hc
      rw [dig_in _ (Nat.mod_lt _ (by omega))]; omega
theorem dec_ne (u : Nat) : Lib.decDigits u ≠ [] := by
  rw [dec_eq]
  split <;> simp
theorem parseM_append (M : Nat) : ∀ (l : Str) (acc : Nat) (c : UInt8), Lib.parseUintM M acc (l ++ [c]) = (match Lib.parseUintM M acc l with
    | .ok a => Lib.parseUintM M a [c]
    | .syntax => .syntax
    | .range => .range)
  | [], acc, c => by simp [Lib.parseUintM]
  | x :: r, acc, c => by
    simp only [List.cons_append, Lib.parseUintM]
    split
    · split
      · rfl
      split
      · rfl
      exact parseM_append M r _ c
    · rfl
theorem parseM_dec (M : Nat) (hM : M ≤ 18446744073709551615) (u : Nat) : u ≤ M → Lib.parseUintM M 0 (Lib.decDigits u) = .ok u := by
  induction u using dec_ind with
  | h1 u h =>
    intro hu
    rw [dec_eq, if_pos h]
    simp only [Lib.parseUintM]
    rw [dig_in u h]
    rw [if_pos (by omega), if_neg (by omega), if_neg (by omega)]
    congr 1
    omega
  | h2 u h ih =>
    intro hu
    have hm : u % 10 < 10 := Nat.mod_lt _ (by omega)
    rw [dec_eq, if_neg h, parseM_append, ih (by omega)]
    simp only [Lib.parseUintM]
    rw [dig_in _ hm]
    rw [if_pos (by omega), if_neg (by omega), if_neg (by omega)]
    congr 1
    omega
theorem parseB_dec (B : Nat) (hB : B ≤ 64) (u : Nat) (hu : u ≤ 2 ^ B - 1) : Lib.parseUintB B (Lib.decDigits u) = .ok u := by
  unfold Lib.parseUintB
  rw [if_neg (dec_ne u)]
  have : (2 : Nat) ^ B ≤ 2 ^ 64 := Nat.pow_le_pow_right (by omega) hB
  exact parseM_dec _ (by omega) u hu
theorem parse_nat (B : Nat) (hB : B ≤ 64) (hB1 : 1 ≤ B) (u : Nat) (hu : u < 2 ^ (B - 1)) : Lib.parseIntB B (Lib.decDigits u) = .ok (u : Int) := by
  have hp : (2 : Nat) ^ B = 2 * 2 ^ (B - 1) := by
    obtain ⟨b, rfl⟩ : ∃ b, B = b + 1 := ⟨B - 1, by omega⟩
    rw [Nat.pow_succ, Nat.mul_comm]; simp
  have hb := parseB_dec B hB u (by omega)
  have hd := dec_digits u
  cases hq : Lib.decDigits u with
  | nil => exact absurd hq (dec_ne u)
  | cons c r =>
    rw [hq] at hb hd
    have hc := hd c (by simp)
    rw [Lib.parseIntB_plain B c r (by omega) (by omega), hb]
    simp only [Lib.signlessC]
    rw [if_neg (by omega)]
theorem parse_plus (B : Nat) (hB : B ≤ 64) (hB1 : 1 ≤ B) (u : Nat) (hu : u < 2 ^ (B - 1)) : Lib.parseIntB B (43 :: Lib.decDigits u) = .ok (u : Int) := by
  have hp : (2 : Nat) ^ B = 2 * 2 ^ (B - 1) := by
    obtain ⟨b, rfl⟩ : ∃ b, B = b + 1 := ⟨B - 1, by omega⟩
    rw [Nat.pow_succ, Nat.mul_comm]; simp
  rw [Lib.parseIntB_plus, parseB_dec B hB u (by omega)]
  simp only [Lib.signlessC]
  rw [if_neg (by omega)]
theorem parse_minus (B : Nat) (hB : B ≤ 64) (hB1 : 1 ≤ B) (u : Nat) (hu : u ≤ 2 ^ (B - 1)) : Lib.parseIntB B (45 :: Lib.decDigits u) = .ok (-(u : Int)) := by
  have hp : (2 : Nat) ^ B = 2 * 2 ^ (B - 1) := by
    obtain ⟨b, rfl⟩ : ∃ b, B = b + 1 := ⟨B - 1, by omega⟩
    rw [Nat.pow_succ, Nat.mul_comm]; simp
  have h1 : 1 ≤ (2 : Nat) ^ (B - 1) := Nat.one_le_two_pow
  rw [Lib.parseIntB_minus, parseB_dec B hB u (by omega)]
  simp only [Lib.signedC]
  rw [if_neg (by omega)]
theorem itoa_cases (n : Int) : (0 ≤ n ∧ Lib.itoa n = Lib.decDigits n.toNat) ∨ (n < 0 ∧ Lib.itoa n = 45 :: Lib.decDigits n.natAbs) := by
  unfold Lib.itoa
  by_cases h : n < 0
  · exact .inr ⟨h, by rw [if_pos h]⟩
  · exact .inl ⟨by omega, by rw [if_neg h]⟩
theorem pi_itoa (B : Nat) (hB : B ≤ 64) (hB1 : 1 ≤ B) (n : Int) (h0 : -((2 ^ (B - 1) : Nat) : Int) ≤ n) (h1 : n < ((2 ^ (B - 1) : Nat) : Int)) : piVal B (Lib.itoa n) = n ∧ piOk B (Lib.itoa n) = true := by
  unfold piVal piOk
  rcases itoa_cases n with ⟨h, e⟩ | ⟨h, e⟩
  · rw [e, parse_nat B hB hB1 _ (by omega)]
    exact ⟨by show ((n.toNat : Nat) : Int) = n; omega, rfl⟩
  · rw [e, parse_minus B hB hB1 _ (by omega)]
    exact ⟨by show -((n.natAbs : Nat) : Int) = n; omega, rfl⟩
theorem pi_off (n : Int) (h0 : -32768 ≤ n) (h1 : n ≤ 32767) : piVal 16 (offW n) = n ∧ piOk 16 (offW n) = true := by
  unfold offW
  by_cases h : n < 0
  · rw [if_pos h]
    exact pi_itoa 16 (by omega) (by omega) n (by simpa using h0) (by simp; omega)
  · rw [if_neg h]
    unfold piVal piOk
    rcases itoa_cases n with ⟨_, e⟩ | ⟨h', _⟩
    · rw [e, parse_plus 16 (by omega) (by omega) _ (by simp; omega)]
      exact ⟨by show ((n.toNat : Nat) : Int) = n; omega, rfl⟩
    · omega
theorem pi_reg (n : Nat) (hn : n < 11) : piVal 16 (Lib.decDigits n) = n ∧ piOk 16 (Lib.decDigits n) = true := by
  unfold piVal piOk
  rw [parse_nat 16 (by omega) (by omega) n (by simp; omega)]
  exact ⟨rfl, rfl⟩
theorem pu_dec (n : Nat) (hn : n < 18446744073709551616) : puVal (Lib.decDigits n) = n ∧ puOk (Lib.decDigits n) = true := by
  unfold puVal puOk
  rw [parseB_dec 64 (by omega) n (by omega)]
  exact ⟨rfl, rfl⟩

/-! Words. -/
def NoSp (s : Str) : Prop := ∀ c ∈ s, c ≠ 32 ∧ c ≠ 10
theorem noSp_digits {s : Str} (h : ∀ c ∈ s, 48 ≤ c.toNat ∧ c.toNat ≤ 57) : NoSp s := fun c hc => by
  have := h c hc
  refine ⟨fun e => ?_, fun e => ?_⟩ <;> subst e <;> simp at this
theorem noSp_dec (n : Nat) : NoSp (Lib.decDigits n) := noSp_digits (dec_digits n)
theorem noSp_cons {c : UInt8} {s : Str} (h1 : c ≠ 32) (h2 : c ≠ 10) (h : NoSp s) : NoSp (c :: s) := fun d hd => by
  rcases List.mem_cons.1 hd with rfl | hd
  · exact ⟨h1, h2⟩
  · exact h d hd
theorem noSp_append {a b : Str} (ha : NoSp a) (hb : NoSp b) : NoSp (a ++ b) := fun d hd => (List.mem_append.1 hd).elim (ha d) (hb d)
theorem noSp_itoa (n : Int) : NoSp (Lib.itoa n) := by
  rcases itoa_cases n with ⟨_, e⟩ | ⟨_, e⟩
  · rw [e]; exact noSp_dec _
  · rw [e]; exact noSp_cons (by decide) (by decide) (noSp_dec _)
theorem noSp_reg (n : Nat) : NoSp (regW n) := noSp_cons (by decide) (by decide) (noSp_dec _)
theorem noSp_off (n : Int) : NoSp (offW n) := by
  unfold offW
  split
  · exact noSp_itoa n
  · exact noSp_cons (by decide) (by decide) (noSp_itoa n)
theorem noSp_sec (x : Ins) (p : Parts) : NoSp (secW x p) := by
  unfold secW
  split
  · exact noSp_reg _
  · exact noSp_itoa _
theorem noSp_short (p : Parts) : NoSp (shortW p) := by
  unfold shortW
  split
  · exact fun c hc => by cases hc
  · exact noSp_cons (by decide) (by decide) (noSp_cons (by decide) (by decide) fun c hc => by cases hc)
theorem noSp_getD {l : List Str} (h : ∀ s ∈ l, NoSp s) (i : Nat) : NoSp (l.getD i []) := by
  rw [List.getD_eq_getElem?_getD]
  cases hi : l[i]? with
  | none => exact fun c hc => by cases hc
  | some s => exact h s (List.mem_of_getElem? hi)
instance (s : Str) : Decidable (NoSp s) := inferInstanceAs (Decidable (∀ c ∈ s, c ≠ 32 ∧ c ≠ 10))
theorem noSp_line (x y : Ins) : ∀ s ∈ lineW x y, NoSp s := by
  have ha := noSp_getD (l := aluW) (by decide) (partsOf x.op).op
  have hj := noSp_getD (l := jumpW) (by decide) (partsOf x.op).op
  have hm := noSp_getD (l := atomW) (by decide) (atomIx x.imm)
  have h1 := noSp_reg x.dst
  have h2 := noSp_reg x.src
  have h3 := noSp_off x.off
  have h4 := noSp_sec x (partsOf x.op)
  have h5 := noSp_short (partsOf x.op)
  have h6 := noSp_itoa x.imm
  have h7 := noSp_itoa (partsOf x.op).size
  have h8 := noSp_dec (wideN x.imm y.imm)
  have k1 : NoSp [106, 97] := by decide
  have k2 : NoSp [99, 97, 108, 108] := by decide
  have k3 : NoSp [101, 120, 105, 116] := by decide
  have k4 : NoSp [108, 100] := by decide
  have k5 : NoSp [115, 116] := by decide
  have k6 : NoSp [109, 97, 112] := by decide
  have k7 : NoSp [119, 105, 100, 101] := by decide
  unfold lineW lineP
  generalize aluW.getD (partsOf x.op).op [] = A at *
  generalize jumpW.getD (partsOf x.op).op [] = J at *
  generalize atomW.getD (atomIx x.imm) [] = M at *
  generalize partsOf x.op = p at *
  repeat' split
  all_goals
    intro s hs
    simp only [List.mem_cons, List.not_mem_nil, or_false] at hs
    rcases hs with rfl | rfl | rfl | rfl | rfl <;> first | assumption | exact noSp_append (by assumption) (by assumption)
theorem splitG_none {s : Str} (h : NoSp s) : splitG 32 s = [s] := by
  induction s with
  | nil => rfl
  | cons c r ih =>
    have := ih fun d hd => h d (by simp [hd])
    simp only [splitG, if_neg (h c (by simp)).1, this]
    rfl
theorem splitG_app {a : Str} (h : NoSp a) (b : Str) : splitG 32 (a ++ 32 :: b) = a :: splitG 32 b := by
  induction a with
  | nil => simp [splitG]
  | cons c r ih =>
    have := ih fun d hd => h d (by simp [hd])
    simp only [List.cons_append, splitG, if_neg (h c (by simp)).1, this]
    rfl
theorem joinS_cons (x y : Str) (r : List Str) : joinS (x :: y :: r) = x ++ 32 :: joinS (y :: r) := by
  simp [joinS]
theorem split_join : ∀ (l : List Str), l ≠ [] → (∀ s ∈ l, NoSp s) → splitG 32 (joinS l) = l
  | [], h, _ => absurd rfl h
  | [x], _, h => by
    have : joinS [x] = x := by simp [joinS]
    rw [this]
    exact splitG_none (h x (by simp))
  | x :: y :: r, _, h => by
    rw [joinS_cons, splitG_app (h x (by simp)), split_join (y :: r) (by simp) fun s hs => h s (by simp [List.mem_cons.1 hs])]
theorem join_nl : ∀ (l : List Str), (∀ s ∈ l, NoSp s) → ∀ c ∈ joinS l, c ≠ 10
  | [], _, c, hc => by simp [joinS] at hc
  | [x], h, c, hc => by
    have : joinS [x] = x := by simp [joinS]
    rw [this] at hc
    exact (h x (by simp) c hc).2
  | x :: y :: r, h, c, hc => by
    rw [joinS_cons] at hc
    rcases List.mem_append.1 hc with hc | hc
    · exact (h x (by simp) c hc).2
    · rcases List.mem_cons.1 hc with rfl | hc
      · decide
      · exact join_nl (y :: r) (fun s hs => h s (by simp [List.mem_cons.1 hs])) c hc
theorem cutL_nl {a : Str} (h : ∀ c ∈ a, c ≠ 10) (b : Str) : cutL (a ++ 10 :: b) = (a, b, true) := by
  induction a with
  | nil => simp [cutL]
  | cons c r ih =>
    have := ih fun d hd => h d (by simp [hd])
    simp only [List.cons_append, cutL, if_neg (h c (by simp)), this]
end Go.Proofs.YtpannhipchnhaaaGreatDoor
namespace Go.Proofs.YtpannhipchnhaaaGreatDoor
open Go.Eng

theorem head_digit {s : Str} (h : ∀ c ∈ s, 48 ≤ c.toNat ∧ c.toNat ≤ 57) : Lib.hasPrefix s [114] = false := by
  cases s with
  | nil => rfl
  | cons c r =>
    have := h c (by simp)
    have hc : ¬ (114 : UInt8) = c := fun e => by subst e; simp at this
    simp [Lib.hasPrefix, List.isPrefixOf, hc]
theorem itoa_noreg (n : Int) : Lib.hasPrefix (Lib.itoa n) [114] = false := by
  rcases itoa_cases n with ⟨_, e⟩ | ⟨_, e⟩
  · rw [e]; exact head_digit (dec_digits _)
  · rw [e]; rfl
theorem reg_pre (n : Nat) : Lib.hasPrefix (regW n) [114] = true ∧ Lib.trimPrefix (regW n) [114] = Lib.decDigits n := by
  have h : Lib.hasPrefix (regW n) [114] = true := by simp [Lib.hasPrefix, regW, List.isPrefixOf]
  refine ⟨h, ?_⟩
  unfold Lib.trimPrefix
  rw [h]
  rfl
theorem regR_eq {d : Nat} (hd : d < 11) (t : List Str) : regR ⟨regW d :: t, false⟩ = (d, ⟨t, false⟩) := by
  obtain ⟨h1, h2⟩ := pi_reg d hd
  obtain ⟨h3, h4⟩ := reg_pre d
  unfold regR nextR
  simp only [h4, h1, h2, h3]
  have e1 : decide ((d : Int) < 0) = false := decide_eq_false (by omega)
  have e2 : decide ((11 : Int) ≤ d) = false := decide_eq_false (by omega)
  have e3 : ((d : Int) % 256).toNat = d := by omega
  rw [e1, e2, e3]
  rfl
theorem offR_eq {n : Int} (hn : -32768 ≤ n ∧ n ≤ 32767) (t : List Str) : offR ⟨offW n :: t, false⟩ = (n, ⟨t, false⟩) := by
  obtain ⟨h1, h2⟩ := pi_off n hn.1 hn.2
  unfold offR numR nextR
  simp only [h1, h2]
  rfl
theorem pi_imm {n : Int} (hn : -2147483648 ≤ n ∧ n ≤ 2147483647) : piVal 32 (Lib.itoa n) = n ∧ piOk 32 (Lib.itoa n) = true := pi_itoa 32 (by omega) (by omega) n (by simp; omega) (by simp; omega)
theorem secR_eq {x : Ins} {p : Parts} (z : Ins) (bit : Nat) (hs : x.src < 11) (hi : -2147483648 ≤ x.imm ∧ x.imm ≤ 2147483647) (t : List Str) :
    secR ⟨secW x p :: t, false⟩ z bit = (if p.reg = true then { z with op := z.op ||| bit, src := x.src } else { z with imm := x.imm }, ⟨t, false⟩) := by
  unfold secR secW
  cases h : p.reg with
  | true =>
    simp only [if_true, isReg, (reg_pre x.src).1]
    rw [regR_eq hs]
  | false =>
    obtain ⟨h1, h2⟩ := pi_imm hi
    simp only [Bool.false_eq_true, if_false, isReg, itoa_noreg]
    simp only [nextR, numR, h1, h2]
    rfl
/-! What a form says of an instruction's parts. -/
structure Fits (x : Ins) : Prop where
  kind : (partsOf x.op).kind ≠ 0
  dst : x.dst < 11
  src : x.src < 11
  d0 : (namedOf (partsOf x.op)).dst = false → x.dst = 0
  s0 : (namedOf (partsOf x.op)).src = false → x.src = 0
  o0 : (namedOf (partsOf x.op)).off = false → x.off = 0
  i0 : (namedOf (partsOf x.op)).imm = false → x.imm = 0
theorem fits_of {xs : List Ins} {i : Nat} {x : Ins} (h : oneOk xs i x = true) : Fits x := by
  have hk : ¬ (partsOf x.op).kind = 0 := one_kind h
  unfold oneOk at h
  rw [if_neg hk] at h
  by_cases hp0 : plainOk x (namedOf (partsOf x.op)) = false
  · rw [if_pos hp0] at h; cases h
  · have hp : plainOk x (namedOf (partsOf x.op)) = true := by simpa using hp0
    unfold plainOk at hp
    simp only [Bool.and_eq_true, Bool.or_eq_true, decide_eq_true_eq] at hp
    obtain ⟨⟨⟨⟨⟨h1, h2⟩, h3⟩, h4⟩, h5⟩, h6⟩ := hp
    refine ⟨hk, h1, h2, fun e => ?_, fun e => ?_, fun e => ?_, fun e => ?_⟩
    · rw [e] at h3; simpa using h3
    · rw [e] at h4; simpa using h4
    · rw [e] at h5; simpa using h5
    · rw [e] at h6; simpa using h6
theorem alone_fits {x : Ins} {r : List Ins} (h : aloneOk (x :: r) = true) : Fits x := by
  have h := fits_of (alone_one h)
  by_cases hj : kindOf x = 2 ∨ kindOf x = 3
  · have hs : still x = { x with off := 0 } := by unfold still; rw [if_pos hj]
    rw [hs] at h
    refine ⟨h.kind, h.dst, h.src, h.d0, h.s0, fun e => ?_, h.i0⟩
    have hj : (partsOf x.op).kind = 2 ∨ (partsOf x.op).kind = 3 := hj
    exfalso
    unfold namedOf at e
    rcases hj with h2 | h3
    · rw [h2] at e; simp at e
    · rw [h3] at e; simp at e
  · have hs : still x = x := by unfold still; rw [if_neg hj]
    rw [hs] at h
    exact h
theorem rdOf_line (x y : Ins) : rdOf (joinS (lineW x y)) = namedR (nextR ⟨lineW x y, false⟩).2 (nextR ⟨lineW x y, false⟩).1 := by
  have hne : lineW x y ≠ [] := by
    unfold lineW lineP
    repeat' split
    all_goals simp
  unfold rdOf
  rw [split_join _ hne (noSp_line x y)]
theorem i32c_lo (a b : Int) (ha : -2147483648 ≤ a ∧ a ≤ 2147483647) : i32c (wideN a b) = a := by
  unfold i32c wideN
  rw [IntKind.wrap_i32, IntKind.wrap_u32]
  omega
theorem i32c_hi (a b : Int) (hb : -2147483648 ≤ b ∧ b ≤ 2147483647) : i32c (wideN a b / 4294967296) = b := by
  have : wideN a b / 4294967296 = (b % 4294967296).toNat := by unfold wideN; omega
  rw [this]
  unfold i32c
  rw [IntKind.wrap_i32, IntKind.wrap_u32]
  omega
instance : DecidableEq Ins := fun a b => by
  obtain ⟨a1, a2, a3, a4, a5⟩ := a
  obtain ⟨b1, b2, b3, b4, b5⟩ := b
  exact decidable_of_iff (a1 = b1 ∧ a2 = b2 ∧ a3 = b3 ∧ a4 = b4 ∧ a5 = b5) (by simp)
def namesOk (name : Str) : Bool := decide (name ≠ [101, 120, 105, 116] ∧ name ≠ [106, 97] ∧ name ≠ [99, 97, 108, 108] ∧ ¬ (name = [119, 105, 100, 101] ∨ name = [109, 97, 112]) ∧ name ≠ [])
def aluOk (op : Nat) : Bool :=
  let p := partsOf op
  let name := aluW.getD p.op [] ++ shortW p
  decide (p.kind ≠ 1) || (namesOk name && decide (Lib.trimSuffix name [51, 50] = aluW.getD p.op [] ∧ Lib.hasSuffix name [51, 50] = !p.long ∧ ixOf aluW (aluW.getD p.op []) = p.op ∧ p.op < 13 ∧ (p.op = 8 → p.reg = false)
    ∧ (p.op * 16 ||| (if p.long = true then 7 else 4)) ||| (if p.reg = true then 8 else 0) = op))
theorem alu_ok : ∀ op : Fin 256, aluOk op.val = true := by decide +kernel
def jumpOk (op : Nat) : Bool :=
  let p := partsOf op
  let name := jumpW.getD p.op [] ++ shortW p
  decide (p.kind ≠ 2) || (namesOk name && decide (Lib.trimSuffix name [51, 50] = jumpW.getD p.op [] ∧ Lib.hasSuffix name [51, 50] = !p.long ∧ ixOf aluW (jumpW.getD p.op []) = -1 ∧ ixOf jumpW (jumpW.getD p.op []) = p.op ∧ 0 < p.op ∧ p.op < 14
    ∧ (p.op * 16 ||| (if p.long = true then 5 else 6)) ||| (if p.reg = true then 8 else 0) = op))
theorem jump_ok : ∀ op : Fin 256, jumpOk op.val = true := by decide +kernel
def plainKinds (op : Nat) : Bool :=
  let p := partsOf op
  decide ((p.kind = 3 → op = 5) ∧ (p.kind = 4 → op = 133) ∧ (p.kind = 5 → op = 149) ∧ (p.kind = 9 → op = 24) ∧ (p.kind = 10 → op = 0) ∧ 0 ≤ p.kind ∧ p.kind ≤ 10
    ∧ (p.kind = 6 → op = 97 ||| (op / 8 % 4) * 8) ∧ (p.kind = 7 → op = (98 ||| (op / 8 % 4) * 8) ||| (if p.reg = true then 1 else 0)) ∧ (p.kind = 8 → op = 195 ||| (op / 8 % 4) * 8)
    ∧ (p.kind = 6 ∨ p.kind = 7 ∨ p.kind = 8 → p.size = sizeAt (op / 8 % 4)))
theorem plain_kinds : ∀ op : Fin 256, plainKinds op.val = true := by decide +kernel
theorem size_str (k : Nat) (hk : k < 4) : Lib.itoa (sizeAt k) = sizeW.getD k [] := by
  have : k = 0 ∨ k = 1 ∨ k = 2 ∨ k = 3 := by omega
  have e : ∀ n : Nat, n < 10 → Lib.itoa (n : Int) = [UInt8.ofNat (48 + n)] := fun n hn => by rw [itoa_nat, Lib.decDigits_one hn]
  rcases this with rfl | rfl | rfl | rfl
  · exact e 4 (by omega)
  · exact e 2 (by omega)
  · exact e 1 (by omega)
  · exact e 8 (by omega)
def memOk (pre : Str) (k : Nat) : Bool :=
  let name := pre ++ sizeW.getD k []
  namesOk name && decide (ixOf aluW (Lib.trimSuffix name [51, 50]) = -1 ∧ ¬ 0 < ixOf jumpW (Lib.trimSuffix name [51, 50]) ∧ ixOf sizeW (name.drop (name.length - 1)) = k ∧ name.take (name.length - 1) = pre)
theorem mem_ok : ∀ k : Fin 4, memOk [108, 100] k.val = true ∧ memOk [115, 116] k.val = true ∧ ∀ i : Fin 4, memOk (atomW.getD i.val []) k.val = true := by decide +kernel
theorem named_mem {pre : Str} {k : Nat} (h : memOk pre k = true) (r : Rd) : namedR r (pre ++ sizeW.getD k []) = ([(memR r pre k).1], (memR r pre k).2) := by
  unfold memOk namesOk at h
  simp only [Bool.and_eq_true, decide_eq_true_eq] at h
  obtain ⟨⟨n1, n2, n3, n4, n5⟩, h1, h2, h3, h4⟩ := h
  unfold namedR
  rw [if_neg n1, if_neg n2, if_neg n3, if_neg n4, if_neg n5, h1, if_neg (by decide), if_neg h2, h3, h4, if_neg (by omega), Int.toNat_natCast]

theorem insEq {x y : Ins} (h1 : x.op = y.op) (h2 : x.dst = y.dst) (h3 : x.src = y.src) (h4 : x.off = y.off) (h5 : x.imm = y.imm) : x = y := by
  cases x; cases y
  simp only at h1 h2 h3 h4 h5
  subst h1; subst h2; subst h3; subst h4; subst h5
  rfl
theorem nextR_cons (s : Str) (t : List Str) : nextR ⟨s :: t, false⟩ = (s, ⟨t, false⟩) := rfl
theorem atom_ok {x : Ins} (h : x.imm = 0 ∨ x.imm = 64 ∨ x.imm = 80 ∨ x.imm = 160) : ixOf atomW (atomW.getD (atomIx x.imm) []) = atomIx x.imm ∧ atomN.getD (atomIx x.imm) 0 = x.imm ∧ atomIx x.imm < 4 ∧ atomW.getD (atomIx x.imm) [] ≠ [108, 100] ∧ atomW.getD (atomIx x.imm) [] ≠ [115, 116] := by
  rcases h with h | h | h | h <;> rw [h] <;> decide +kernel
/-- What a line tells is read back. -/
theorem line_back {x : Ins} {r : List Ins} (hw : AllWf (x :: r)) (h : aloneOk (x :: r) = true) (h10 : kindOf x ≠ 10) : rdOf (joinS (lineW x (nextOf x r))) = (x :: (if kindOf x = 9 then r.take 1 else []), ⟨[], false⟩) := by
  have hx := hw x (by simp)
  have hf := alone_fits h
  have hop := hx.op
  rw [rdOf_line]
  have hk : kindOf x = (partsOf x.op).kind := rfl
  have ha := alu_ok ⟨x.op, hop⟩
  have hj := jump_ok ⟨x.op, hop⟩
  have hp := plain_kinds ⟨x.op, hop⟩
  have hwide := fun h9 => alone_wide h h9
  have hatom := fun h8 => alone_atom h h8
  unfold aluOk at ha
  unfold jumpOk at hj
  unfold plainKinds at hp
  simp only [decide_eq_true_eq] at hp
  simp only [Bool.or_eq_true, Bool.and_eq_true, decide_eq_true_eq] at ha hj
  obtain ⟨p3, p4, p5, p9, p10, pk0, pk1, p6, p7, p8, psz⟩ := hp
  have hk4 : x.op / 8 % 4 < 4 := by omega
  obtain ⟨m1, m2, m3⟩ := mem_ok ⟨x.op / 8 % 4, hk4⟩
  obtain ⟨fk, fd, fs, d0, s0, o0, i0⟩ := hf
  rw [hk] at h10 hwide hatom ⊢
  have hsz : ∀ h : (partsOf x.op).kind = 6 ∨ (partsOf x.op).kind = 7 ∨ (partsOf x.op).kind = 8, Lib.itoa (partsOf x.op).size = sizeW.getD (x.op / 8 % 4) [] := fun h => by rw [psz h, size_str _ hk4]
  unfold lineW lineP
  unfold namedOf at d0 s0 o0 i0
  generalize hpp : partsOf x.op = p at *
  by_cases k1 : p.kind = 1
  · rcases ha with ha | ⟨hn, ht, hsf, hix, hlt, hneg, hopq⟩
    · exact absurd k1 ha
    unfold namesOk at hn
    simp only [decide_eq_true_eq] at hn
    obtain ⟨n1, n2, n3, n4, n5⟩ := hn
    rw [if_pos k1, if_neg (show ¬ p.kind = 9 by omega)]
    rw [if_pos k1] at d0 s0 o0 i0
    have hlow : (if (!p.long) = true then 4 else 7) = (if p.long = true then 7 else 4) := by cases p.long <;> rfl
    have hname : ∀ t : List Str, namedR ⟨t, false⟩ (aluW.getD p.op [] ++ shortW p) = ([(aluR ⟨t, false⟩ p.op (if p.long = true then 7 else 4)).1], (aluR ⟨t, false⟩ p.op (if p.long = true then 7 else 4)).2) := by
      intro t
      unfold namedR
      rw [if_neg n1, if_neg n2, if_neg n3, if_neg n4, if_neg n5, ht, hix, if_pos (by omega), hsf, Int.toNat_natCast, hlow]
    by_cases h8 : p.op = 8
    · have hreg := hneg h8
      rw [if_pos h8, nextR_cons]
      simp only
      rw [hname]
      unfold aluR
      rw [if_pos h8, regR_eq fd]
      rw [hreg] at hopq
      simp only [Bool.false_eq_true, if_false, Nat.or_zero] at hopq
      congr 1
      congr 1
      refine insEq hopq rfl ?_ ?_ ?_
      · exact (s0 hreg).symm
      · exact (o0 rfl).symm
      · exact (i0 (by rw [h8]; simp)).symm
    · rw [if_neg h8, nextR_cons]
      simp only
      rw [hname]
      unfold aluR
      rw [if_neg h8, regR_eq fd]
      simp only
      rw [secR_eq _ _ fs hx.imm]
      congr 1
      congr 1
      cases hreg : p.reg with
      | true =>
        rw [hreg] at hopq
        simp only [if_true] at hopq ⊢
        refine insEq hopq rfl rfl (o0 rfl).symm ?_
        exact (i0 (by rw [hreg]; rfl)).symm
      | false =>
        rw [hreg] at hopq
        simp only [Bool.false_eq_true, if_false, Nat.or_zero] at hopq ⊢
        exact insEq hopq rfl (s0 hreg).symm (o0 rfl).symm rfl
  by_cases k2 : p.kind = 2
  · rcases hj with hj | ⟨hn, ht, hsf, hix1, hix, hpos, hlt, hopq⟩
    · exact absurd k2 hj
    unfold namesOk at hn
    simp only [decide_eq_true_eq] at hn
    obtain ⟨n1, n2, n3, n4, n5⟩ := hn
    rw [if_neg k1, if_pos k2, if_neg (show ¬ p.kind = 9 by omega)]
    rw [if_neg k1, if_pos (Or.inl k2)] at d0 s0 o0 i0
    have hlow : (if (!p.long) = true then 6 else 5) = (if p.long = true then 5 else 6) := by cases p.long <;> rfl
    rw [nextR_cons]
    simp only
    unfold namedR
    rw [if_neg n1, if_neg n2, if_neg n3, if_neg n4, if_neg n5, ht, hix1, if_neg (by decide), hix, if_pos (by omega), hsf, Int.toNat_natCast, hlow]
    unfold jumpR
    rw [regR_eq fd]
    simp only
    rw [secR_eq _ _ fs hx.imm]
    simp only
    rw [offR_eq hx.off]
    congr 1
    congr 1
    cases hreg : p.reg with
    | true =>
      rw [hreg] at hopq
      simp only [if_true] at hopq ⊢
      exact insEq hopq rfl rfl rfl (i0 (by rw [hreg]; rfl)).symm
    | false =>
      rw [hreg] at hopq
      simp only [Bool.false_eq_true, if_false, Nat.or_zero] at hopq ⊢
      exact insEq hopq rfl (s0 hreg).symm rfl rfl
  by_cases k3 : p.kind = 3
  · rw [if_neg k1, if_neg k2, if_pos k3, if_neg (show ¬ p.kind = 9 by omega), nextR_cons]
    rw [if_neg k1, if_neg (by omega), if_pos k3] at d0 s0 o0 i0
    simp only
    unfold namedR
    rw [if_neg (by decide), if_pos rfl, offR_eq hx.off]
    congr 1
    congr 1
    exact insEq (p3 k3).symm (d0 rfl).symm (s0 rfl).symm rfl (i0 rfl).symm
  by_cases k4 : p.kind = 4
  · rw [if_neg k1, if_neg k2, if_neg k3, if_pos k4, if_neg (show ¬ p.kind = 9 by omega), nextR_cons]
    rw [if_neg k1, if_neg (by omega), if_neg k3, if_pos (Or.inl k4)] at d0 s0 o0 i0
    simp only
    unfold namedR
    obtain ⟨e1, e2⟩ := pi_imm hx.imm
    rw [if_neg (by decide), if_neg (by decide), if_pos rfl, nextR_cons]
    simp only [numR, e1, e2]
    congr 1
    congr 1
    exact insEq (p4 k4).symm (d0 rfl).symm (s0 rfl).symm (o0 rfl).symm rfl
  by_cases k5 : p.kind = 5
  · rw [if_neg k1, if_neg k2, if_neg k3, if_neg k4, if_pos k5, if_neg (show ¬ p.kind = 9 by omega), nextR_cons]
    rw [if_neg k1, if_neg (by omega), if_neg k3, if_neg (by omega), if_neg (by omega), if_neg (by omega), if_neg (by omega)] at d0 s0 o0 i0
    simp only
    unfold namedR
    rw [if_pos rfl]
    congr 1
    congr 1
    exact insEq (p5 k5).symm (d0 rfl).symm (s0 rfl).symm (o0 rfl).symm (i0 rfl).symm
  by_cases k6 : p.kind = 6
  · rw [if_neg k1, if_neg k2, if_neg k3, if_neg k4, if_neg k5, if_pos k6, if_neg (show ¬ p.kind = 9 by omega), hsz (Or.inl k6), nextR_cons]
    rw [if_neg k1, if_neg (by omega), if_neg k3, if_neg (by omega), if_pos k6] at d0 s0 o0 i0
    simp only
    rw [named_mem m1]
    unfold memR
    rw [if_pos rfl, regR_eq fd]
    simp only
    rw [regR_eq fs]
    simp only
    rw [offR_eq hx.off]
    congr 1
    congr 1
    exact insEq (p6 k6).symm rfl rfl rfl (i0 rfl).symm
  by_cases k7 : p.kind = 7
  · rw [if_neg k1, if_neg k2, if_neg k3, if_neg k4, if_neg k5, if_neg k6, if_pos k7, if_neg (show ¬ p.kind = 9 by omega), hsz (Or.inr (Or.inl k7)), nextR_cons]
    rw [if_neg k1, if_pos (Or.inr k7)] at d0 s0 o0 i0
    simp only
    rw [named_mem m2]
    unfold memR
    rw [if_neg (by decide), if_pos rfl, regR_eq fd]
    simp only
    rw [offR_eq hx.off]
    simp only
    rw [secR_eq _ _ fs hx.imm]
    have hopq := p7 k7
    congr 1
    congr 1
    cases hreg : p.reg with
    | true =>
      rw [hreg] at hopq
      simp only [if_true] at hopq ⊢
      exact insEq hopq.symm rfl rfl rfl (i0 (by rw [hreg]; rfl)).symm
    | false =>
      rw [hreg] at hopq
      simp only [Bool.false_eq_true, if_false, Nat.or_zero] at hopq ⊢
      exact insEq hopq.symm rfl (s0 hreg).symm rfl rfl
  by_cases k8 : p.kind = 8
  · obtain ⟨a1, a2, a3, a4, a5⟩ := atom_ok (hatom k8)
    rw [if_neg k1, if_neg k2, if_neg k3, if_neg k4, if_neg k5, if_neg k6, if_neg k7, if_pos k8, if_neg (show ¬ p.kind = 9 by omega), hsz (Or.inr (Or.inr k8)), nextR_cons]
    rw [if_neg k1, if_neg (by omega), if_neg k3, if_neg (by omega), if_neg k6, if_pos k8] at d0 s0 o0 i0
    simp only
    rw [named_mem (m3 ⟨atomIx x.imm, a3⟩)]
    unfold memR
    rw [if_neg a4, if_neg a5, a1, if_neg (by omega), Int.toNat_natCast, a2, regR_eq fd]
    simp only
    rw [offR_eq hx.off]
    simp only
    rw [regR_eq fs]
    congr 1
    congr 1
    exact insEq (p8 k8).symm rfl rfl rfl rfl
  have k9 : p.kind = 9 := by clear hwide hatom; omega
  obtain ⟨y, r', hr, hy10, hsrc, hcase⟩ := hwide k9
  clear hwide hatom
  subst hr
  have hyw := hw y (by simp)
  have hfy : Fits y := by
    have h2 := (checkOf_ok _).1 (of_decide_eq_true h)
    have hkx : kindOf x = 9 := by rw [hk, k9]
    have ho : ownOf (x :: y :: r') = [still x, y] := by
      show still x :: _ = _
      rw [if_pos hkx]
      rfl
    rw [ho] at h2
    exact fits_of (h2.2.2.1 1 y rfl)
  have hyop : y.op = 0 := by
    have := plain_kinds ⟨y.op, hyw.op⟩
    unfold plainKinds at this
    simp only [decide_eq_true_eq] at this
    exact this.2.2.2.2.1 hy10
  obtain ⟨_, _, _, yd0, ys0, yo0, _⟩ := hfy
  have hy10' : (partsOf y.op).kind = 10 := hy10
  unfold namedOf at yd0 ys0 yo0
  rw [hy10'] at yd0 ys0 yo0
  simp at yd0 ys0 yo0
  have hkx : kindOf x = 9 := by rw [hk, k9]
  have hnx : nextOf x (y :: r') = y := by unfold nextOf; rw [if_pos hkx]; rfl
  rw [if_neg k1, if_neg k2, if_neg k3, if_neg k4, if_neg k5, if_neg k6, if_neg k7, if_neg k8, if_pos k9, hnx]
  rw [if_neg k1, if_neg (by omega), if_neg k3, if_neg (by omega), if_neg k6, if_neg k8, if_pos k9] at d0 s0 o0 i0
  have htk : (y :: r').take 1 = [y] := rfl
  rw [htk]
  by_cases hs1 : x.src = 1
  · obtain ⟨e1, e2⟩ := pi_imm hx.imm
    rw [if_pos hs1, nextR_cons]
    simp only
    unfold namedR
    rw [if_neg (by decide), if_neg (by decide), if_neg (by decide), if_pos (by decide)]
    unfold wideR
    rw [if_pos rfl, regR_eq fd]
    simp only
    rw [nextR_cons]
    simp only [numR, e1, e2]
    have hyi : y.imm = 0 := by omega
    have q1 : (⟨24, x.dst, 1, 0, x.imm⟩ : Ins) = x := insEq (p9 k9).symm rfl hs1.symm (o0 rfl).symm rfl
    have q2 : Ins.zero = y := insEq hyop.symm yd0.symm ys0.symm yo0.symm hyi.symm
    rw [q1, q2]
    rfl
  · have hs0 : x.src = 0 := by omega
    have hwl : wideN x.imm y.imm < 18446744073709551616 := by unfold wideN; omega
    obtain ⟨e1, e2⟩ := pu_dec _ hwl
    rw [if_neg hs1, nextR_cons]
    simp only
    unfold namedR
    rw [if_neg (by decide), if_neg (by decide), if_neg (by decide), if_pos (by decide)]
    unfold wideR
    rw [if_neg (by decide), regR_eq fd]
    simp only
    rw [nextR_cons]
    simp only [e1, e2, i32c_lo _ _ hx.imm, i32c_hi _ _ hyw.imm]
    have q1 : (⟨24, x.dst, 0, 0, x.imm⟩ : Ins) = x := insEq (p9 k9).symm rfl hs0.symm (o0 rfl).symm rfl
    have q2 : (⟨0, 0, 0, 0, y.imm⟩ : Ins) = y := insEq hyop.symm yd0.symm ys0.symm yo0.symm rfl
    rw [q1, q2]
    rfl
end Go.Proofs.YtpannhipchnhaaaGreatDoor
namespace Go.Proofs.YtpannhipchnhaaaGreatDoor
open Go.Eng

/-- Rows of instructions that are in form, each alone. -/
inductive GoodP : List Ins → Prop
  | nil : GoodP []
  | one (x : Ins) (r : List Ins) : kindOf x ≠ 10 → kindOf x ≠ 9 → aloneOk [x] = true → GoodP r → GoodP (x :: r)
  | two (x y : Ins) (r : List Ins) : kindOf x = 9 → kindOf y = 10 → aloneOk [x, y] = true → GoodP r → GoodP (x :: y :: r)
theorem alone_single {x : Ins} {r : List Ins} (h9 : kindOf x ≠ 9) : aloneOk (x :: r) = aloneOk [x] := by
  have e : ∀ r : List Ins, ownOf (x :: r) = [still x] := fun r => by
    show still x :: _ = _
    rw [if_neg h9]
  unfold aloneOk
  rw [e, e]
theorem alone_pair {x y : Ins} {r : List Ins} (h9 : kindOf x = 9) : aloneOk (x :: y :: r) = aloneOk [x, y] := by
  have e : ∀ r : List Ins, ownOf (x :: y :: r) = [still x, y] := fun r => by
    show still x :: _ = _
    rw [if_pos h9]
    rfl
  unfold aloneOk
  rw [e, e]
theorem good_from {xs : List Ins} (h : ∀ (j : Nat) (x : Ins), xs[j]? = some x → shapeAt xs j x = true) : ∀ (n i : Nat), xs.length - i ≤ n → (i = 0 ∨ ∃ y, xs[i - 1]? = some y ∧ kindOf y ≠ 9) → GoodP (xs.drop i) := by
  intro n
  induction n with
  | zero =>
    intro i hi _
    rw [List.drop_eq_nil_of_le (by omega)]
    exact .nil
  | succ n ih =>
    intro i hi hp
    cases hx : xs[i]? with
    | none =>
      rw [List.drop_eq_nil_of_le (by simpa using hx)]
      exact .nil
    | some x =>
      obtain ⟨hlt, hxe⟩ := List.getElem?_eq_some_iff.1 hx
      have hd : xs.drop i = x :: xs.drop (i + 1) := by rw [List.drop_eq_getElem_cons hlt, hxe]
      have hs := h i x hx
      have h10 : kindOf x ≠ 10 := by
        intro h10
        unfold shapeAt at hs
        rw [if_pos h10] at hs
        cases i with
        | zero => cases hs
        | succ j =>
          rcases hp with hp | ⟨y, hy, hy9⟩
          · omega
          · rw [show j + 1 - 1 = j from by omega] at hy
            simp only [hy] at hs
            exact hy9 (of_decide_eq_true hs)
      clear hp
      unfold shapeAt at hs
      rw [if_neg h10, hd] at hs
      rw [hd]
      by_cases h9 : kindOf x = 9
      · obtain ⟨y, r', hr, hy10, _⟩ := alone_wide hs h9
        rw [hr] at hs ⊢
        rw [alone_pair h9] at hs
        refine .two x y r' h9 hy10 hs ?_
        have hy1 : xs[i + 1]? = some y := by
          have := congrArg List.head? hr
          rw [List.head?_drop] at this
          simpa using this
        have hd2 : r' = xs.drop (i + 2) := by
          have := congrArg List.tail hr
          simpa using this.symm
        rw [hd2]
        exact ih (i + 2) (by omega) (.inr ⟨y, by simpa using hy1, by omega⟩)
      · rw [alone_single h9] at hs
        exact .one x _ h10 h9 hs (ih (i + 1) (by omega) (.inr ⟨x, by simpa using hx, h9⟩))
theorem good_of_shape {xs : List Ins} (h : shapeOk xs = true) : GoodP xs := by
  have := good_from ((shapeOk_iff xs).1 h).2.2 xs.length 0 (by omega) (.inl rfl)
  simpa using this
theorem GoodP.head {x : Ins} {r : List Ins} (h : GoodP (x :: r)) : kindOf x ≠ 10 := by
  match h with
  | .one _ _ h _ _ _ => exact h
  | .two _ _ _ h _ _ _ => rw [h]; decide
theorem GoodP.shape {l : List Ins} (h : GoodP l) : ∀ (j : Nat) (x : Ins), l[j]? = some x → shapeAt l j x = true := by
  induction h with
  | nil => intro j x hx; simp at hx
  | one x r h10 h9 ha hg ih =>
    intro j z hz
    cases j with
    | zero =>
      obtain rfl : x = z := by simpa using hz
      unfold shapeAt
      rw [if_neg h10, List.drop_zero, alone_single h9]
      exact ha
    | succ j =>
      have hz' : r[j]? = some z := by simpa using hz
      have := ih j z hz'
      unfold shapeAt at this ⊢
      by_cases hk : kindOf z = 10
      · rw [if_pos hk] at this ⊢
        cases j with
        | zero => cases this
        | succ j => simpa using this
      · rw [if_neg hk] at this ⊢
        simpa using this
  | two x y r h9 h10 ha hg ih =>
    intro j z hz
    cases j with
    | zero =>
      obtain rfl : x = z := by simpa using hz
      unfold shapeAt
      rw [if_neg (by omega), List.drop_zero, alone_pair h9]
      exact ha
    | succ j =>
      cases j with
      | zero =>
        obtain rfl : y = z := by simpa using hz
        unfold shapeAt
        rw [if_pos h10]
        simp [h9]
      | succ j =>
        have hz' : r[j]? = some z := by simpa using hz
        have := ih j z hz'
        unfold shapeAt at this ⊢
        by_cases hk : kindOf z = 10
        · rw [if_pos hk] at this ⊢
          cases j with
          | zero => cases this
          | succ j => simpa using this
        · rw [if_neg hk] at this ⊢
          simpa using this
theorem shape_of_good {xs : List Ins} (h : GoodP xs) (h0 : 0 < xs.length) (h1 : xs.length ≤ 256) : shapeOk xs = true := (shapeOk_iff xs).2 ⟨h0, h1, h.shape⟩
theorem GoodP.append {a b : List Ins} (ha : GoodP a) (hb : GoodP b) : GoodP (a ++ b) := by
  induction ha with
  | nil => exact hb
  | one x r h1 h2 h3 _ ih => exact .one x _ h1 h2 h3 ih
  | two x y r h1 h2 h3 _ ih => exact .two x y _ h1 h2 h3 ih
theorem textL_append {a b : List Ins} (ha : GoodP a) : textL (a ++ b) = textL a ++ textL b := by
  induction ha with
  | nil => rfl
  | one x r h1 h2 h3 _ ih =>
    have e : ∀ r, nextOf x r = Ins.zero := fun r => by unfold nextOf; rw [if_neg h2]
    rw [List.cons_append, textL_cons, textL_cons, ih, e, e, List.append_assoc]
  | two x y r h1 h2 h3 _ ih =>
    have e : ∀ r, nextOf x (y :: r) = y := fun r => by unfold nextOf; rw [if_pos h1]; rfl
    rw [List.cons_append, List.cons_append, textL_cons, textL_cons, textL_cons x, textL_cons y, ih, e, e, if_pos h2, if_pos h2]
    simp
theorem line_read {x : Ins} {r : List Ins} (hw : AllWf (x :: r)) (h : aloneOk (x :: r) = true) (h10 : kindOf x ≠ 10) : readR (joinS (lineW x (nextOf x r))) = (x :: (if kindOf x = 9 then r.take 1 else []), true) := by
  have hb := line_back hw h h10
  have hsh : shapeOk (x :: (if kindOf x = 9 then r.take 1 else [])) = true ∧ textL (x :: (if kindOf x = 9 then r.take 1 else [])) = joinS (lineW x (nextOf x r)) ++ [10] := by
    by_cases h9 : kindOf x = 9
    · obtain ⟨y, r', rfl, hy10, _⟩ := alone_wide h h9
      rw [if_pos h9, alone_pair h9] at *
      have htk : (y :: r').take 1 = [y] := rfl
      rw [htk]
      refine ⟨shape_of_good (.two x y [] h9 hy10 h .nil) (by simp) (by simp), ?_⟩
      have e : ∀ r, nextOf x (y :: r) = y := fun r => by unfold nextOf; rw [if_pos h9]; rfl
      rw [textL_cons, textL_cons, e, e, if_neg h10, if_pos hy10]
      simp [textL, lineT]
    · rw [if_neg h9] at *
      rw [alone_single h9] at h
      refine ⟨shape_of_good (.one x [] h10 h9 h .nil) (by simp) (by simp), ?_⟩
      have e : ∀ r, nextOf x r = Ins.zero := fun r => by unfold nextOf; rw [if_neg h9]
      rw [textL_cons, e, e, if_neg h10]
      simp [textL, lineT]
  unfold readR
  rw [hb]
  simp only
  rw [hsh.1, hsh.2]
  simp
theorem parse_good {l : List Ins} (hg : GoodP l) : AllWf l → ∀ (f k : Nat) (out : List Ins), (textL l).length < f → parseF f (textL l) k out = (if 256 < (out ++ l).length then ([], 0, 7) else (out ++ l, 0, 0)) := by
  induction hg with
  | nil =>
    intro _ f k out hf
    obtain ⟨f', rfl⟩ : ∃ f', f = f' + 1 := ⟨f - 1, by omega⟩
    have : textL [] = [] := rfl
    rw [this, parseF, if_pos rfl, List.append_nil]
  | one x r h10 h9 ha _ ih =>
    intro hw f k out hf
    obtain ⟨f', rfl⟩ : ∃ f', f = f' + 1 := ⟨f - 1, by omega⟩
    have hl := line_read (r := r) hw (by rw [alone_single h9]; exact ha) h10
    rw [if_neg h9] at hl
    have htx : textL (x :: r) = joinS (lineW x (nextOf x r)) ++ 10 :: textL r := by
      rw [textL_cons, if_neg h10]
      simp [lineT]
    have hcut := cutL_nl (join_nl _ (noSp_line x (nextOf x r))) (textL r)
    rw [htx] at hf ⊢
    rw [parseF, if_neg (by simp), hcut]
    simp only
    rw [hl]
    simp only [Bool.true_eq_false, or_self, if_false]
    rw [ih (fun y hy => hw y (by simp [hy])) f' _ _ (by simp at hf; omega)]
    simp
  | two x y r h9 h10 ha _ ih =>
    intro hw f k out hf
    obtain ⟨f', rfl⟩ : ∃ f', f = f' + 1 := ⟨f - 1, by omega⟩
    have hx10 : kindOf x ≠ 10 := by omega
    have hl := line_read (r := y :: r) hw (by rw [alone_pair h9]; exact ha) hx10
    rw [if_pos h9] at hl
    have htx : textL (x :: y :: r) = joinS (lineW x (nextOf x (y :: r))) ++ 10 :: textL r := by
      rw [textL_cons, if_neg hx10, textL_cons, if_pos h10]
      simp [lineT]
    have hcut := cutL_nl (join_nl _ (noSp_line x (nextOf x (y :: r)))) (textL r)
    rw [htx] at hf ⊢
    rw [parseF, if_neg (by simp), hcut]
    simp only
    rw [hl]
    simp only [Bool.true_eq_false, or_self, if_false]
    rw [ih (fun z hz => hw z (by simp [hz])) f' _ _ (by simp at hf; omega)]
    simp
theorem parse_text {xs : List Ins} (hs : shapeOk xs = true) (hw : AllWf xs) : parseR (textL xs) = (xs, 0, 0) := by
  have h := parse_good (good_of_shape hs) hw ((textL xs).length + 1) 1 [] (by omega)
  have h256 := ((shapeOk_iff xs).1 hs).2.1
  rw [if_neg (by simp; omega)] at h
  exact h
end Go.Proofs.YtpannhipchnhaaaGreatDoor
