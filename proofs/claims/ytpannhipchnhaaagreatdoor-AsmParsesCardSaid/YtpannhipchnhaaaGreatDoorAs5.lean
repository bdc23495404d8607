/- Layer 23: long ones, and lines, read. -/
import Derived.Test.YtpannhipchnhaaaGreatDoorAs4
set_option linter.unusedSimpArgs false
set_option linter.unusedVariables false
set_option maxRecDepth 8000
namespace Go.Proofs.YtpannhipchnhaaaGreatDoor
open Go.Eng

/-- What was read: a row of instructions, or none. -/
def OutAt (w : World) (v : Value) (l : List Ins) : Prop := (l = [] ∧ v = .slice none 0 0) ∨ (0 < l.length ∧ ∃ q c, v = .slice (some ⟨q, 0, none⟩) l.length c ∧ l.length ≤ c ∧ CodeAt w q 0 l)
theorem code_list {w : World} {q : Nat} {l : List Ins} (h : w.heap[q]? = some (.cells (insCells l).toArray 39 (0, 0))) : CodeAt w q 0 l :=
  code_of_cells fun j y hy => by rw [wcell_of h, Nat.zero_add]; simpa using hy
theorem out_new {w : World} {l : List Ins} {n : Nat} (hl : n = l.length) (h0 : 0 < l.length) : OutAt (w.alloc (.cells (insCells l).toArray 39)) (.slice (some ⟨w.heap.size, 0, none⟩) n n) l := by
  subst hl
  exact .inr ⟨h0, w.heap.size, l.length, rfl, Nat.le_refl _, code_list (hp_new w _)⟩
theorem OutAt.var {w : World} {v : Value} {l : List Ins} (h : OutAt w v l) : varV v = some v := by
  rcases h with ⟨_, rfl⟩ | ⟨_, q, c, rfl, _⟩ <;> rfl
theorem OutAt.calm {w w' : World} {v : Value} {l : List Ins} (h : OutAt w v l) (hk : Kept none' w w') : OutAt w' v l := by
  rcases h with h | ⟨h0, q, c, h1, h2, h3⟩
  · exact .inl h
  · exact .inr ⟨h0, q, c, h1, h2, h3.calm hk⟩
def i32c (n : Nat) : Int := IntKind.i32.wrap (IntKind.u32.wrap (n : Int))
theorem i32c_in (n : Nat) : -2147483648 ≤ i32c n ∧ i32c n ≤ 2147483647 := by
  unfold i32c
  rw [IntKind.wrap_i32]
  omega
def wideR (r : Rd) (name : Str) : List Ins × Rd :=
  if name = [109, 97, 112] then ([⟨24, (regR r).1, 1, 0, piVal 32 (nextR (regR r).2).1⟩, Ins.zero], (numR (nextR (regR r).2).2 32 (nextR (regR r).2).1).2)
  else ([⟨24, (regR r).1, 0, 0, i32c (puVal (nextR (regR r).2).1)⟩, ⟨0, 0, 0, 0, i32c (puVal (nextR (regR r).2).1 / 4294967296)⟩], ⟨(nextR (regR r).2).2.l, (nextR (regR r).2).2.wr || !puOk (nextR (regR r).2).1⟩)
theorem ins_two (x y : Ins) : (insCells [x, y]).toArray = #[.int .u8 x.op, .int .u8 x.dst, .int .u8 x.src, .int .i16 x.off, .int .i32 x.imm, .int .u8 y.op, .int .u8 y.dst, .int .u8 y.src, .int .i16 y.off, .int .i32 y.imm] := rfl
theorem ins_single (x : Ins) : (insCells [x]).toArray = x.arr := rfl
set_option maxHeartbeats 4000000 in
theorem wide_ret {b : Nat} {r : Rd} {name : Str} (w : World) (hg : GlobA w) (hb : Above b) (h : RdAt w b r) (hn : r.l.length ≤ 1000000) :
    Ret Tryz.prog 53 [.pointer (some ⟨b, 0, none⟩), .string (us name)] w fun v w' => OutAt w' v (wideR r name).1 ∧ RdAt w' b (wideR r name).2 ∧ KB b w w' := by
  refine ret_of_W Tryz.func53 rfl ok_asm_words_wide ?_
  have hA := hg.above
  have q1 : strBin .eql (us name) ⟨#[109, 97, 112]⟩ = some (.bool (decide (name = [109, 97, 112]))) := us_eql _ _
  have hle := regR_le r
  simp only [c_asm_words_wide, W_seq, W_set]
  refine ok_intro (.slice none 0 0) (by simp) ?_
  try simp only [W_seq]
  refine W_call0 (by simp) (reg_ret w hg hb h hn) ?_
  rintro v w1 ⟨rfl, h1, hk1⟩
  generalize hx : Ins.mk 24 (regR r).1 0 0 0 = x
  try simp only [W_seq]
  refine W_chkIn [x.val] (by subst hx; simp; rfl) ?_
  simp only [W_seq]
  refine W_new' (cs := Ins.zero.arr) (by simp; rfl) rfl ?_
  have hb4 := zero_box w1
  have hk2 : Kept none' w1 (w1.alloc (.cells Ins.zero.arr 39)) := (Kept.refl _ _).alloc _
  generalize w1.alloc (.cells Ins.zero.arr 39) = w2 at hb4 hk2
  have hs1 := hk1.size
  generalize hb4n : w1.heap.size = b4 at hb4
  obtain ⟨w3, hst3, hb43, hk3⟩ := box_of hb4 x
  refine W_store (by simp) (vv := x.val) (by subst hx; simp; rfl) hst3 (stab_nil _ _ _) ?_
  have hr3 := (h1.calm hk2).beside hb4 hk3
  have hk03 : KB b w w3 := kx_new (hk1.trans (kb_calm hk2)) hk3 (by omega)
  have hg3 := hg.kb hb hk03
  have hne := rd_ne hr3 hb43
  try simp only [W_seq]
  refine W_chkIn [.bool (decide (name = [109, 97, 112]))] (by simp [q1]) ?_
  have hl := next_len hr3.words
  have hnl := next_le (regR r).2
  by_cases hm : name = [109, 97, 112]
  · refine W_yes (by simp [q1]; exact hm) ?_
    have hwr : wideR r name = ([⟨24, (regR r).1, 1, 0, piVal 32 (nextR (regR r).2).1⟩, Ins.zero], (numR (nextR (regR r).2).2 32 (nextR (regR r).2).1).2) := by unfold wideR; rw [if_pos hm]
    rw [hwr]
    simp only [W_seq]
    refine W_call0 (by simp) (next_ret w3 hr3 (by omega)) ?_
    rintro v w4 ⟨rfl, h4, hk4⟩
    simp only [W_seq]
    refine W_call0 (by simp) (number32_ret w4 (hg3.kb hb hk4) h4 hl) ?_
    rintro v w5 ⟨rfl, h5, hk5⟩
    have hb45 := at_kb (at_kb hb43 hk4 hne) hk5 hne
    have hp := pi32 (nextR (regR r).2).1
    have e : IntKind.i32.wrap (piVal 32 (nextR (regR r).2).1) = piVal 32 (nextR (regR r).2).1 := i32w (by omega) (by omega)
    simp only [W_set, W_seq]
    refine ok_intro (.int .i32 (piVal 32 (nextR (regR r).2).1)) (by simp [numR, e]) ?_
    obtain ⟨w6, hst6, hb46, hk6⟩ := ins_put hb45 2 (by omega) (v := .int .u8 1) rfl rfl
    have hb46 : AtB w6 b4 { x with src := 1 } := hb46
    try simp only [W_seq]
    refine W_store (by simp) (by simp) hst6 (stab_nil _ _ _) ?_
    have hr6 := h5.beside hb45 hk6
    obtain ⟨w7, hst7, hb47, hk7⟩ := ins_put hb46 4 (by omega) (v := .int .i32 (piVal 32 (nextR (regR r).2).1)) rfl rfl
    have hb47 : AtB w7 b4 { x with src := 1, imm := piVal 32 (nextR (regR r).2).1 } := hb47
    refine W_store (by simp) (by simp) hst7 (stab_nil _ _ _) ?_
    have hr7 := hr6.beside hb46 hk7
    have hrow := wrow_box hb47 (n := 5) (by simp)
    have hk07 : KB b w w7 := kx_new (kx_new ((hk03.trans hk4).trans hk5) hk6 (by omega)) hk7 (by omega)
    try simp only [W_seq]
    refine W_row' (v := .agg (insCells [⟨24, (regR r).1, 1, 0, piVal 32 (nextR (regR r).2).1⟩, Ins.zero]).toArray) (cs := (insCells [⟨24, (regR r).1, 1, 0, piVal 32 (nextR (regR r).2).1⟩, Ins.zero]).toArray) ?_ rfl ?_
    · subst hx
      simp [hrow]
      exact ⟨by rw [Go.Eng.setRow_size]; decide, rfl⟩
    simp
    exact ⟨out_new rfl (by simp), hr7.calm ((Kept.refl _ _).alloc _), hk07.trans (kb_calm ((Kept.refl _ _).alloc _))⟩
  refine W_no (by simp [q1, hm]) ?_
  have hwr : wideR r name = ([⟨24, (regR r).1, 0, 0, i32c (puVal (nextR (regR r).2).1)⟩, ⟨0, 0, 0, 0, i32c (puVal (nextR (regR r).2).1 / 4294967296)⟩], ⟨(nextR (regR r).2).2.l, (nextR (regR r).2).2.wr || !puOk (nextR (regR r).2).1⟩) := by unfold wideR; rw [if_neg hm]
  rw [hwr]
  simp only [W_skip, W_seq]
  refine W_call0 (by simp) (next_ret w3 hr3 (by omega)) ?_
  rintro v w4 ⟨rfl, h4, hk4⟩
  have hb44 := at_kb hb43 hk4 hne
  generalize nextR (regR r).2 = q at *
  obtain ⟨s, r4⟩ := q
  simp only at *
  simp only [W_seq]
  refine W_calmP (by simp) (parseU_ret s w4 (hg3.kb hb hk4) hl) ?_
  rintro v w5 hk5 ⟨e, rfl, he⟩
  obtain ⟨hnil, hev⟩ := err_nil he
  have hr5 := h4.calm hk5
  have hb45 := hk5.has hb44 (fun h => h)
  simp only [W_seq]
  refine W_chkIn [e] (by simp) ?_
  simp only [W_set, W_seq]
  refine ok_intro (.int .u64 (puVal s)) (by simp) ?_
  refine ok_intro e (by simp) ?_
  have hr' := hr5
  obtain ⟨sb, o, c, h6, _⟩ := hr'
  have hc1 : wcell w5 b 1 = some (.bool r4.wr) := by rw [wcell_of h6]; rfl
  obtain ⟨w6, hst6, hr6, hk6⟩ := hr5.mark (r4.wr || !puOk s)
  try simp only [W_seq]
  refine W_store (by simp) (vv := .bool (r4.wr || !puOk s)) (by simp [hc1, hnil, hev]) hst6 (stab_nil _ _ _) ?_
  have hb46 := at_kb hb45 hk6 hne
  have hpl := puLt s
  obtain ⟨w7, hst7, hb47, hk7⟩ := ins_put hb46 4 (by omega) (v := .int .i32 (i32c (puVal s))) rfl rfl
  have hb47 : AtB w7 b4 { x with imm := i32c (puVal s) } := hb47
  try simp only [W_seq]
  refine W_store (by simp) (vv := .int .i32 (i32c (puVal s))) (by simp; rfl) hst7 (stab_nil _ _ _) ?_
  have hr7 := hr6.beside hb46 hk7
  have hrow := wrow_box hb47 (n := 5) (by simp)
  have hk07 : KB b w w7 := kx_new (((hk03.trans hk4).trans (kb_calm hk5)).trans hk6) hk7 (by omega)
  have hmin : min 32 (IntKind.bits .u64) = 32 := rfl
  have hfd : (puVal s : Int).fdiv 4294967296 = ((puVal s / 4294967296 : Nat) : Int) := nat_fdiv _ 4294967296
  try simp only [W_seq]
  refine W_chkIn [(Ins.mk 0 0 0 0 (i32c (puVal s / 4294967296))).val] ?_ ?_
  · simp only [evs, Ex.ev, U1.ap, U2.ap, Option.bind_some]
    simp [hmin]
    rw [hfd]
    rfl
  simp only [W_seq]
  refine W_row' (v := .agg (insCells [⟨24, (regR r).1, 0, 0, i32c (puVal s)⟩, ⟨0, 0, 0, 0, i32c (puVal s / 4294967296)⟩]).toArray) (cs := (insCells [⟨24, (regR r).1, 0, 0, i32c (puVal s)⟩, ⟨0, 0, 0, 0, i32c (puVal s / 4294967296)⟩]).toArray) ?_ rfl ?_
  · subst hx
    simp [hrow, hmin]
    rw [hfd]
    exact ⟨by rw [Go.Eng.setRow_size]; decide, rfl⟩
  simp
  exact ⟨out_new rfl (by simp), hr7.calm ((Kept.refl _ _).alloc _), hk07.trans (kb_calm ((Kept.refl _ _).alloc _))⟩
end Go.Proofs.YtpannhipchnhaaaGreatDoor
namespace Go.Proofs.YtpannhipchnhaaaGreatDoor
open Go.Eng

theorem low_T (w0 : World) (a c : Nat) (t : Bool) : T Tryz.prog w0 57 [.int .u8 a, .int .u8 c, .bool t] = some (.int .u8 (if t = true then c else a : Nat)) :=
  T_of (by kernel_rfl) Tryz.func57 rfl ok_asm_low (by simp) (by simp) fun B hB => by
    cases t <;> simp [c_asm_low, C_cond_eq]
def namedR (r : Rd) (name : Str) : List Ins × Rd :=
  if name = [101, 120, 105, 116] then ([exitI], r)
  else if name = [106, 97] then ([⟨5, 0, 0, (offR r).1, 0⟩], (offR r).2)
  else if name = [99, 97, 108, 108] then ([⟨133, 0, 0, 0, piVal 32 (nextR r).1⟩], (numR (nextR r).2 32 (nextR r).1).2)
  else if name = [119, 105, 100, 101] ∨ name = [109, 97, 112] then wideR r name
  else if name = [] then ([], ⟨r.l, true⟩)
  else if 0 ≤ ixOf aluW (Lib.trimSuffix name [51, 50]) then ([(aluR r (ixOf aluW (Lib.trimSuffix name [51, 50])).toNat (if Lib.hasSuffix name [51, 50] = true then 4 else 7)).1], (aluR r (ixOf aluW (Lib.trimSuffix name [51, 50])).toNat (if Lib.hasSuffix name [51, 50] = true then 4 else 7)).2)
  else if 0 < ixOf jumpW (Lib.trimSuffix name [51, 50]) then ([(jumpR r (ixOf jumpW (Lib.trimSuffix name [51, 50])).toNat (if Lib.hasSuffix name [51, 50] = true then 6 else 5)).1], (jumpR r (ixOf jumpW (Lib.trimSuffix name [51, 50])).toNat (if Lib.hasSuffix name [51, 50] = true then 6 else 5)).2)
  else if ixOf sizeW (name.drop (name.length - 1)) < 0 then ([], ⟨r.l, true⟩)
  else ([(memR r (name.take (name.length - 1)) (ixOf sizeW (name.drop (name.length - 1))).toNat).1], (memR r (name.take (name.length - 1)) (ixOf sizeW (name.drop (name.length - 1))).toNat).2)
theorem ixOf_neg {l : List Str} {x : Str} (h : ¬ 0 ≤ ixOf l x) : ixOf l x = -1 := by
  unfold ixOf at h ⊢
  split at h
  · omega
  · rename_i hx; rw [if_neg hx]
theorem out_one {w : World} (x : Ins) : OutAt (w.alloc (.cells x.arr 39)) (.slice (some ⟨w.heap.size, 0, none⟩) 1 1) [x] := out_new (l := [x]) rfl (by simp)
theorem upd_whole (x : Ins) : (if (Value.agg x.arr).cells.size = 5 ∧ 0 + (Value.agg x.arr).cells.size ≤ Ins.zero.arr.size then some (Value.agg (setRow Ins.zero.arr 0 (Value.agg x.arr).cells.toList)) else none) = some x.val := by
  rw [if_pos ⟨by simp, by simp⟩, setRow_all (by simp)]
  rfl
set_option maxHeartbeats 8000000 in
theorem named_ret {b : Nat} {r : Rd} {name : Str} (w : World) (hg : GlobA w) (hb : Above b) (h : RdAt w b r) (hn : r.l.length ≤ 1000000) (hnm : name.length ≤ 1000000) :
    Ret Tryz.prog 35 [.pointer (some ⟨b, 0, none⟩), .string (us name)] w fun v w' => OutAt w' v (namedR r name).1 ∧ RdAt w' b (namedR r name).2 ∧ KB b w w' := by
  refine ret_of_W Tryz.func35 rfl ok_asm_words_named ?_
  have q1 : strBin .eql (us name) ⟨#[101, 120, 105, 116]⟩ = some (.bool (decide (name = [101, 120, 105, 116]))) := us_eql _ _
  have q2 : strBin .eql (us name) ⟨#[106, 97]⟩ = some (.bool (decide (name = [106, 97]))) := us_eql _ _
  have q3 : strBin .eql (us name) ⟨#[99, 97, 108, 108]⟩ = some (.bool (decide (name = [99, 97, 108, 108]))) := us_eql _ _
  have q4 : strBin .eql (us name) ⟨#[119, 105, 100, 101]⟩ = some (.bool (decide (name = [119, 105, 100, 101]))) := us_eql _ _
  have q5 : strBin .eql (us name) ⟨#[109, 97, 112]⟩ = some (.bool (decide (name = [109, 97, 112]))) := us_eql _ _
  have q6 : strBin .eql (us name) ⟨#[]⟩ = some (.bool (decide (name = []))) := us_eql _ _
  have hal : ∀ (w : World) (o : Obj), Kept none' w (w.alloc o) := fun w o => (Kept.refl _ _).alloc _
  have hnl := next_len h.words
  have hnle := next_le r
  simp only [c_asm_words_named, W_seq, W_set, W_block]
  refine ok_intro (.slice none 0 0) (by simp) ?_
  try simp only [W_seq, W_set]
  refine ok_intro (.string (us name)) (by simp) ?_
  try simp only [W_seq, W_block]
  refine W_chkIn [.bool (decide (name = [101, 120, 105, 116]))] (by simp [q1]) ?_
  try simp only [W_seq, W_set]
  refine ok_intro (.bool (decide (name = [101, 120, 105, 116]))) (by simp [q1]) ?_
  by_cases h1 : name = [101, 120, 105, 116]
  · have hq : namedR r name = ([exitI], r) := by unfold namedR; rw [if_pos h1]
    rw [hq]
    refine W_yes (by simp; exact h1) ?_
    try simp only [W_seq]
    refine W_chkIn [exitI.val] (by simp; rfl) ?_
    try simp only [W_seq]
    refine W_row' (v := exitI.val) (cs := exitI.arr) (by simp; rfl) rfl ?_
    simp
    exact ⟨out_one _, h.calm (hal _ _), kb_calm (hal _ _)⟩
  refine W_no (by simp; exact h1) ?_
  try simp only [W_seq]
  refine W_chkIn [.bool (decide (name = [106, 97]))] (by simp [q2]) ?_
  try simp only [W_seq, W_set]
  refine ok_intro (.bool (decide (name = [106, 97]))) (by simp [q2]) ?_
  by_cases h2 : name = [106, 97]
  · have hq : namedR r name = ([⟨5, 0, 0, (offR r).1, 0⟩], (offR r).2) := by unfold namedR; rw [if_neg h1, if_pos h2]
    rw [hq]
    refine W_yes (by simp; exact h2) ?_
    try simp only [W_seq]
    refine W_call0 (by simp) (offset_ret w hg hb h hn) ?_
    rintro v w1 ⟨rfl, hr1, hk1⟩
    generalize (offR r).1 = n
    try simp only [W_seq]
    refine W_chkIn [(Ins.mk 5 0 0 n 0).val] (by simp; rfl) ?_
    try simp only [W_seq]
    refine W_row' (v := (Ins.mk 5 0 0 n 0).val) (cs := (Ins.mk 5 0 0 n 0).arr) (by simp; rfl) rfl ?_
    simp
    exact ⟨out_one _, hr1.calm (hal _ _), hk1.trans (kb_calm (hal _ _))⟩
  refine W_no (by simp; exact h2) ?_
  try simp only [W_seq]
  refine W_chkIn [.bool (decide (name = [99, 97, 108, 108]))] (by simp [q3]) ?_
  try simp only [W_seq, W_set]
  refine ok_intro (.bool (decide (name = [99, 97, 108, 108]))) (by simp [q3]) ?_
  by_cases h3 : name = [99, 97, 108, 108]
  · have hq : namedR r name = ([⟨133, 0, 0, 0, piVal 32 (nextR r).1⟩], (numR (nextR r).2 32 (nextR r).1).2) := by unfold namedR; rw [if_neg h1, if_neg h2, if_pos h3]
    rw [hq]
    refine W_yes (by simp; exact h3) ?_
    try simp only [W_seq]
    refine W_call0 (by simp) (next_ret w h hn) ?_
    rintro v w1 ⟨rfl, hr1, hk1⟩
    try simp only [W_seq]
    refine W_call0 (by simp) (number32_ret w1 (hg.kb hb hk1) hr1 hnl) ?_
    rintro v w2 ⟨rfl, hr2, hk2⟩
    have hp := pi32 (nextR r).1
    have e : IntKind.i32.wrap (piVal 32 (nextR r).1) = piVal 32 (nextR r).1 := i32w (by omega) (by omega)
    have e0 : (numR (nextR r).2 32 (nextR r).1).1 = piVal 32 (nextR r).1 := rfl
    rw [e0]
    generalize piVal 32 (nextR r).1 = n at *
    try simp only [W_seq]
    refine W_chkIn [(Ins.mk 133 0 0 0 n).val] (by simp [e]; rfl) ?_
    try simp only [W_seq]
    refine W_row' (v := (Ins.mk 133 0 0 0 n).val) (cs := (Ins.mk 133 0 0 0 n).arr) (by simp [e]; rfl) rfl ?_
    simp
    exact ⟨out_one _, hr2.calm (hal _ _), (hk1.trans hk2).trans (kb_calm (hal _ _))⟩
  refine W_no (by simp; exact h3) ?_
  try simp only [W_seq]
  refine W_chkIn [.bool (decide (name = [119, 105, 100, 101]))] (by simp [q4]) ?_
  try simp only [W_seq, W_set]
  refine ok_intro (.bool (decide (name = [119, 105, 100, 101]))) (by simp [q4]) ?_
  refine W_cut (fun env w' => w' = w ∧ env = [.pointer (some ⟨b, 0, none⟩), .string (us name), .slice none 0 0, .string (us name), .bool (decide (name = [101, 120, 105, 116])), undef, .bool (decide (name = [106, 97])), undef, undef, .bool (decide (name = [99, 97, 108, 108])), undef, undef, undef, .bool (decide (name = [119, 105, 100, 101] ∨ name = [109, 97, 112])), undef, undef, undef, undef, undef, undef, undef, undef, undef, undef, undef, undef, undef, undef, undef, undef, undef, undef, undef, undef]) ?_ ?_
  · by_cases h4 : name = [119, 105, 100, 101]
    · refine W_yes (by simp; exact h4) ?_
      simp [h4]
    · refine W_no (by simp; exact h4) ?_
      try simp only [W_seq]
      refine W_chkIn [.bool (decide (name = [109, 97, 112]))] (by simp [q5]) ?_
      try simp only [W_seq, W_set]
      refine ok_intro (.bool (decide (name = [109, 97, 112]))) (by simp [q5]) ?_
      simp [h4]
  rintro env w1 ⟨rfl, rfl⟩
  try simp only [W_seq]
  by_cases h4 : name = [119, 105, 100, 101] ∨ name = [109, 97, 112]
  · have hq : namedR r name = wideR r name := by unfold namedR; rw [if_neg h1, if_neg h2, if_neg h3, if_pos h4]
    rw [hq]
    refine W_yes (by simp; exact h4) ?_
    try simp only [W_seq]
    refine W_call0 (by simp) (wide_ret (name := name) w1 hg hb h hn) ?_
    rintro v w2 ⟨ho, hr2, hk2⟩
    have hv := ho.var
    simp [hv]
    exact ⟨ho, hr2, hk2⟩
  refine W_no (by simpa using h4) ?_
  try simp only [W_seq]
  refine W_chkIn [.bool (decide (name = []))] (by simp [q6]) ?_
  try simp only [W_seq, W_set]
  refine ok_intro (.bool (decide (name = []))) (by simp [q6]) ?_
  by_cases h5 : name = []
  · have hq : namedR r name = ([], ⟨r.l, true⟩) := by unfold namedR; rw [if_neg h1, if_neg h2, if_neg h3, if_neg h4, if_pos h5]
    rw [hq]
    refine W_yes (by simp; exact h5) ?_
    obtain ⟨w2, hst2, hr2, hk2⟩ := h.mark true
    try simp only [W_seq]
    refine W_store (by simp) (by simp) hst2 (stab_nil _ _ _) ?_
    simp
    exact ⟨.inl ⟨rfl, rfl⟩, hr2, hk2⟩
  refine W_no (by simp; exact h5) ?_
  simp only [W_skip, W_blk, W_seq]
  refine W_calm (vs := [.string (us name), .string (us [51, 50])]) (by simp; rfl) (ret_of_T (cutSuffix_T w1 name [51, 50] (by omega))) ?_
  intro w2 hk2
  have hr2 := h.calm hk2
  have hg2 := hg.calm hk2
  have hqn : namedR r name = (if 0 ≤ ixOf aluW (Lib.trimSuffix name [51, 50]) then ([(aluR r (ixOf aluW (Lib.trimSuffix name [51, 50])).toNat (if Lib.hasSuffix name [51, 50] = true then 4 else 7)).1], (aluR r (ixOf aluW (Lib.trimSuffix name [51, 50])).toNat (if Lib.hasSuffix name [51, 50] = true then 4 else 7)).2)
  else if 0 < ixOf jumpW (Lib.trimSuffix name [51, 50]) then ([(jumpR r (ixOf jumpW (Lib.trimSuffix name [51, 50])).toNat (if Lib.hasSuffix name [51, 50] = true then 6 else 5)).1], (jumpR r (ixOf jumpW (Lib.trimSuffix name [51, 50])).toNat (if Lib.hasSuffix name [51, 50] = true then 6 else 5)).2)
  else if ixOf sizeW (name.drop (name.length - 1)) < 0 then ([], ⟨r.l, true⟩)
  else ([(memR r (name.take (name.length - 1)) (ixOf sizeW (name.drop (name.length - 1))).toNat).1], (memR r (name.take (name.length - 1)) (ixOf sizeW (name.drop (name.length - 1))).toNat).2)) := by unfold namedR; rw [if_neg h1, if_neg h2, if_neg h3, if_neg h4, if_neg h5]
  rw [hqn]
  generalize Lib.trimSuffix name [51, 50] = long at *
  generalize Lib.hasSuffix name [51, 50] = is32 at *
  try simp only [W_seq]
  refine W_chkIn [.bool is32] (by simp) ?_
  try simp only [W_seq, W_set]
  refine ok_intro (.string (us long)) (by simp) ?_
  refine ok_intro (.bool is32) (by simp) ?_
  try simp only [W_seq]
  refine W_chkIn [.slice (some ⟨0, 0, none⟩) 13 13] (by simp) ?_
  try simp only [W_seq]
  refine W_calm (by simp) (ret_of_T (alus_T hg2 long)) ?_
  intro w3 hk3
  try simp only [W_seq, W_set]
  refine ok_intro (.int .i64 (ixOf aluW long)) (by simp) ?_
  have hr3 := hr2.calm hk3
  have hg3 := hg2.calm hk3
  have hk03 : KB b w1 w3 := (kb_calm hk2).trans (kb_calm hk3)
  try simp only [W_seq]
  by_cases h6 : 0 ≤ ixOf aluW long
  · refine W_yes (by simp [h6]) ?_
    rw [if_pos h6]
    obtain ⟨n, hn6⟩ : ∃ n : Nat, ixOf aluW long = n := ⟨(ixOf aluW long).toNat, by omega⟩
    obtain ⟨hn7, _⟩ := ixOf_at hn6
    have hn7 : n < 13 := hn7
    rw [hn6, Int.toNat_natCast]
    try simp only [W_seq]
    refine W_chkIn [.int .i64 n, .pointer (some ⟨b, 0, none⟩)] (by simp) ?_
    try simp only [W_seq]
    refine W_calm (by simp) (ret_of_T (low_T w3 7 4 is32)) ?_
    intro w4 hk4
    try simp only [W_seq]
    have hlo : (if is32 = true then 4 else 7) ≤ 255 := by split <;> omega
    generalize (if is32 = true then 4 else 7) = lo at *
    refine W_call0 (by simp) (alu_ret (op := n) (low := lo) w4 (hg3.calm hk4) hb (hr3.calm hk4) hn (by omega) hlo) ?_
    rintro v w5 ⟨rfl, hr5, hk5⟩
    generalize aluR r n lo = q at *
    obtain ⟨x, r5⟩ := q
    simp only at *
    try simp only [W_seq]
    refine W_row' (v := x.val) (cs := x.arr) (by simp; exact setRow_all (by simp)) rfl ?_
    simp
    exact ⟨out_one _, hr5.calm (hal _ _), ((hk03.trans (kb_calm hk4)).trans hk5).trans (kb_calm (hal _ _))⟩
  have h6' := ixOf_neg h6
  refine W_no (by simp [h6']) ?_
  rw [if_neg h6]
  simp only [W_skip, W_seq]
  refine W_chkIn [.slice (some ⟨1, 0, none⟩) 14 14] (by simp) ?_
  try simp only [W_seq]
  refine W_calm (by simp) (ret_of_T (jumps_T hg3 long)) ?_
  intro w4 hk4
  try simp only [W_seq, W_set]
  refine ok_intro (.int .i64 (ixOf jumpW long)) (by simp) ?_
  have hr4 := hr3.calm hk4
  have hg4 := hg3.calm hk4
  have hk04 : KB b w1 w4 := hk03.trans (kb_calm hk4)
  try simp only [W_seq]
  by_cases h7 : 0 < ixOf jumpW long
  · refine W_yes (by simp [h7]) ?_
    rw [if_pos h7]
    obtain ⟨n, hn6⟩ : ∃ n : Nat, ixOf jumpW long = n := ⟨(ixOf jumpW long).toNat, by omega⟩
    obtain ⟨hn7, _⟩ := ixOf_at hn6
    have hn7 : n < 14 := hn7
    rw [hn6, Int.toNat_natCast]
    try simp only [W_seq]
    refine W_chkIn [.int .i64 n, .pointer (some ⟨b, 0, none⟩)] (by simp) ?_
    try simp only [W_seq]
    refine W_calm (by simp) (ret_of_T (low_T w4 5 6 is32)) ?_
    intro w5 hk5
    try simp only [W_seq]
    have hlo : (if is32 = true then 6 else 5) ≤ 255 := by split <;> omega
    generalize (if is32 = true then 6 else 5) = lo at *
    refine W_call0 (by simp) (jump_ret (op := n) (low := lo) w5 (hg4.calm hk5) hb (hr4.calm hk5) hn (by omega) hlo) ?_
    rintro v w6 ⟨rfl, hr6, hk6⟩
    generalize jumpR r n lo = q at *
    obtain ⟨x, r6⟩ := q
    simp only at *
    try simp only [W_seq]
    refine W_row' (v := x.val) (cs := x.arr) (by simp; exact setRow_all (by simp)) rfl ?_
    simp
    exact ⟨out_one _, hr6.calm (hal _ _), ((hk04.trans (kb_calm hk5)).trans hk6).trans (kb_calm (hal _ _))⟩
  refine W_no (by simp; omega) ?_
  rw [if_neg h7]
  have hpos : 0 < name.length := List.length_pos_iff.2 h5
  have e1 : IntKind.i64.wrap ((name.length : Int) - 1) = ((name.length - 1 : Nat) : Int) := by rw [i64w (by omega) (by omega)]; omega
  have e2 : ((name.length - 1 : Nat) : Int) ≤ name.length := by omega
  have x1 : (us name).extract (name.length - 1) name.length = us (name.drop (name.length - 1)) := by rw [us_extract]; simp
  have x2 : (us name).extract 0 (name.length - 1) = us (name.take (name.length - 1)) := by rw [us_extract]; simp
  simp only [W_skip, W_seq, W_set]
  refine ok_intro (.int .i64 ((name.length - 1 : Nat) : Int)) (by simp [e1]) ?_
  try simp only [W_seq, W_draw]
  refine W_chkIn [.slice (some ⟨4, 0, none⟩) 4 4] (by simp) ?_
  try simp only [W_seq]
  have hg5 := hg4.calm ((Kept.refl none' w4).drew)
  refine W_calm (vs := [.slice (some ⟨4, 0, none⟩) 4 4, .string (us (name.drop (name.length - 1)))]) (by simp [e2, x1]) (ret_of_T (sizes_T hg5 (name.drop (name.length - 1)))) ?_
  intro w5 hk5
  have hk5 : Kept none' w4 w5 := (Kept.refl none' w4).drew.trans hk5
  try simp only [W_seq, W_set]
  generalize hlast : name.drop (name.length - 1) = last at *
  refine ok_intro (.int .i64 (ixOf sizeW last)) (by simp) ?_
  have hr5 := hr4.calm hk5
  try simp only [W_seq]
  by_cases h8 : ixOf sizeW last < 0
  · refine W_yes (by simp [h8]) ?_
    rw [if_pos h8]
    obtain ⟨w6, hst6, hr6, hk6⟩ := hr5.mark true
    try simp only [W_seq]
    refine W_store (by simp) (by simp) hst6 (stab_nil _ _ _) ?_
    simp
    exact ⟨.inl ⟨rfl, rfl⟩, hr6, (hk04.trans (kb_calm hk5)).trans hk6⟩
  refine W_no (by simp [h8]) ?_
  rw [if_neg h8]
  obtain ⟨n, hn6⟩ : ∃ n : Nat, ixOf sizeW last = n := ⟨(ixOf sizeW last).toNat, by omega⟩
  obtain ⟨hn7, _⟩ := ixOf_at hn6
  have hn7 : n < 4 := hn7
  rw [hn6, Int.toNat_natCast]
  have e3 : IntKind.u8.wrap (n : Int) = n := u8w (by omega) (by omega)
  simp only [W_skip, W_seq]
  refine W_call0 (vs := [.pointer (some ⟨b, 0, none⟩), .string (us (name.take (name.length - 1))), .int .u8 n]) (by simp [e2, e3, x2]) (memory_ret w5 (hg4.calm hk5) hb hr5 hn hn7) ?_
  rintro v w6 ⟨rfl, hr6, hk6⟩
  generalize memR r (name.take (name.length - 1)) n = q at *
  obtain ⟨x, r6⟩ := q
  simp only at *
  try simp only [W_seq]
  refine W_row' (v := x.val) (cs := x.arr) (by simp; exact setRow_all (by simp)) rfl ?_
  simp
  exact ⟨out_one _, hr6.calm (hal _ _), ((hk04.trans (kb_calm hk5)).trans hk6).trans (kb_calm (hal _ _))⟩
end Go.Proofs.YtpannhipchnhaaaGreatDoor
