/- Layer 23: the first look; texts without an end; texts joined. -/
import Derived.Test.YtpannhipchnhaaaGreatDoorAs6
set_option linter.unusedSimpArgs false
set_option linter.unusedVariables false
set_option maxRecDepth 8000
namespace Go.Proofs.YtpannhipchnhaaaGreatDoor
open Go.Eng

/-! The same instructions. -/
theorem eq_ins (a b : Ins) : decide (a = b) = (decide (a.op = b.op) && decide (a.dst = b.dst) && decide (a.src = b.src) && decide (a.off = b.off) && decide (a.imm = b.imm)) := by
  obtain ⟨a1, a2, a3, a4, a5⟩ := a
  obtain ⟨b1, b2, b3, b4, b5⟩ := b
  simp [Bool.and_assoc]
abbrev eqIns : EqD := .cons 0 none .int (.cons 1 none .int (.cons 2 none .int (.cons 3 none .int (.cons 4 none .int .nil))))
@[simp] theorem eqv_ins (w : World) (a b : Ins) : eqv w eqIns (.agg a.arr) (.agg b.arr) = some (decide (a = b)) := by
  have h : ∀ x y : Nat, (((x : Int) == (y : Int)) : Bool) = decide (x = y) := fun x y => by
    by_cases h : x = y
    · subst h; simp
    · rw [decide_eq_false h, beq_eq_false_iff_ne]; omega
  have h' : ∀ x y : Int, ((x == y) : Bool) = decide (x = y) := fun x y => by
    by_cases h : x = y
    · subst h; simp
    · rw [decide_eq_false h, beq_eq_false_iff_ne]; exact h
  have e := eqv_cons w 0 none .int (.cons 1 none .int (.cons 2 none .int (.cons 3 none .int (.cons 4 none .int .nil)))) a.arr b.arr _ _ _ _ (by simp) (by simp) (eqv_int w .u8 a.op b.op)
    (eqv_cons w 1 none .int _ a.arr b.arr _ _ _ _ (by simp) (by simp) (eqv_int w .u8 a.dst b.dst)
    (eqv_cons w 2 none .int _ a.arr b.arr _ _ _ _ (by simp) (by simp) (eqv_int w .u8 a.src b.src)
    (eqv_cons w 3 none .int _ a.arr b.arr _ _ _ _ (by simp) (by simp) (eqv_int w .i16 a.off b.off)
    (eqv_cons w 4 none .int .nil a.arr b.arr _ _ _ _ (by simp) (by simp) (eqv_int w .i32 a.imm b.imm) (eqv_nil w a.arr b.arr)))))
  rw [e, eq_ins, h, h, h, h', h']
  simp [Bool.and_assoc]
theorem same_T {w0 : World} {b o c b' o' c' : Nat} {xs : List Ins} (h : CodeAt w0 b o xs) (h' : CodeAt w0 b' o' xs) (hn : xs.length ≤ 1000000) (h0 : 0 < xs.length) :
    T Tryz.prog w0 11 [.slice (some ⟨b, o, none⟩) xs.length c, .slice (some ⟨b', o', none⟩) xs.length c'] = some (.bool true) := by
  refine T_of (by kernel_rfl) Tryz.func11 rfl ok_tipstaffref04_Same (by simp [h.lt h0, h'.lt h0]) (by simp) fun B hB => ?_
  simp [c_tipstaffref04_Same, C_cond_eq]
  refine C_loop (fun env l => l = [] ∧ ∃ i : Nat, i ≤ xs.length ∧ env = [.slice (some ⟨b, o, none⟩) xs.length c, .slice (some ⟨b', o', none⟩) xs.length c', undef, .int .i64 i]) (fun env _ => xs.length - natAt env 3) ?_ ?_
  · exact ⟨rfl, 0, by omega, by simp⟩
  rintro env l ⟨rfl, i, hi, rfl⟩
  by_cases hgo : i < xs.length
  · have hgo' : (i : Int) < xs.length := by omega
    have hgi : xs[i]? = some xs[i] := List.getElem?_eq_getElem hgo
    have hx := fun l => own_extR (l := l) hB (h i _ hgi)
    have hx' := fun l => own_extR (l := l) hB (h' i _ hgi)
    have e1 : IntKind.i64.wrap ((i : Int) + 1) = ((i + 1 : Nat) : Int) := i64w (by omega) (by omega)
    generalize xs[i] = x at *
    have he := eqv_ins (ownW B []) x x
    simp only [decide_true] at he
    simp [C_cond_eq, hgo', hgo, hx, hx', he]
    refine ⟨⟨i + 1, by omega, e1⟩, ?_⟩
    simp [natAt, e1]; omega
  · have hgo' : ¬ (i : Int) < xs.length := by omega
    simp [C_cond_eq, hgo']

/-! The first look. -/
def movI (n : Int) : Ins := ⟨183, 0, 0, 0, n⟩
theorem mov_line : lineW (movI 7) Ins.zero = [[109, 111, 118], [114, 48], [55]] := by
  have hp : partsOf (movI 7).op = ⟨1, 11, 0, true, false⟩ := rfl
  have h0 : Lib.decDigits 0 = [48] := by rw [dec_eq]; rfl
  have h7 : Lib.itoa (7 : Int) = [55] := by rw [show (7 : Int) = ((7 : Nat) : Int) from rfl, itoa_nat, dec_eq]; rfl
  unfold lineW lineP
  rw [hp]
  simp [secW, shortW, regW, movI, h0, h7, aluW]
theorem exit_line (y : Ins) : lineW exitI y = [[101, 120, 105, 116]] := by
  have hp : partsOf exitI.op = ⟨5, 0, 0, false, false⟩ := rfl
  unfold lineW lineP
  rw [hp]
  simp
theorem kind_mov : kindOf (movI 7) = 1 := by decide +kernel
theorem exit_text : textL [exitI] = [101, 120, 105, 116, 10] := by
  rw [textL_cons, if_neg (by rw [kind_exit]; decide)]
  unfold lineT
  rw [exit_line]
  simp [joinS, textL]
theorem look_text : textL [movI 7, exitI] = [109, 111, 118, 32, 114, 48, 32, 55, 10, 101, 120, 105, 116, 10] := by
  rw [textL_cons, if_neg (by rw [kind_mov]; decide), exit_text]
  have : nextOf (movI 7) [exitI] = Ins.zero := by unfold nextOf; rw [if_neg (by rw [kind_mov]; decide)]
  rw [this]
  unfold lineT
  rw [mov_line]
  simp [joinS]
theorem look_shape : shapeOk [movI 7, exitI] = true := by decide +kernel
theorem look_wf : AllWf [movI 7, exitI] := by
  intro y hy
  simp at hy
  rcases hy with rfl | rfl
  · exact ⟨by decide, by decide, by decide, ⟨by decide, by decide⟩, ⟨by decide, by decide⟩⟩
  · exact exit_wf
theorem row_code {w : World} {v : Value} {l : List Ins} (h : InsRow w v l) (h0 : 0 < l.length) : ∃ g c, v = .slice (some ⟨g, 0, none⟩) l.length c ∧ l.length ≤ c ∧ CodeAt w g 0 l := by
  obtain ⟨g, c, h1, h2, _, h3⟩ := InsRow.code h h0
  exact ⟨g, c, h1, h2, h3⟩
set_option maxHeartbeats 4000000 in
theorem words_ret (w : World) (hg : GlobA w) : Ret Tryz.prog 10 [] w fun v w' => v = .bool true ∧ Kept none' w w' := by
  refine ret_of_W Tryz.func10 rfl ok_tipstafflaw23_words ?_
  simp only [c_tipstafflaw23_words, W_seq, W_set]
  refine ok_intro (.bool false) (by simp) ?_
  try simp only [W_seq]
  refine W_chkIn [exitI.val, (movI 7).val] (by simp; exact ⟨rfl, rfl⟩) ?_
  try simp only [W_seq]
  refine W_row' (v := .agg (insCells [movI 7, exitI]).toArray) (cs := (insCells [movI 7, exitI]).toArray) (by simp; exact ⟨by rw [Go.Eng.setRow_size]; decide, rfl⟩) rfl ?_
  have hcode : CodeAt (w.alloc (.cells (insCells [movI 7, exitI]).toArray 39)) w.heap.size 0 [movI 7, exitI] := code_list (hp_new w _)
  have hk1 : Kept none' w (w.alloc (.cells (insCells [movI 7, exitI]).toArray 39)) := (Kept.refl _ _).alloc _
  generalize w.alloc (.cells (insCells [movI 7, exitI]).toArray 39) = w1 at hcode hk1
  generalize w.heap.size = q at hcode
  have ht := text_T (c := 2) (hg.calm hk1) hcode look_wf (by simp) (by simp) (by simp)
  rw [if_pos look_shape] at ht
  have hpt := parse_text look_shape look_wf
  have htl : (textL [movI 7, exitI]).length ≤ 400000 := by rw [look_text]; decide
  simp only [W_set]
  refine ok_intro (.slice (some ⟨q, 0, none⟩) 2 2) (by simp) ?_
  try simp only [W_seq]
  refine W_calm (by simp) (ret_of_T ht) ?_
  intro w2 hk2
  have hk02 := hk1.trans hk2
  try simp only [W_seq]
  refine W_chkIn [.int .i64 0] (by simp) ?_
  simp only [W_seq, W_set]
  refine ok_intro (.string (us (textL [movI 7, exitI]))) (by simp) ?_
  refine ok_intro (.int .i64 0) (by simp) ?_
  try simp only [W_seq]
  refine W_calmP (by simp) (parse_ret (t := textL [movI 7, exitI]) w2 (hg.calm hk02) htl) ?_
  rw [hpt]
  rintro v w3 hk3 ⟨lv, rfl, hrow, _⟩
  obtain ⟨g, c, rfl, hc, hcd⟩ := row_code hrow (by simp)
  have hk03 := hk02.trans hk3
  have hs := same_T (c := c) (c' := 2) hcd ((hcode.calm hk2).calm hk3) (by simp) (by simp)
  simp only at hs
  have q1 : strBin .eql (us (textL [movI 7, exitI])) ⟨#[109, 111, 118, 32, 114, 48, 32, 55, 10, 101, 120, 105, 116, 10]⟩ = some (.bool true) := by
    rw [look_text]
    exact (us_eql _ [109, 111, 118, 32, 114, 48, 32, 55, 10, 101, 120, 105, 116, 10]).trans (by rw [decide_eq_true rfl])
  generalize textL [movI 7, exitI] = t at *
  simp [q1]
  refine W_yes (by simp [q1]) ?_
  refine W_calm (by simp) (ret_of_T hs) ?_
  intro w4 hk4
  simp [q1]
  exact hk03.trans hk4
theorem words_T {w0 : World} (hg : GlobA w0) : T Tryz.prog w0 10 [] = some (.bool true) :=
  T_of_ret (by kernel_rfl) (by simp) (by simp) fun w hk => words_ret w (hg.calm hk)
end Go.Proofs.YtpannhipchnhaaaGreatDoor
namespace Go.Proofs.YtpannhipchnhaaaGreatDoor
open Go.Eng

/-! Texts of exits. -/
def exN : Nat → Str
  | 0 => []
  | n + 1 => [101, 120, 105, 116, 10] ++ exN n
theorem exN_snoc (n : Nat) : exN n ++ [101, 120, 105, 116, 10] = exN (n + 1) := by
  induction n with
  | zero => rfl
  | succ n ih => rw [exN, List.append_assoc, ih]; rfl
theorem exN_len (n : Nat) : (exN n).length = n * 5 := by
  induction n with
  | zero => rfl
  | succ n ih => rw [exN, List.length_append, ih]; simp; omega
theorem exit_read : readR [101, 120, 105, 116] = ([exitI], true) := by
  have h := line_read (x := exitI) (r := []) (one_wf exit_wf) (by decide +kernel) (by rw [kind_exit]; decide)
  rw [exit_line, if_neg (by rw [kind_exit]; decide)] at h
  exact h
theorem parse_exits (tail : Str) : ∀ (n f k : Nat) (out : List Ins), parseF (f + n) (exN n ++ tail) k out = parseF f tail (k + n) (out ++ List.replicate n exitI)
  | 0, f, k, out => by simp [exN]
  | n + 1, f, k, out => by
    have hcut : cutL ([101, 120, 105, 116] ++ 10 :: (exN n ++ tail)) = ([101, 120, 105, 116], exN n ++ tail, true) := cutL_nl (by decide) _
    have he : exN (n + 1) ++ tail = [101, 120, 105, 116] ++ 10 :: (exN n ++ tail) := by rw [exN]; simp
    rw [he, show f + (n + 1) = (f + n) + 1 from by omega, parseF, if_neg (by simp), hcut]
    simp only
    rw [exit_read]
    simp only [Bool.true_eq_false, or_self, if_false]
    rw [parse_exits tail n f (k + 1) (out ++ [exitI]), List.append_assoc, show k + 1 + n = k + (n + 1) from by omega]
    rfl
theorem parse_all (n : Nat) : parseR (exN n) = (if 256 < n then ([], 0, 7) else (List.replicate n exitI, 0, 0)) := by
  have h := parse_exits [] n ((exN n).length + 1 - n) 1 []
  have hl := exN_len n
  rw [List.append_nil, show (exN n).length + 1 - n + n = (exN n).length + 1 from by omega] at h
  obtain ⟨f, hf⟩ : ∃ f, (exN n).length + 1 - n = f + 1 := ⟨(exN n).length - n, by omega⟩
  unfold parseR
  rw [h, hf, parseF, if_pos rfl]
  simp
theorem parse_cut (n : Nat) : parseR (exN n ++ [101, 120, 105, 116]) = ([], n + 1, 22) := by
  have h := parse_exits [101, 120, 105, 116] n (4 * n + 5) 1 []
  have hl := exN_len n
  have hl2 : (exN n ++ [101, 120, 105, 116]).length + 1 = 4 * n + 5 + n := by rw [List.length_append, hl]; simp; omega
  unfold parseR
  rw [hl2, h]
  rw [show 4 * n + 5 = (4 * n + 4) + 1 from rfl, parseF, if_neg (by simp)]
  have hc : (cutL [101, 120, 105, 116]).2.2 = false := by decide
  rw [if_pos (Or.inl hc), Nat.add_comm]
set_option maxHeartbeats 4000000 in
theorem ends_ret (n : Int) (cut : Bool) (w : World) (hg : GlobA w) (hn : -9223372036854775808 ≤ n ∧ n ≤ 9223372036854775807) :
    Ret Tryz.prog 4 [.int .i64 n, .bool cut] w fun v w' => v = .bool true ∧ Kept none' w w' := by
  refine ret_of_W Tryz.func4 rfl ok_tipstafflaw23_AsmEnds ?_
  obtain ⟨k, hk, hk12⟩ : ∃ k : Nat, IntKind.i64.wrap (250 + IntKind.i64.wrap ((IntKind.u64.wrap n).tmod 12)) = k ∧ 250 ≤ k ∧ k < 262 := by
    have h1 : IntKind.u64.wrap n = n % 18446744073709551616 := by rw [IntKind.wrap_u64]
    have h2 : (IntKind.u64.wrap n).tmod 12 = (n % 18446744073709551616) % 12 := by
      rw [h1, Int.tmod_eq_emod_of_nonneg (by omega)]
    rw [h2]
    rw [i64w (n := (n % 18446744073709551616) % 12) (by omega) (by omega), i64w (by omega) (by omega)]
    exact ⟨(250 + (n % 18446744073709551616) % 12).toNat, by omega, by omega⟩
  have e12 : IntKind.u64.wrap 12 = 12 := by decide +kernel
  simp only [c_tipstafflaw23_AsmEnds, W_seq, W_set]
  refine ok_intro (.bool false) (by simp) ?_
  try simp only [W_seq, W_set]
  refine ok_intro (.int .i64 k) (by simp [hk]) ?_
  try simp only [W_seq, W_set]
  refine ok_intro (.string ⟨#[]⟩) (by simp) ?_
  try simp only [W_seq, W_set]
  refine ok_intro (.int .i64 0) (by simp) ?_
  try simp only [W_seq, W_block]
  refine W_loop (fun env w' => w' = w ∧ ∃ i : Nat, env = [undef, .bool cut, undef, .int .i64 k, .string (us (exN i)), .int .i64 i, undef, undef, undef, undef, undef] ∧ i ≤ k) (fun env _ => k - natAt env 5) ?_ ?_
  · exact ⟨rfl, 0, by simp; rfl, by omega⟩
  rintro env w1 ⟨rfl, i, rfl, hi⟩
  have hli := exN_len i
  by_cases hgo : i < k
  · have hgo' : (i : Int) < k := by omega
    have e1 : IntKind.i64.wrap ((i : Int) + 1) = ((i + 1 : Nat) : Int) := i64w (by omega) (by omega)
    have hcat : strBin .add (us (exN i)) ⟨#[101, 120, 105, 116, 10]⟩ = some (.string (us (exN (i + 1)))) := (us_cat _ [101, 120, 105, 116, 10] (by simp; omega)).trans (by rw [exN_snoc])
    simp only [W_seq]
    refine W_yes (by simp [hgo']) ?_
    simp [hcat, e1, -Int.natCast_add]
    exact ⟨⟨i + 1, ⟨rfl, rfl⟩, by omega⟩, by simp [natAt]; omega⟩
  have hik : i = k := by omega
  subst hik
  simp only [W_seq]
  refine W_no (by simp) ?_
  simp only [W_exit, Wx_exit_c, Wx_exit_post, Wx_exit_blk, if_true, W_seq]
  obtain ⟨m, rfl⟩ : ∃ m, i = m + 1 := ⟨i - 1, by omega⟩
  have hwd := words_T (w0 := w1) hg
  cases cut with
  | false =>
    refine W_no (by simp) ?_
    simp only [W_skip, W_seq]
    refine W_calmP (by simp) (parse_ret (t := exN (m + 1)) w1 hg (by omega)) ?_
    rw [parse_all]
    rintro v w2 hk2 ⟨lv, rfl, hrow, _⟩
    have hlen := rowLen hrow
    have hvar := rowVar hrow
    try simp only [W_seq]
    by_cases h256 : 256 < m + 1
    · rw [if_pos h256] at hrow hlen ⊢
      have hb : (256 : Int) < ((m + 1 : Nat) : Int) := by omega
      simp [hvar]
      refine W_calm (by simp) (ret_of_T (words_T (hg.calm hk2))) ?_
      intro w3 hk3
      simp
      refine W_no (by simp) ?_
      simp only [W_skip, W_seq]
      refine W_no (by simp) ?_
      simp only [W_skip, W_seq]
      refine W_yes (by simp; omega) ?_
      simp [hlen, hvar]
      exact hk2.trans hk3
    · rw [if_neg h256] at hrow hlen ⊢
      have hb : ¬ (256 : Int) < ((m + 1 : Nat) : Int) := by omega
      simp [hvar]
      refine W_calm (by simp) (ret_of_T (words_T (hg.calm hk2))) ?_
      intro w3 hk3
      simp
      refine W_no (by simp) ?_
      simp only [W_skip, W_seq]
      refine W_no (by simp) ?_
      simp only [W_skip, W_seq]
      refine W_no (by simp; omega) ?_
      simp [hlen, hvar]
      exact hk2.trans hk3
  | true =>
    refine W_yes (by simp) ?_
    have e1 : IntKind.i64.wrap (((exN (m + 1)).length : Int) - 1) = (((exN (m + 1)).length - 1 : Nat) : Int) := by rw [i64w (by omega) (by omega)]; omega
    have e2 : (((exN (m + 1)).length - 1 : Nat) : Int) ≤ (exN (m + 1)).length := by omega
    have x1 : (us (exN (m + 1))).extract 0 ((exN (m + 1)).length - 1) = us (exN m ++ [101, 120, 105, 116]) := by
      rw [us_extract, List.drop_zero, ← exN_snoc]
      congr 1
      rw [List.length_append]
      simp only [List.length_cons, List.length_nil]
      rw [show (exN m).length + (0 + 1 + 1 + 1 + 1 + 1) - 1 = (exN m).length + 4 from by omega, List.take_append]
      rw [List.take_of_length_le (by omega), show (exN m).length + 4 - (exN m).length = 4 from by omega]
      rfl
    have hlm := exN_len m
    simp only [W_set]
    refine ok_intro (.string (us (exN m ++ [101, 120, 105, 116]))) (by simp [e1, e2, x1]) ?_
    try simp only [W_seq]
    refine W_calmP (by simp) (parse_ret (t := exN m ++ [101, 120, 105, 116]) w1 hg (by simp; omega)) ?_
    rw [parse_cut]
    rintro v w2 hk2 ⟨lv, rfl, hrow, _⟩
    have hlen := rowLen hrow
    have hvar := rowVar hrow
    try simp only [W_seq]
    simp [hvar]
    refine W_calm (by simp) (ret_of_T (words_T (hg.calm hk2))) ?_
    intro w3 hk3
    simp
    refine W_no (by simp) ?_
    simp only [W_skip, W_seq]
    refine W_yes (by simp) ?_
    simp [hlen, hvar]
    exact hk2.trans hk3
end Go.Proofs.YtpannhipchnhaaaGreatDoor
namespace Go.Proofs.YtpannhipchnhaaaGreatDoor
open Go.Eng

theorem append_none {P : Program} {t ty e : TypeId} (ht : P.underlying t = some (.slice e)) (hi' : (P.info? e).isSome = true) (a : Addr) (n c : Nat) (hn : n ≤ c) (w : World) :
    (builtin .append #[t, t] ty #[] #[.slice (some a) n c, .slice none 0 0]).run P w = .ok (.value (.slice (some a) n c)) w := by
  obtain ⟨i, hi⟩ := Option.isSome_iff_exists.1 hi'
  simp [builtin, Builtin.append_, run_underlying ht, sizeOf, typeInfo, hi, Builtin.lenOf, hn, Builtin.firstCells, loadCells, loadCellsFrom]
  rfl

theorem inShape_none (w0 : World) (a : Option Addr) (c : Nat) (ha : Ext w0.heap.size (.slice a 0 c)) : T Tryz.prog w0 21 [.slice a 0 c] = some (.bool false) := by
  refine T_of (by kernel_rfl) Tryz.func21 rfl ok_asm_inShape (by simpa using ha) (by simp) fun B hB => ?_
  simp [c_asm_inShape, C_cond_eq]
theorem text_none (w0 : World) (a : Option Addr) (c : Nat) (ha : Ext w0.heap.size (.slice a 0 c)) : T Tryz.prog w0 12 [.slice a 0 c] = some (.tuple #[.string (us []), .int .i64 22]) :=
  T_of_ret (by kernel_rfl) (by simpa using ha) (by simp) fun w hk => by
    refine ret_of_W Tryz.func12 rfl ok_asm_Text ?_
    simp only [c_asm_Text, W_seq, W_set]
    refine ok_intro (.string ⟨#[]⟩) (by simp) ?_
    refine ok_intro (.int .i64 0) (by simp) ?_
    try simp only [W_seq]
    refine W_calm (by simp) (ret_of_T (inShape_none w a c (ha.mono hk.size))) ?_
    intro w1 hk1
    try simp only [W_seq]
    refine W_yes (by simp) ?_
    simp [nil_us]
    exact hk1
/-- A slice of instructions as it comes in. -/
def SlIs (w : World) (v : Value) (xs : List Ins) : Prop := (xs = [] ∧ v = .slice none 0 0) ∨ ∃ b o c, v = .slice (some ⟨b, o, none⟩) xs.length c ∧ xs.length ≤ c ∧ CodeAt w b o xs ∧ b < w.heap.size
theorem SlIs.calm {w w' : World} {v : Value} {xs : List Ins} (h : SlIs w v xs) (hk : Kept none' w w') : SlIs w' v xs := by
  rcases h with h | ⟨b, o, c, h1, h2, h3, h4⟩
  · exact .inl h
  · exact .inr ⟨b, o, c, h1, h2, h3.calm hk, Nat.lt_of_lt_of_le h4 hk.size⟩
theorem SlIs.text {w : World} (hg : GlobA w) {v : Value} {xs : List Ins} (h : SlIs w v xs) (hw : AllWf xs) (hn : xs.length ≤ 1000000) :
    T Tryz.prog w 12 [v] = some (if shapeOk xs = true then .tuple #[.string (us (textL xs)), .int .i64 0] else .tuple #[.string (us []), .int .i64 22]) := by
  rcases h with ⟨rfl, rfl⟩ | ⟨b, o, c, rfl, h2, h3, h4⟩
  · rw [if_neg (by decide)]
    exact text_none w none 0 (by simp)
  · cases xs with
    | nil =>
      rw [if_neg (by decide)]
      exact text_none w _ _ (by simpa using h4)
    | cons x r => exact text_T hg h3 hw hn h2 (by simp)
theorem SlIs.take {w : World} {v : Value} {xs : List Ins} (h : SlIs w v xs) (n : Nat) : ∃ v', slSlV 5 v (.int .i64 0) (.int .i64 ((min xs.length n : Nat) : Int)) = some v' ∧ SlIs w v' (xs.take n) ∧ lenV false v = some (.int .i64 xs.length) ∧ varV v = some v ∧ varV v' = some v' ∧ lenV false v' = some (.int .i64 (xs.take n).length) := by
  rcases h with ⟨rfl, rfl⟩ | ⟨b, o, c, rfl, h2, h3, h4⟩
  · exact ⟨.slice none 0 0, by simp, .inl ⟨by simp, rfl⟩, rfl, rfl, rfl, by simp⟩
  · have h5 : ((min xs.length n : Nat) : Int) ≤ c := by omega
    refine ⟨.slice (some ⟨b, o, none⟩) (xs.take n).length c, ?_, .inr ⟨b, o, c, rfl, by rw [List.length_take]; omega, h3.take n, h4⟩, rfl, rfl, rfl, rfl⟩
    rw [List.length_take, Nat.min_comm]
    rw [Nat.min_comm] at h5
    simp [h5]
theorem SlIs.append {w : World} {v ov : Value} {out xs : List Ins} (h : SlIs w v xs) (hrow : InsRow w ov out) (hs : out.length + xs.length ≤ 1000000) :
    ∃ v' w', (builtin .append #[23, 23] 23 #[] #[ov, v]).run Tryz.prog w = .ok (.value v') w' ∧ InsRow w' v' (out ++ xs) ∧ Kept (fun j => ov.ownBlock = some j) w w' ∧ (v'.ownBlock = ov.ownBlock ∨ v'.ownBlock = some w.heap.size) := by
  rcases h with ⟨rfl, rfl⟩ | ⟨b, o, c, rfl, h2, h3, h4⟩
  · refine ⟨ov, w, ?_, by simpa using hrow, Kept.refl _ _, .inl rfl⟩
    rcases hrow.2 with ⟨rfl, _⟩ | ⟨g, cap, cur, rfl, _, _, hc, _⟩
    · obtain ⟨i, hi⟩ : ∃ i, Tryz.prog.info? 39 = some i := Option.isSome_iff_exists.1 (by kernel_rfl)
      simp [builtin, Builtin.append_, run_underlying Tryz.underlying23, sizeOf, typeInfo, hi, Builtin.lenOf, Builtin.firstCells, loadCells, loadCellsFrom]
    · exact append_none Tryz.underlying23 (by kernel_rfl) _ _ _ hc w
  · exact ins_append hrow hs h3
set_option maxHeartbeats 400000 in
theorem joins_ret {a b : Value} {xs ys : List Ins} (w : World) (hg : GlobA w) (ha : SlIs w a xs) (hb : SlIs w b ys) (hxw : AllWf xs) (hyw : AllWf ys) :
    Ret Tryz.prog 5 [a, b] w fun v w' => v = .bool true ∧ Kept none' w w' := by
  refine ret_of_W Tryz.func5 rfl ok_tipstafflaw23_AsmJoins ?_
  obtain ⟨a', ha1, ha2, ha3, ha4, ha5, ha6⟩ := ha.take 40
  obtain ⟨b', hb1, hb2, hb3, hb4, hb5, hb6⟩ := hb.take 40
  have hm1 : (if (40 : Int) < (xs.length : Int) then (40 : Int) else (xs.length : Int)) = ((min xs.length 40 : Nat) : Int) := by split <;> omega
  have hm2 : (if (40 : Int) < (ys.length : Int) then (40 : Int) else (ys.length : Int)) = ((min ys.length 40 : Nat) : Int) := by split <;> omega
  have hx40 : (xs.take 40).length ≤ 40 := by rw [List.length_take]; omega
  have hy40 : (ys.take 40).length ≤ 40 := by rw [List.length_take]; omega
  have hxw : AllWf (xs.take 40) := fun y hy => hxw y (List.mem_of_mem_take hy)
  have hyw : AllWf (ys.take 40) := fun y hy => hyw y (List.mem_of_mem_take hy)
  simp only [c_tipstafflaw23_AsmJoins, W_seq, W_set]
  refine ok_intro (.bool false) (by simp) ?_
  try simp only [W_seq, W_draw]
  refine W_chkIn [b'] (by simp [hb4, hb3, hm2, hb1]) ?_
  try simp only [W_seq, W_set]
  refine ok_intro a' (by simp [ha4, ha3, hm1, ha1]) ?_
  refine ok_intro b' (by simp [hb4, hb3, hm2, hb1]) ?_
  generalize xs.take 40 = xs at *
  generalize ys.take 40 = ys at *
  have hk0 : Kept none' w w.drew := (Kept.refl none' w).drew
  have ta := SlIs.text (hg.calm hk0) (ha2.calm hk0) hxw (by omega)
  try simp only [W_seq]
  refine W_calm (by simp [ha5]) (ret_of_T ta) ?_
  intro w1 hk1
  have hk01 := hk0.trans hk1
  have hg1 := hg.calm hk01
  have tb := SlIs.text hg1 (hb2.calm hk01) hyw (by omega)
  -- a text that isn't told: nothing more is asked
  have early : ∀ (w2 : World) (e5 e8 : Int) (t4 t7 x3 x6 : Value), Kept none' w w2 → (e5 ≠ 0 ∨ e8 ≠ 0) → True := fun _ _ _ _ _ _ _ _ _ => trivial
  have hwd := fun w2 (hk : Kept none' w w2) => words_T (hg.calm hk)
  by_cases hok : shapeOk xs = true ∧ shapeOk ys = true
  · obtain ⟨hsa, hsb⟩ := hok
    rw [if_pos hsa]
    rw [if_pos hsb] at tb
    try simp only [W_seq]
    refine W_chkIn [.int .i64 0] (by simp) ?_
    try simp only [W_seq, W_set]
    refine ok_intro (.string (us (textL xs))) (by simp) ?_
    refine ok_intro (.int .i64 0) (by simp) ?_
    try simp only [W_seq]
    refine W_calm (by simp [hb5]) (ret_of_T tb) ?_
    intro w2 hk2
    have hk02 := hk01.trans hk2
    try simp only [W_seq]
    refine W_chkIn [.int .i64 0] (by simp) ?_
    try simp only [W_seq, W_set]
    refine ok_intro (.string (us (textL ys))) (by simp) ?_
    refine ok_intro (.int .i64 0) (by simp) ?_
    try simp only [W_seq]
    refine W_calm (by simp) (ret_of_T (hwd w2 hk02)) ?_
    intro w3 hk3
    have hk03 := hk02.trans hk3
    try simp only [W_seq]
    refine W_no (by simp) ?_
    have hga := good_of_shape hsa
    have hgb := good_of_shape hsb
    have hlx := ((shapeOk_iff xs).1 hsa).1
    have hly := ((shapeOk_iff ys).1 hsb).1
    have hwf : AllWf (xs ++ ys) := fun y hy => (List.mem_append.1 hy).elim (hxw y) (hyw y)
    have hsh : shapeOk (xs ++ ys) = true := shape_of_good (hga.append hgb) (by simp; omega) (by simp; omega)
    have htx : textL (xs ++ ys) = textL xs ++ textL ys := textL_append hga
    have hpt := parse_text hsh hwf
    have hlen := textL_len (xs ++ ys) hwf
    have hlen2 : (xs ++ ys).length ≤ 80 := by simp; omega
    have hlen3 : (textL (xs ++ ys)).length ≤ 10000 := by omega
    have hl1 := textL_len xs hxw
    have hl2 := textL_len ys hyw
    have hcat : strBin .add (us (textL xs)) (us (textL ys)) = some (.string (us (textL (xs ++ ys)))) := by
      rw [htx]
      exact us_cat _ _ (by omega)
    simp only [W_skip, W_seq]
    refine W_calmP (by simp [hcat]) (parse_ret (t := textL (xs ++ ys)) w3 (hg.calm hk03) (by omega)) ?_
    rw [hpt]
    rintro v w4 hk4 ⟨lv, rfl, hrow, _⟩
    have hlv := rowLen hrow
    have hvv := rowVar hrow
    have hk04 := hk03.trans hk4
    simp [hvv, -W_row]
    refine W_row' (cs := #[]) (by simp; rfl) rfl ?_
    have hkn : Kept none' w4 (w4.alloc (.cells #[] 39)) := (Kept.refl _ _).alloc _
    have hr : InsRow (w4.alloc (.cells #[] 39)) (.slice (some ⟨w4.heap.size, 0, none⟩) 0 0) [] := ⟨by simp [insCells], .inr ⟨w4.heap.size, 0, #[], rfl, by omega, hp_new w4 _, by simp, by unfold maxLen; omega, by simp, by simp [insCells]⟩⟩
    obtain ⟨v1, w5, hrun5, hrow5, hk5, hat5⟩ := ((ha2.calm hk04).calm hkn).append hr (by simp; omega)
    have hk05 : Kept none' w w5 := (hk04.trans hkn).then hk5 fun i hi h => by
      simp [Value.ownBlock] at h
      have := hk04.size
      omega
    have hv1 := rowVar hrow5
    simp only [W_seq]
    refine W_bi (by simp [ha5]) hrun5 (stab_nil _ _ _) ?_
    have hown5 : ∀ j, v1.ownBlock = some j → w.heap.size ≤ j := by
      intro j hj
      have h1 := hk04.size
      have h2 : w4.heap.size ≤ (w4.alloc (.cells #[] 39)).heap.size := by simp
      rcases hat5 with h | h <;> rw [h] at hj
      · simp [Value.ownBlock] at hj; omega
      · simp at hj; omega
    rw [List.nil_append] at hrow5
    obtain ⟨v2, w6, hrun6, hrow6, hk6, hat6⟩ := (hb2.calm hk05).append hrow5 (by omega)
    have hk06 : Kept none' w w6 := hk05.then hk6 fun i hi h => by have := hown5 i h; omega
    have hv2 := rowVar hrow6
    obtain ⟨g, c, hv2e, hc, hcode⟩ := row_code hrow6 (by simp; omega)
    have tj := text_T (c := c) (hg.calm hk06) hcode hwf (by omega) hc (by simp; omega)
    rw [← hv2e, if_pos hsh] at tj
    have heq := us_eql (textL (xs ++ ys)) (textL (xs ++ ys))
    have hadd : IntKind.i64.wrap ((xs.length : Int) + (ys.length : Int)) = ((xs.length : Int) + (ys.length : Int)) := i64w (by omega) (by omega)
    have hlv' : lenV false lv = some (.int .i64 ((xs.length : Int) + (ys.length : Int))) := by simpa using hlv
    clear hv2e hrun5 hrow5 hr hcode hat5 hat6
    simp
    refine W_bi (vs := [v1, b']) (by simp [hb5, hv1]) hrun6 (stab_nil _ _ _) ?_
    clear hrun6
    generalize textL (xs ++ ys) = txy at *
    simp
    refine W_calm (vs := [v2]) (by simp [hv2]) (ret_of_T tj) ?_
    intro w7 hk7
    simp [hcat, heq, hlv', hvv, ha5, ha6, hb5, hb6, hadd]
    exact hk06.trans hk7
  · have fx : ∀ zs : List Ins, ∃ (t : Str) (e : Int), (if shapeOk zs = true then Value.tuple #[.string (us (textL zs)), .int .i64 0] else .tuple #[.string (us []), .int .i64 22]) = .tuple #[.string (us t), .int .i64 e] ∧ (e = 0 ↔ shapeOk zs = true) := by
      intro zs
      cases h : shapeOk zs
      · exact ⟨[], 22, rfl, by decide⟩
      · exact ⟨textL zs, 0, rfl, by simp⟩
    obtain ⟨t4, e5, hx1, hx2⟩ := fx xs
    obtain ⟨t7, e8, hy1, hy2⟩ := fx ys
    rw [hx1]
    rw [hy1] at tb
    have hne : ¬ (e5 = 0 ∧ e8 = 0) := fun h => hok ⟨hx2.1 h.1, hy2.1 h.2⟩
    simp
    refine W_calm (vs := [b']) (by simp [hb5]) (ret_of_T tb) ?_
    intro w2 hk2
    have hk02 := hk01.trans hk2
    simp
    refine W_calm (vs := []) (by simp) (ret_of_T (hwd w2 hk02)) ?_
    intro w3 hk3
    simp
    refine W_yes ?_ ?_
    · by_cases h5 : e5 = 0
      · have h8 : ¬ e8 = 0 := fun h => hne ⟨h5, h⟩
        simp [h5, h8]
      · simp [h5]
    simp
    refine W_calm (vs := []) (by simp) (ret_of_T (hwd w3 (hk02.trans hk3))) ?_
    intro w4 hk4
    simp
    exact (hk02.trans hk3).trans hk4
end Go.Proofs.YtpannhipchnhaaaGreatDoor
