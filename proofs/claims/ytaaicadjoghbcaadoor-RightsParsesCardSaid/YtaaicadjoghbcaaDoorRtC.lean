/- Layer 11, part C: rights as words; the first look. -/
import Derived.Test.YtaaicadjoghbcaaDoorRtB
set_option linter.unusedSimpArgs false
set_option linter.unusedVariables false
set_option maxRecDepth 8000
namespace Go.Proofs.YtaaicadjoghbcaaDoor
open Go.Eng

def Rt.nums (r : Rt) : List Nat := [r.c, r.p, r.m, r.h]
def word (i n : Nat) : List Nat := ([99, 112, 109, 104] : List Nat).getD i 0 :: hexL n
def wordsL (r : Rt) : List (List Nat) := [word 0 r.c, word 1 r.p, word 2 r.m, word 3 r.h] ++ (if r.v then [[112, 114, 105, 118, 105, 108, 101, 103, 101, 100]] else []) ++ (if r.s then [[115, 105, 103, 110, 101, 100]] else [])
def joinL : List (List Nat) → List Nat
  | [] => []
  | x :: r => x ++ (r.map (32 :: ·)).flatten
def textL (r : Rt) : List Nat := joinL (wordsL r)

theorem numbers_ret (r : Rt) (w : World) : Ret Tryd.prog 12 [r.val] w fun v w' => Kept none' w w' ∧ ∃ b, v = .slice (some ⟨b, 0, none⟩) 4 4 ∧ ∀ i : Nat, i < 4 → wcell w' b i = some (.int .u16 (r.nums.getD i 0 : Nat)) := by
  refine ret_of_W Tryd.func12 rfl ok_rights_Rights_numbers ?_
  simp [c_rights_Rights_numbers, -W_row]
  refine W_row' (v := .agg #[.int .u16 r.c, .int .u16 r.p, .int .u16 r.m, .int .u16 r.h]) (cs := #[.int .u16 r.c, .int .u16 r.p, .int .u16 r.m, .int .u16 r.h]) ?_ (by simp) ?_
  · simp
    rfl
  simp
  refine ⟨((Kept.refl none' w).alloc _).alloc _, fun i hi => ?_⟩
  have : i = 0 ∨ i = 1 ∨ i = 2 ∨ i = 3 := by omega
  rcases this with rfl | rfl | rfl | rfl <;> simp [Rt.nums]

theorem joinL_data (l : List (List Nat)) : Lib.join ((l.map bs).map (·.data.toList)) [32] = (joinL l).map UInt8.ofNat := by
  cases l with
  | nil => rfl
  | cons x r =>
    simp only [List.map_cons, Lib.join_cons, joinL, List.map_append, Lib.joinTail, List.map_flatten, List.map_map]
    simp [bs, Function.comp_def]
theorem bs_append (l m : List Nat) : bs l ++ bs m = bs (l ++ m) := by
  refine ByteArray.ext ?_
  rw [ByteArray.data_append]
  simp [bs]

theorem letter_at : ∀ i : Nat, i < 4 → slStrV (.string ⟨#[99, 112, 109, 104]⟩) (.int .i64 (i : Nat)) (.int .i64 ((i + 1 : Nat) : Int)) = some (.string (bs [([99, 112, 109, 104] : List Nat).getD i 0])) := by
  intro i hi
  have : i = 0 ∨ i = 1 ∨ i = 2 ∨ i = 3 := by omega
  rcases this with rfl | rfl | rfl | rfl <;> rfl

def strs (l : List (List Nat)) : List Value := l.map fun m => .string (bs m)
theorem strs_one (l : List (List Nat)) : ∀ y ∈ strs l, y.oneCell' = true := by
  intro y hy
  simp only [strs, List.mem_map] at hy
  obtain ⟨m, _, rfl⟩ := hy
  rfl

theorem push_str {w : World} {v : Value} {l : List (List Nat)} {m : List Nat} {p : Nat} (h : Row 9 1 w v l.length (strs l)) (hs : l.length ≤ 1000) (hp : w.heap[p]? = some (.cells #[.string (bs m)] 9 (0, 0))) :
    ∃ v' w', (builtin .append #[39, 39] 39 #[] #[v, .slice (some ⟨p, 0, none⟩) 1 1]).run Tryd.prog w = .ok (.value v') w' ∧ Row 9 1 w' v' (l ++ [m]).length (strs (l ++ [m])) ∧ Kept (fun j => v.ownBlock = some j) w w' ∧
      (v'.ownBlock = v.ownBlock ∨ v'.ownBlock = some w.heap.size) := by
  have := row_append (P := Tryd.prog) (t := 39) (T := 9) (k := 1) (sb := p) (so := 0) (c := 1) (m := 1) (ys := [.string (bs m)]) Tryd.underlying39 (by kernel_rfl) (by omega) h (by omega) rfl
    (fun j y hj => by
      rw [wcell_of hp]
      cases j with
      | zero => simpa using hj
      | succ j => simp at hj) (fun y hy => by simp at hy; subst hy; rfl)
  simpa [strs] using this

theorem calm_of_below {w w' : World} (h : RowKit.Below w.heap.size w w') : Kept none' w w' := ⟨h.os, h.tape, h.output, h.size, fun k hk _ => h.block k hk⟩
theorem join_ret {v : Value} {l : List (List Nat)} {w : World} (h : Row 9 1 w v l.length (strs l)) (h0 : 0 < l.length) (hn : l.length ≤ 1000) (hl : (joinL l).length ≤ 1000000) :
    Ret Tryd.prog 14 [v, .string ⟨#[32]⟩] w fun v' w' => v' = .string (bs (joinL l)) ∧ Kept none' w w' := by
  have hlt := fun g => rowLt h (g := g)
  obtain ⟨g, cap, rfl, hc, hown, hx⟩ := rowForm h h0
  have hd := joinL_data l
  have hj := Tryd.strings_Join g 0 cap (l.map bs) ⟨#[32]⟩ w (fun j x hj => by
      rw [Nat.zero_add]
      refine wcell_cell (hx j _ ?_)
      rw [List.getElem?_map] at hj
      simp only [strs, List.getElem?_map]
      cases hq : l[j]? with
      | none => rw [hq] at hj; cases hj
      | some m => rw [hq] at hj; simp at hj; subst hj; rfl) (hlt g hown) (by simp; omega) (by simpa using hc) (by
        show (Lib.join ((l.map bs).map (·.data.toList)) [32]).length ≤ _
        rw [hd, List.length_map]; omega)
  rw [List.length_map] at hj
  refine ret_of_calls (hj.mono fun e w' he => ⟨_, he.1, ?_, calm_of_below he.2⟩)
  show Value.string ⟨(Lib.join ((l.map bs).map (·.data.toList)) [32]).toArray⟩ = _
  rw [hd]
  rfl
theorem textL_len (r : Rt) : (textL r).length ≤ 1000 := by
  have h := fun n => hexF_len 16 n
  have h1 := h r.c; have h2 := h r.p; have h3 := h r.m; have h4 := h r.h
  unfold textL wordsL
  cases r.v <;> cases r.s <;> simp [joinL, word, hexL] <;> omega

set_option maxHeartbeats 1000000 in
theorem text_ret (r : Rt) (w : World) (hg : Glob w) (hr : r.wf) : Ret Tryd.prog 5 [r.val] w fun v w' => v = .string (bs (textL r)) ∧ Kept none' w w' := by
  refine ret_of_W Tryd.func5 rfl ok_rights_Text ?_
  simp [c_rights_Text]
  have hp1 := hp_new w (.cells r.arr 27)
  have hk1 : Kept none' w (w.alloc (.cells r.arr 27)) := (Kept.refl _ _).alloc _
  have hs1 : (w.alloc (.cells r.arr 27)).heap.size = w.heap.size + 1 := by simp
  generalize hbx : w.heap.size = bx at hp1 hs1
  generalize w.alloc (.cells r.arr 27) = w1 at hp1 hk1 hs1 ⊢
  refine W_calmP (by simp [wrow_box hp1]) (numbers_ret r w1) ?_
  rintro v w2 hk2 ⟨nb, rfl, hn⟩
  simp
  refine W_loop (fun env w' => Kept none' w w' ∧ Kept none' w2 w' ∧ ∃ (i : Nat) (v : Value) (l : List (List Nat)), env = [undef, undef, .pointer (some ⟨bx, 0, none⟩), v, .slice (some ⟨nb, 0, none⟩) 4 4, .int .i64 i, .int .i64 4, undef, undef, undef, undef, undef, undef, undef, undef, undef, undef] ∧
      i ≤ 4 ∧ l = (List.range i).map (fun j => word j (r.nums.getD j 0)) ∧ Row 9 1 w' v l.length (strs l) ∧ (∀ j, v.ownBlock = some j → w2.heap.size ≤ j)) (fun env _ => 4 - natAt env 5) ?_ ?_
  · exact ⟨hk1.trans hk2, Kept.refl _ _, 0, _, [], by simp, by omega, rfl, row_nil _ _ _, fun j hj => by simp [Value.ownBlock] at hj⟩
  rintro env w3 ⟨hk3, hk23, i, v, l, rfl, hi, hl, hrow, hown⟩
  have hvar := rowVar hrow
  by_cases hgo : i < 4
  · have hni := wcell_calm hk23 (hn i hgo)
    have hnb : r.nums.getD i 0 < 65536 := by
      have : i = 0 ∨ i = 1 ∨ i = 2 ∨ i = 3 := by omega
      rcases this with rfl | rfl | rfl | rfl
      · exact hr.c
      · exact hr.p
      · exact hr.m
      · exact hr.h
    have hletter := letter_at i hgo
    have hll : l.length = i := by rw [hl]; simp
    have hl' : (List.range (i + 1)).map (fun j => word j (r.nums.getD j 0)) = l ++ [word i (r.nums.getD i 0)] := by rw [List.range_succ, List.map_append, ← hl]; rfl
    have hword : word i (r.nums.getD i 0) = [([99, 112, 109, 104] : List Nat).getD i 0] ++ hexL (r.nums.getD i 0) := rfl
    generalize r.nums.getD i 0 = n at hni hnb hl' hword
    generalize ([99, 112, 109, 104] : List Nat).getD i 0 = c at hletter hword
    have e1 : IntKind.i64.wrap ((i : Int) + 1) = ((i + 1 : Nat) : Int) := i64w (by omega) (by omega)
    have e2 : IntKind.u64.wrap (n : Int) = n := u64w (by omega) (by omega)
    have hi4 : (i : Int) < 4 := by omega
    simp
    refine W_yes (by simp; omega) ?_
    simp only [W_skip, W_seq, W_block]
    refine W_chkIn [.int .u16 n] (by simp [hgo, hi4, hni]) ?_
    simp only [W_seq, W_set]
    refine ok_intro (.int .i64 i) (by simp) ?_
    refine ok_intro (.int .u16 n) (by simp [hgo, hi4, hni]) ?_
    simp only [W_draw, W_seq]
    refine W_chkIn [.string (bs [c]), v] ?_ ?_
    · simp [hvar, e1, hletter, -slStrV_string, -Int.natCast_add]
    simp only [W_seq]
    refine W_calm (by simp [e2]) (formatU_ret n w3.drew (hg.calm hk3.drew) (by omega)) ?_
    intro w4 hk4
    simp only [W_seq]
    have hcat : strBin .add (bs [c]) (bs (hexL n)) = some (.string (bs (word i n))) := by
      have hsz : (bs [c]).size + (bs (hexL n)).size ≤ 17 := by
        have := hexF_len 16 n
        simp only [bs_size, List.length_singleton]
        unfold hexL
        omega
      unfold strBin
      rw [if_neg (by show ¬ ((((bs [c]).size + (bs (hexL n)).size : Nat) : Int) > 9223372036854775807); omega), bs_append, ← hword]
    refine W_chkIn [.string (bs (word i n))] ?_ ?_
    · simp [e1, hletter, hcat, -slStrV_string, -Int.natCast_add]
    simp only [W_seq]
    refine W_row' (v := .agg #[.string (bs (word i n))]) (cs := #[.string (bs (word i n))]) ?_ (by simp) ?_
    · simp [e1, hletter, hcat, -slStrV_string, -Int.natCast_add]
    have hk34 : Kept none' w3 w4 := (Kept.refl none' w3).drew.trans hk4
    have hp5 := hp_new w4 (.cells #[.string (bs (word i n))] 9)
    have hk5 : Kept none' w4 (w4.alloc (.cells #[.string (bs (word i n))] 9)) := (Kept.refl _ _).alloc _
    generalize w4.alloc (.cells #[.string (bs (word i n))] 9) = w5 at hp5 hk5 ⊢
    have hrow5 := rowCalm hrow (hk34.trans hk5)
    obtain ⟨v', w6, hrun, hrow6, hk6, hat⟩ := push_str hrow5 (by omega) hp5
    simp only [W_seq]
    refine W_bi (by simp [hvar]) hrun (stab_nil _ _ _) ?_
    have hvar' := rowVar hrow6
    have hs5 := ((hk23.trans hk34).trans hk5).size
    have hk26 : Kept none' w2 w6 := ((hk23.trans hk34).trans hk5).then hk6 fun j hj hb => by have := hown j hb; omega
    have hrow7 : Row 9 1 w6 v' (i + 1) (strs ((List.range (i + 1)).map (fun j => word j (r.nums.getD j 0)))) := by
      rw [hl']
      simpa [hll] using hrow6
    simp [hvar']
    refine ⟨⟨(hk1.trans hk2).trans hk26, hk26, i + 1, v', ⟨rfl, e1⟩, by omega, by simpa using hrow7, fun j hj => ?_⟩, by simp [natAt, e1]; omega⟩
    rcases hat with h | h
    · exact hown j (by rw [← h]; exact hj)
    · rw [hj] at h; simp at h; omega
  · have hi4 : i = 4 := by omega
    subst hi4
    simp
    refine W_no (by simp) ?_
    simp
    have hwl : wordsL r = l ++ (if r.v then [[112, 114, 105, 118, 105, 108, 101, 103, 101, 100]] else []) ++ (if r.s then [[115, 105, 103, 110, 101, 100]] else []) := by rw [hl]; rfl
    have hl4 : l.length = 4 := by rw [hl]; rfl
    have hpb := hk23.has (hk2.has hp1 (fun h => h)) (fun h => h)
    clear hl
    have opt : ∀ (m : List Nat) (w3 : World) (v : Value) (l : List (List Nat)), Kept none' w w3 → Kept none' w2 w3 → Row 9 1 w3 v l.length (strs l) → l.length ≤ 9 → (∀ j, v.ownBlock = some j → w2.heap.size ≤ j) →
        ∃ v' w', (builtin .append #[39, 39] 39 #[] #[v, .slice (some ⟨w3.heap.size, 0, none⟩) 1 1]).run Tryd.prog (w3.alloc (.cells #[.string (bs m)] 9)) = .ok (.value v') w' ∧
          Kept none' w w' ∧ Kept none' w2 w' ∧ Row 9 1 w' v' (l ++ [m]).length (strs (l ++ [m])) ∧ (∀ j, v'.ownBlock = some j → w2.heap.size ≤ j) := by
      intro m w3 v l hk3 hk23 hrow hl9 hown
      have hp5 := hp_new w3 (.cells #[.string (bs m)] 9)
      have hk5 : Kept none' w3 (w3.alloc (.cells #[.string (bs m)] 9)) := (Kept.refl _ _).alloc _
      obtain ⟨v', w6, hrun, hrow6, hk6, hat⟩ := push_str (rowCalm hrow hk5) (by omega) hp5
      have hk26 : Kept none' w2 w6 := (hk23.trans hk5).then hk6 fun j hj hb => by have := hown j hb; omega
      refine ⟨v', w6, hrun, (hk1.trans hk2).trans hk26, hk26, hrow6, fun j hj => ?_⟩
      have hs5 := hk23.size
      rcases hat with h | h
      · exact hown j (by rw [← h]; exact hj)
      · rw [hj] at h; simp at h; omega
    have push2 : ∀ (m : List Nat), (.agg #[.string (bs m)] : Value).cells = #[.string (bs m)] := fun m => rfl
    refine W_cut (fun env w' => Kept none' w w' ∧ Kept none' w2 w' ∧ ∃ (v' y12 y13 : Value) (l' : List (List Nat)), env = [undef, undef, .pointer (some ⟨bx, 0, none⟩), v', .slice (some ⟨nb, 0, none⟩) 4 4, .int .i64 4, .int .i64 4, undef, undef, undef, undef, undef, y12, y13, undef, undef, undef] ∧
      l' = l ++ (if r.v then [[112, 114, 105, 118, 105, 108, 101, 103, 101, 100]] else []) ∧ Row 9 1 w' v' l'.length (strs l') ∧ (∀ j, v'.ownBlock = some j → w2.heap.size ≤ j)) ?_ ?_
    · refine W_cond (t := r.v) (by simp [wcell_of hpb]) ?_ ?_
      · intro hv
        obtain ⟨v', w', hrun, h1, h2, h3, h4⟩ := opt [112, 114, 105, 118, 105, 108, 101, 103, 101, 100] w3 v l hk3 hk23 hrow (by omega) hown
        have hvar' := rowVar h3
        simp only [W_seq]
        refine W_chkIn [v] (by simp [hvar]) ?_
        simp only [W_seq]
        refine W_row' (v := .agg #[.string (bs [112, 114, 105, 118, 105, 108, 101, 103, 101, 100])]) (cs := #[.string (bs [112, 114, 105, 118, 105, 108, 101, 103, 101, 100])]) (by simp; rfl) (by simp) ?_
        simp only [W_seq]
        refine W_bi (by simp [hvar]) hrun (stab_nil _ _ _) ?_
        simp [hvar', hv]
        exact ⟨h1, h2, by simpa using h3, h4⟩
      · intro hv
        simp [hv]
        exact ⟨hk3, hk23, hrow, hown⟩
    rintro env w4 ⟨hk4, hk24, v', y12, y13, l', rfl, hl', hrow', hown'⟩
    have hl5 : l'.length ≤ 5 := by rw [hl']; cases r.v <;> simp [hl4]
    have hpb4 := hk24.has (hk2.has hp1 (fun h => h)) (fun h => h)
    have hvar1 := rowVar hrow'
    simp only [W_seq]
    refine W_cut (fun env w' => Kept none' w w' ∧ ∃ (v' y12 y13 y14 y15 : Value) (l' : List (List Nat)), env = [undef, undef, .pointer (some ⟨bx, 0, none⟩), v', .slice (some ⟨nb, 0, none⟩) 4 4, .int .i64 4, .int .i64 4, undef, undef, undef, undef, undef, y12, y13, y14, y15, undef] ∧
      l' = wordsL r ∧ Row 9 1 w' v' l'.length (strs l')) ?_ ?_
    · refine W_cond (t := r.s) (by simp [wcell_of hpb4]) ?_ ?_
      · intro hv
        obtain ⟨v', w', hrun, h1, h2, h3, h4⟩ := opt [115, 105, 103, 110, 101, 100] w4 v' l' hk4 hk24 hrow' (by omega) hown'
        have hvar' := rowVar h3
        simp only [W_seq]
        refine W_chkIn [_] (by simp [hvar1]; rfl) ?_
        simp only [W_seq]
        refine W_row' (v := .agg #[.string (bs [115, 105, 103, 110, 101, 100])]) (cs := #[.string (bs [115, 105, 103, 110, 101, 100])]) (by simp; rfl) (by simp) ?_
        simp only [W_seq]
        refine W_bi (by simp [hvar1]) hrun (stab_nil _ _ _) ?_
        rw [hwl, hv, if_pos rfl, ← hl']
        simp [hvar']
        exact ⟨h1, by simpa using h3⟩
      · intro hv
        rw [hwl, hv, ← hl']
        simp
        exact ⟨hk4, hrow'⟩
    rintro env w5 ⟨hk5, v5, z12, z13, z14, z15, l5, rfl, hl5', hrow5⟩
    have hvar5 := rowVar hrow5
    have h04 : 0 < l5.length ∧ l5.length ≤ 1000 := by rw [hl5', hwl]; cases r.v <;> cases r.s <;> simp [hl4]
    have htl := textL_len r
    simp only [W_seq]
    refine W_calm (by simp [hvar5]) (join_ret hrow5 h04.1 h04.2 (by rw [hl5']; show (textL r).length ≤ _; omega)) ?_
    intro w6 hk6
    rw [hl5']
    simp
    exact ⟨rfl, hk5.trans hk6⟩

set_option maxRecDepth 20000 in
theorem all_text : textL Rt.all = [99, 102, 102, 32, 112, 102, 32, 109, 51, 102, 32, 104, 102, 102, 32, 112, 114, 105, 118, 105, 108, 101, 103, 101, 100] := by decide +kernel

theorem zero_wf : Rt.zero.wf := ⟨by decide, by decide, by decide, by decide⟩
theorem all_wf : Rt.all.wf := ⟨by decide, by decide, by decide, by decide⟩
theorem whole_ret (w : World) (hg : Glob w) : Ret Tryd.prog 8 [] w fun v w' => v = .bool true ∧ Kept none' w w' := by
  refine ret_of_W Tryd.func8 rfl ok_tipstafflaw11_whole ?_
  simp [c_tipstafflaw11_whole, zero_arr]
  refine W_calmP (by simp) (bit_ret 87 w hg) ?_
  rintro v w1 hk1 ⟨r, rfl, hr⟩
  have hr5 : r = 5 := by
    rcases hr with ⟨i, hi, rfl, hi2, _⟩ | ⟨_, h⟩
    · have : i = 0 ∨ i = 1 ∨ i = 2 ∨ i = 3 ∨ i = 4 ∨ i = 5 ∨ i = 6 ∨ i = 7 := by omega
      rcases this with rfl | rfl | rfl | rfl | rfl | rfl | rfl | rfl <;> simp [helperAt] at hi2 <;> rfl
    · exact absurd rfl (h 5 (by omega))
  subst hr5
  simp
  refine W_calm (by simp) (all_ret w1) ?_
  intro w2 hk2
  simp
  refine W_calm (by simp) (text_ret Rt.all w2 (hg.calm (hk1.trans hk2)) all_wf) ?_
  intro w3 hk3
  rw [all_text]
  have hb : bs [99, 102, 102, 32, 112, 102, 32, 109, 51, 102, 32, 104, 102, 102, 32, 112, 114, 105, 118, 105, 108, 101, 103, 101, 100] = ⟨#[99, 102, 102, 32, 112, 102, 32, 109, 51, 102, 32, 104, 102, 102, 32, 112, 114, 105, 118, 105, 108, 101, 103, 101, 100]⟩ := rfl
  rw [hb]
  have hs : ∀ s : ByteArray, strBin .eql s s = some (.bool true) := fun s => by simp [strBin]
  have hm5 : max (5 : Int) 0 = 5 := by decide
  simp [hs, hm5]
  refine W_yes (by simp [hs, hm5]) ?_
  refine W_calm (by simp) (all_ret w3) ?_
  intro w4 hk4
  simp only [W_seq]
  refine W_yes (by simp [hs, hm5]) ?_
  refine W_calm (by simp) (within_ret Rt.zero Rt.all w4 zero_wf all_wf) ?_
  intro w5 hk5
  have h0 : decide (common Rt.zero Rt.all = Rt.zero) = true := by decide
  rw [h0]
  simp [hs, hm5]
  exact (((hk1.trans hk2).trans hk3).trans hk4).trans hk5
end Go.Proofs.YtaaicadjoghbcaaDoor
