/- Layer 23's reference: lines, words. -/
import Derived.Test.YtpannhipchnhaaaGreatDoorAs10
set_option linter.unusedSimpArgs false
set_option linter.unusedVariables false
set_option maxRecDepth 8000
namespace Go.Eng

/-! Rows of elements of one cell. -/
abbrev Row1 (T : TypeId) (w : World) (v : Value) (xs : List Value) : Prop := Row T 1 w v xs.length xs
theorem row1_nil (T : TypeId) (w : World) : Row1 T w (.slice none 0 0) [] := row_nil T 1 w
theorem row1_new {T : TypeId} (w : World) : Row1 T (w.alloc (.cells #[] T)) (.slice (some ⟨w.heap.size, 0, none⟩) 0 0) [] :=
  ⟨by simp, .inr ⟨w.heap.size, 0, #[], rfl, by omega, hp_new w _, by simp, by unfold maxLen; omega, by simp, by simp⟩⟩
theorem row1_one {T : TypeId} (w : World) (x : Value) : Row1 T (w.alloc (.cells #[x] T)) (.slice (some ⟨w.heap.size, 0, none⟩) 1 1) [x] :=
  ⟨by simp, .inr ⟨w.heap.size, 1, #[x], rfl, by omega, hp_new w _, by simp, by unfold maxLen; omega, by simp, by simp⟩⟩
theorem row1_len {T : TypeId} {w : World} {v : Value} {xs : List Value} (h : Row1 T w v xs) : lenV false v = some (.int .i64 xs.length) := rowLen h
theorem row1_ix {T : TypeId} {w : World} {v : Value} {xs : List Value} (h : Row1 T w v xs) {i : Nat} {x : Value} (hx : xs[i]? = some x) : ∃ g c, v = .slice (some ⟨g, 0, none⟩) xs.length c ∧ wcell w g i = some x := by
  have hi : i < xs.length := (List.getElem?_eq_some_iff.1 hx).1
  obtain ⟨g, c, rfl, _, _, hy⟩ := rowForm h (by omega)
  exact ⟨g, c, rfl, hy i x hx⟩
theorem row1_push {P : Program} {t T : TypeId} (ht : P.underlying t = some (.slice T)) (hi0 : (P.info? T).any (fun i => i.size == 1 && decide (i.bytes ≤ 4096) && i.zero.any (fun z => z.cells.size == 1)) = true)
    {w : World} {v : Value} {xs : List Value} {x : Value} (h : Row1 T w v xs) (hn : xs.length + 1 ≤ 1000000) (h1 : x.oneCell' = true) :
    ∃ v' w', (builtin .append #[t, t] t #[] #[v, .slice (some ⟨w.heap.size, 0, none⟩) 1 1]).run P (w.alloc (.cells #[x] T)) = .ok (.value v') w' ∧ Row1 T w' v' (xs ++ [x]) ∧ Kept (fun j => v.ownBlock = some j) w w' ∧
      (∀ j, v'.ownBlock = some j → v.ownBlock = some j ∨ w.heap.size ≤ j) := by
  have hk := (Kept.refl none' w).alloc (.cells #[x] T)
  have h' : Row1 T (w.alloc (.cells #[x] T)) v xs := rowCalm h hk
  obtain ⟨v', w', hr, hrow, hk', hat⟩ := row_append (P := P) (t := t) ht hi0 (by omega) (sb := w.heap.size) (so := 0) (c := 1) (m := 1) (ys := [x]) h' (by omega) rfl
    (fun j y hj => by
      cases j with
      | zero => simp at hj; subst hj; simp
      | succ j => simp at hj)
    (fun y hy => by simp at hy; subst hy; exact h1)
  refine ⟨v', w', hr, ?_, ?_, ?_⟩
  · simpa [Row1, List.length_append] using hrow
  · exact (hk.any (S := fun j => v.ownBlock = some j)).trans hk'
  · intro j hj
    rcases hat with e | e
    · rw [e] at hj; exact .inl hj
    · rw [e] at hj
      have : (w.alloc (.cells #[x] T)).heap.size = w.heap.size + 1 := by simp
      simp at hj; right; omega
section
variable {P : Program} {R : Env → World → Prop} {k : List It} {env : Env} {w : World}
/-- One more element. -/
theorem W_push {t T : TypeId} {a b vi : Nat} {e : Ex} {rest : Cmd} {v x : Value} {xs : List Value} (ht : P.underlying t = some (.slice T)) (hi0 : (P.info? T).any (fun i => i.size == 1 && decide (i.bytes ≤ 4096) && i.zero.any (fun z => z.cells.size == 1)) = true)
    (h : Row1 T w v xs) (hn : xs.length + 1 ≤ 1000000) (h1 : x.oneCell' = true) (hx : e.ev env w = some (.agg #[x])) (hc : (Value.agg #[x]).cells = #[x])
    (hv : evs (setO (some a) env (.slice (some ⟨w.heap.size, 0, none⟩) 1 1)) (w.alloc (.cells #[x] T)) [.var vi, .var a] = some [v, .slice (some ⟨w.heap.size, 0, none⟩) 1 1])
    (hk : ∀ v' w', Row1 T w' v' (xs ++ [x]) → Kept (fun j => v.ownBlock = some j) w w' → (∀ j, v'.ownBlock = some j → v.ownBlock = some j ∨ w.heap.size ≤ j) →
      W P R (.c rest :: k) (setO (some b) (setO (some a) env (.slice (some ⟨w.heap.size, 0, none⟩) 1 1)) v') w') :
    W P R (.c (.row (some a) T 1 e []) :: .c (.seq (.bi (some b) .append [t, t] t [.var vi, .var a] []) rest) :: k) env w := by
  refine W_row' hx hc ?_
  rw [W_seq]
  obtain ⟨v', w', hr, hrow, hk', hat⟩ := row1_push (P := P) ht hi0 h hn h1
  exact W_bi hv hr (stab_nil _ _ _) (hk v' w' hrow hk' hat)
end
end Go.Eng
namespace Go.Proofs.YtpannhipchnhaaaGreatDoor
open Go.Eng

theorem u8_is {x c : UInt8} {n : Int} (h : (c.toNat : Int) = n) : ((x.toNat : Int) = n) ↔ x = c := by
  subst h
  exact ⟨fun e => UInt8.toNat.inj (by omega), fun e => by rw [e]⟩
abbrev strV (s : Str) : Value := .string (us s)
theorem splitG_none1 {c : UInt8} {s : Str} (h : ∀ x ∈ s, x ≠ c) : splitG c s = [s] := by
  induction s with
  | nil => rfl
  | cons x r ih =>
    have hx : x ≠ c := h x (by simp)
    simp only [splitG, if_neg hx, ih fun y hy => h y (by simp [hy])]
    rfl
theorem splitG_app1 {c : UInt8} {a : Str} (h : ∀ x ∈ a, x ≠ c) (b : Str) : splitG c (a ++ c :: b) = a :: splitG c b := by
  induction a with
  | nil => simp [splitG]
  | cons x r ih =>
    have hx : x ≠ c := h x (by simp)
    have := ih fun y hy => h y (by simp [hy])
    simp only [List.cons_append, splitG, if_neg hx, this]
    rfl
theorem splitG_first : ∀ t : Str, (splitG 10 t)[0]? = some (cutL t).1
  | [] => rfl
  | x :: r => by
    have ih := splitG_first r
    by_cases h : x = 10
    · simp [splitG, cutL, h]
    · have e : (splitG 10 r).headD [] = (cutL r).1 := by
        cases hs : splitG 10 r with
        | nil => rw [hs] at ih; cases ih
        | cons a b => rw [hs] at ih; simpa using ih
      rw [List.headD_eq_head?_getD] at e
      simp [splitG, cutL, h, e]
theorem splitG_size (c : UInt8) : ∀ t : Str, (splitG c t).length ≤ t.length + 1
  | [] => by simp [splitG]
  | x :: r => by
    have ih := splitG_size c r
    by_cases h : x = c
    · simp [splitG, h]; exact ih
    · have := splitG_ne c r
      simp [splitG, h]; omega

/-- Where a cut stands at place i: the last piece began at a. -/
def CutAt (c : UInt8) (t : Str) (out : List Str) (a i : Nat) : Prop :=
  (i ≤ t.length ∧ a ≤ i ∧ (∀ x ∈ (t.take i).drop a, x ≠ c) ∧ splitG c t = out ++ splitG c (t.drop a)) ∨ (i = t.length + 1 ∧ a = i ∧ out = splitG c t)
theorem CutAt.begin (c : UInt8) (t : Str) : CutAt c t [] 0 0 := .inl ⟨by omega, by omega, by simp, by simp⟩
theorem CutAt.last {c : UInt8} {t : Str} {out : List Str} {a : Nat} (h : CutAt c t out a t.length) : CutAt c t (out ++ [t.drop a]) (t.length + 1) (t.length + 1) := by
  rcases h with ⟨h1, h2, h3, h4⟩ | ⟨h1, _⟩
  · refine .inr ⟨rfl, rfl, ?_⟩
    rw [List.take_length] at h3
    rw [h4, splitG_none1 h3]
  · omega
theorem drop_split {t : Str} {a i : Nat} (h : a ≤ i) (hi : i < t.length) : t.drop a = (t.take i).drop a ++ t[i] :: t.drop (i + 1) := by
  have e : t = t.take i ++ t[i] :: t.drop (i + 1) := by rw [← List.drop_eq_getElem_cons hi, List.take_append_drop]
  have hl : (t.take i).length = i := by rw [List.length_take]; omega
  conv => lhs; rw [e]
  rw [List.drop_append_of_le_length (by omega)]
theorem CutAt.cut {c : UInt8} {t : Str} {out : List Str} {a i : Nat} (h : CutAt c t out a i) (hi : i < t.length) (hc : t[i] = c) : CutAt c t (out ++ [(t.take i).drop a]) (i + 1) (i + 1) := by
  rcases h with ⟨h1, h2, h3, h4⟩ | ⟨h1, _⟩
  · refine .inl ⟨by omega, by omega, by simp, ?_⟩
    rw [h4, drop_split h2 hi, hc, splitG_app1 h3]
    simp
  · omega
theorem take_drop_next {t : Str} {a i : Nat} (h : a ≤ i) (hi : i < t.length) : (t.take (i + 1)).drop a = (t.take i).drop a ++ [t[i]] := by
  have hl : (t.take i).length = i := by rw [List.length_take]; omega
  rw [List.take_add_one, List.getElem?_eq_getElem hi]
  rw [List.drop_append_of_le_length (by omega)]
  rfl
theorem CutAt.go {c : UInt8} {t : Str} {out : List Str} {a i : Nat} (h : CutAt c t out a i) (hi : i < t.length) (hc : t[i] ≠ c) : CutAt c t out a (i + 1) := by
  rcases h with ⟨h1, h2, h3, h4⟩ | ⟨h1, _⟩
  · refine .inl ⟨by omega, by omega, ?_, h4⟩
    rw [take_drop_next h2 hi]
    intro x hx
    rcases List.mem_append.1 hx with hx | hx
    · exact h3 x hx
    · simp at hx; subst hx; exact hc
  · omega
theorem CutAt.le {c : UInt8} {t : Str} {out : List Str} {a i : Nat} (h : CutAt c t out a i) : a ≤ i ∧ i ≤ t.length + 1 ∧ out.length ≤ t.length + 1 := by
  have hs := splitG_size c t
  rcases h with ⟨h1, h2, h3, h4⟩ | ⟨h1, h2, h3⟩
  · have := congrArg List.length h4
    rw [List.length_append] at this
    omega
  · subst h3; omega
theorem CutAt.end {c : UInt8} {t : Str} {out : List Str} {a i : Nat} (h : CutAt c t out a i) (hi : ¬ i ≤ t.length) : out = splitG c t := by
  rcases h with ⟨h1, _⟩ | ⟨h1, h2, h3⟩
  · omega
  · exact h3
attribute [local irreducible] Go.Eng.W
theorem rlines_ret {t : Str} (w : World) (ht : t.length ≤ 100000) :
    Ret Tryz.prog 7 [strV t] w fun v w' => Kept none' w w' ∧ Row1 9 w' v ((splitG 10 t).map strV) := by
  refine ret_of_W Tryz.func7 rfl ok_tipstaffref23_Lines ?_
  simp only [c_tipstaffref23_Lines, W_seq, W_set]
  refine ok_intro (.slice none 0 0) (by simp) ?_
  try simp only [W_seq]
  refine W_row' (v := .agg #[]) (cs := #[]) (by simp) rfl ?_
  have hk1 : Kept none' w (w.alloc (.cells #[] 9)) := (Kept.refl _ _).alloc _
  have hr1 := row1_new (T := 9) w
  simp only [W_set, W_seq]
  refine ok_intro (.slice (some ⟨w.heap.size, 0, none⟩) 0 0) (by simp) ?_
  try simp only [W_seq, W_set]
  refine ok_intro (.int .i64 0) (by simp) ?_
  try simp only [W_seq, W_set]
  refine ok_intro (.int .i64 0) (by simp) ?_
  try simp only [W_seq, W_block]
  refine W_loop (fun env w' => Kept none' w w' ∧ ∃ v out, ∃ a i : Nat, CutAt 10 t out a i ∧ env = [strV t, undef, undef, v, .int .i64 a, .int .i64 i, undef, undef] ∧ Row1 9 w' v (out.map strV) ∧ (∀ j, v.ownBlock = some j → w.heap.size ≤ j)) (fun env _ => t.length + 1 - natAt env 5) ?_ ?_
  · refine ⟨hk1, _, [], 0, 0, CutAt.begin 10 t, by simp, hr1, ?_⟩
    intro j hj
    simp [Value.ownBlock] at hj; omega
  rintro env w2 ⟨hk2, v, out, a, i, hc, rfl, hrow, hown⟩
  obtain ⟨hai, hit, hol⟩ := hc.le
  simp only [W_seq]
  by_cases hgo : i ≤ t.length
  · have hgo' : (i : Int) ≤ t.length := by omega
    refine W_yes (by simp [hgo']) ?_
    simp only [W_skip, W_seq, W_block]
    have e1 : IntKind.i64.wrap ((i : Int) + 1) = ((i + 1 : Nat) : Int) := i64w (by omega) (by omega)
    have hex : ∀ v', evs (setO (some 6) [strV t, undef, undef, v, .int .i64 a, .int .i64 i, undef, undef] (.slice (some ⟨w2.heap.size, 0, none⟩) 1 1)) v' [.var 3, .var 6] = some [v, .slice (some ⟨w2.heap.size, 0, none⟩) 1 1] := by
      intro v'
      simp [rowVar hrow]
    have hsl : slStrV (strV t) (.int .i64 a) (.int .i64 i) = some (strV ((t.take i).drop a)) := by
      have h1 : (a : Int) ≤ i := by omega
      simp [h1, hgo', us_extract]
    refine W_cond (t := decide (i = t.length) || decide (t[i]? = some 10)) ?_ ?_ ?_
    · by_cases hil : i = t.length
      · subst hil; simp [pickV_bool]
      · have hilt : i < t.length := by omega
        have hil' : ¬ (i : Int) = t.length := by omega
        have hge : (0 : Int) ≤ i := by omega
        have hb : (us t).data[i]? = some t[i] := by show t.toArray[i]? = _; simp [hilt]
        simp [hil, hil', hb, List.getElem?_eq_getElem hilt, pickV_bool, u8_is (x := t[i]) (c := 10) (n := 10) rfl]
    · intro hy
      simp only [W_seq]
      refine W_chkIn [v] (by simp [rowVar hrow]) ?_
      simp only [W_seq]
      refine W_push (x := strV ((t.take i).drop a)) (xs := out.map strV) (v := v) Tryz.underlying22 (by kernel_rfl) hrow (by simp; omega) rfl (by simp [hsl]) rfl (hex _) ?_
      intro v' w3 hrow3 hk3 hown3
      have hk03 : Kept none' w w3 := hk2.then hk3 fun j hj h => by have := hown j h; omega
      have hown' : ∀ j, v'.ownBlock = some j → w.heap.size ≤ j := fun j hj => (hown3 j hj).elim (hown j) fun h => by have := hk2.size; omega
      have hc' : CutAt 10 t (out ++ [(t.take i).drop a]) (i + 1) (i + 1) := by
        by_cases hil : i = t.length
        · subst hil
          have := hc.last
          rw [List.take_length]
          exact this
        · have hilt : i < t.length := by omega
          refine hc.cut hilt ?_
          simp [hil, List.getElem?_eq_getElem hilt] at hy
          exact hy
      simp [e1, rowVar hrow3, -Int.natCast_add]
      exact ⟨⟨hk03, v', out ++ [(t.take i).drop a], i + 1, i + 1, hc', ⟨rfl, rfl, rfl⟩, by simpa using hrow3, hown'⟩, by simp [natAt]; omega⟩
    · intro hn
      have hil : i ≠ t.length := fun e => by simp [e] at hn
      have hilt : i < t.length := by omega
      have hne : t[i] ≠ 10 := fun e => by simp [hil, List.getElem?_eq_getElem hilt, e] at hn
      simp [e1, -Int.natCast_add]
      exact ⟨⟨hk2, v, out, a, i + 1, hc.go hilt hne, ⟨rfl, rfl, rfl⟩, hrow, hown⟩, by simp [natAt]; omega⟩
  · have hgo' : ¬ (i : Int) ≤ t.length := by omega
    refine W_no (by simp [hgo']) ?_
    have he := hc.end hgo
    subst he
    simp [rowVar hrow]
    exact ⟨hk2, hrow⟩
/-- Words. -/
theorem rwords_ret {t : Str} (w : World) (ht : t.length ≤ 100000) :
    Ret Tryz.prog 14 [strV t] w fun v w' => Kept none' w w' ∧ Row1 9 w' v ((splitG 32 t).map strV) := by
  refine ret_of_W Tryz.func14 rfl ok_tipstaffref23_words ?_
  simp only [c_tipstaffref23_words, W_seq, W_set]
  refine ok_intro (.slice none 0 0) (by simp) ?_
  try simp only [W_seq]
  refine W_row' (v := .agg #[]) (cs := #[]) (by simp) rfl ?_
  have hk1 : Kept none' w (w.alloc (.cells #[] 9)) := (Kept.refl _ _).alloc _
  have hr1 := row1_new (T := 9) w
  simp only [W_set, W_seq]
  refine ok_intro (.slice (some ⟨w.heap.size, 0, none⟩) 0 0) (by simp) ?_
  try simp only [W_seq, W_set]
  refine ok_intro (.string ⟨#[]⟩) (by simp) ?_
  try simp only [W_seq, W_set]
  refine ok_intro (.int .i64 0) (by simp) ?_
  try simp only [W_seq, W_block]
  refine W_loop (fun env w' => Kept none' w w' ∧ ∃ v out, ∃ a i : Nat, CutAt 32 t out a i ∧ env = [strV t, undef, undef, v, strV ((t.take i).drop a), .int .i64 i, undef, undef] ∧ Row1 9 w' v (out.map strV) ∧ (∀ j, v.ownBlock = some j → w.heap.size ≤ j)) (fun env _ => t.length + 1 - natAt env 5) ?_ ?_
  · refine ⟨hk1, _, [], 0, 0, CutAt.begin 32 t, by simp; rfl, hr1, ?_⟩
    intro j hj
    simp [Value.ownBlock] at hj; omega
  rintro env w2 ⟨hk2, v, out, a, i, hc, rfl, hrow, hown⟩
  obtain ⟨hai, hit, hol⟩ := hc.le
  simp only [W_seq]
  by_cases hgo : i ≤ t.length
  · have hgo' : (i : Int) ≤ t.length := by omega
    refine W_yes (by simp [hgo']) ?_
    simp only [W_skip, W_seq, W_block]
    have e1 : IntKind.i64.wrap ((i : Int) + 1) = ((i + 1 : Nat) : Int) := i64w (by omega) (by omega)
    have hex : ∀ v', evs (setO (some 6) [strV t, undef, undef, v, strV ((t.take i).drop a), .int .i64 i, undef, undef] (.slice (some ⟨w2.heap.size, 0, none⟩) 1 1)) v' [.var 3, .var 6] = some [v, .slice (some ⟨w2.heap.size, 0, none⟩) 1 1] := by
      intro v'
      simp [rowVar hrow]
    refine W_cond (t := decide (i = t.length) || decide (t[i]? = some 32)) ?_ ?_ ?_
    · by_cases hil : i = t.length
      · subst hil; simp [pickV_bool]
      · have hilt : i < t.length := by omega
        have hil' : ¬ (i : Int) = t.length := by omega
        have hge : (0 : Int) ≤ i := by omega
        have hb : (us t).data[i]? = some t[i] := by show t.toArray[i]? = _; simp [hilt]
        simp [hil, hil', hb, List.getElem?_eq_getElem hilt, pickV_bool, u8_is (x := t[i]) (c := 32) (n := 32) rfl]
    · intro hy
      simp only [W_seq]
      refine W_chkIn [v] (by simp [rowVar hrow]) ?_
      simp only [W_seq]
      refine W_push (x := strV ((t.take i).drop a)) (xs := out.map strV) (v := v) Tryz.underlying22 (by kernel_rfl) hrow (by simp; omega) rfl (by simp) rfl (hex _) ?_
      intro v' w3 hrow3 hk3 hown3
      have hk03 : Kept none' w w3 := hk2.then hk3 fun j hj h => by have := hown j h; omega
      have hown' : ∀ j, v'.ownBlock = some j → w.heap.size ≤ j := fun j hj => (hown3 j hj).elim (hown j) fun h => by have := hk2.size; omega
      have hc' : CutAt 32 t (out ++ [(t.take i).drop a]) (i + 1) (i + 1) := by
        by_cases hil : i = t.length
        · subst hil
          have := hc.last
          rw [List.take_length]
          exact this
        · have hilt : i < t.length := by omega
          refine hc.cut hilt ?_
          simp [hil, List.getElem?_eq_getElem hilt] at hy
          exact hy
      have hz : strV ((t.take (i + 1)).drop (i + 1)) = .string ⟨#[]⟩ := by
        rw [List.drop_eq_nil_of_le (by rw [List.length_take]; omega)]; rfl
      simp [e1, rowVar hrow3, -Int.natCast_add]
      exact ⟨⟨hk03, v', out ++ [(t.take i).drop a], i + 1, i + 1, hc', ⟨rfl, (Value.string.inj hz).symm, rfl⟩, by simpa using hrow3, hown'⟩, by simp [natAt]; omega⟩
    · intro hn
      have hil : i ≠ t.length := fun e => by simp [e] at hn
      have hilt : i < t.length := by omega
      have hilt' : (i : Int) < t.length := by omega
      have hne : t[i] ≠ 32 := fun e => by simp [hil, List.getElem?_eq_getElem hilt, e] at hn
      have h1 : (i : Int) ≤ ((i + 1 : Nat) : Int) := by omega
      have h2 : ((i + 1 : Nat) : Int) ≤ t.length := by omega
      have h3 : (t.take (i + 1)).drop i = [t[i]] := by
        rw [take_drop_next (by omega) hilt, List.drop_eq_nil_of_le (by rw [List.length_take]; omega)]; rfl
      have hcat : strBin .add (us ((t.take i).drop a)) (us [t[i]]) = some (strV ((t.take (i + 1)).drop a)) := by
        rw [us_cat _ _ (by simp; omega), take_drop_next hai hilt]
      simp [e1, h1, h2, us_extract, h3, hcat, -Int.natCast_add]
      exact ⟨⟨hk2, v, out, a, i + 1, hc.go hilt hne, ⟨rfl, rfl, rfl⟩, hrow, hown⟩, by simp [natAt]; omega⟩
  · have hgo' : ¬ (i : Int) ≤ t.length := by omega
    refine W_no (by simp [hgo']) ?_
    have he := hc.end hgo
    subst he
    simp [rowVar hrow]
    exact ⟨hk2, hrow⟩
/-! Numbers of words. -/
def digN (l : Str) : Nat := l.foldl (fun a c => 10 * a + (c.toNat - 48)) 0
def rnumD (m : Bool) (d : Str) : Int × Bool :=
  if d.length < 1 ∨ 12 < d.length ∨ (1 < d.length ∧ d.head? = some 48) ∨ (m = true ∧ d = [48]) then (0, false)
  else if ∀ c ∈ d, 48 ≤ c.toNat ∧ c.toNat ≤ 57 then (if m then - (digN d : Int) else digN d, true) else (0, false)
def rnumR (s : Str) : Int × Bool := rnumD (decide (s.head? = some 45)) (if s.head? = some 45 then s.drop 1 else s)
theorem us_arr (l : Str) : (us l).data = l.toArray := rfl
theorem digN_next (l : Str) (c : UInt8) : digN (l ++ [c]) = 10 * digN l + (c.toNat - 48) := by simp [digN, List.foldl_append]
theorem fold_lt : ∀ (l : Str) (a : Nat), (∀ c ∈ l, c.toNat ≤ 57) → l.foldl (fun a c => 10 * a + (c.toNat - 48)) a < (a + 1) * 10 ^ l.length
  | [], a, _ => by simp
  | c :: r, a, h => by
    have ih := fold_lt r (10 * a + (c.toNat - 48)) fun x hx => h x (by simp [hx])
    have hc := h c (by simp)
    rw [List.foldl_cons, List.length_cons, Nat.pow_succ]
    refine Nat.lt_of_lt_of_le ih ?_
    rw [Nat.mul_comm (10 ^ r.length) 10, ← Nat.mul_assoc]
    exact Nat.mul_le_mul_right _ (by omega)
theorem digN_lt {l : Str} (h : ∀ c ∈ l, c.toNat ≤ 57) : digN l < 10 ^ l.length := by
  have := fold_lt l 0 h
  simpa [digN] using this
theorem pow_le12 {n : Nat} (h : n ≤ 12) : 10 ^ n ≤ 1000000000000 := by
  have : 10 ^ n ≤ 10 ^ 12 := Nat.pow_le_pow_right (by omega) h
  simpa using this
set_option maxHeartbeats 1000000 in
theorem rnumber_T (w0 : World) {s : Str} (hs : s.length ≤ 100000) : T Tryz.prog w0 15 [strV s] = some (.tuple #[.int .i64 (rnumR s).1, .bool (rnumR s).2]) :=
  T_of (by kernel_rfl) Tryz.func15 rfl ok_tipstaffref23_number (by simp) (by simp) fun B hB => by
  unfold c_tipstaffref23_number
  simp only [C_seq]
  have hmin : (Value.bool (decide (s.head? = some 45))) = .bool (decide (s.head? = some 45)) := rfl
  refine C_setI (v := .int .i64 0) (by simp) ?_
  refine C_setI (v := .bool false) (by simp) ?_
  simp only [C_seq]
  refine C_setI (v := .bool (decide (s.head? = some 45))) ?_ ?_
  · cases s with
    | nil => simp [pickV_bool]
    | cons c r =>
      have h0 : (0 : Int) < ((r.length + 1 : Nat) : Int) := by omega
      simp [pickV_bool, us_arr, h0, u8_is (x := c) (c := 45) (n := 45) rfl, -Int.natCast_add]
  simp only [C_seq]
  refine C_setI (v := strV s) (by simp) ?_
  simp only [C_seq]
  refine C_cut (fun env l => l = [] ∧ env = [strV s, .int .i64 0, .bool false, .bool (decide (s.head? = some 45)), strV (if s.head? = some 45 then s.drop 1 else s), undef, undef]) ?_ ?_
  · refine C_cond (t := decide (s.head? = some 45)) (by simp) ?_ ?_
    · intro h
      have h' : s.head? = some 45 := by simpa using h
      have h1 : (1 : Int) ≤ s.length := by
        cases s with
        | nil => cases h'
        | cons c r => simp; omega
      simp [h', h1, us_extract]
    · intro h
      have h' : ¬ s.head? = some 45 := by simpa using h
      simp [h']
  rintro _ _ ⟨rfl, rfl⟩
  have hd : (if s.head? = some 45 then s.drop 1 else s).length ≤ 100000 := by
    split
    · rw [List.length_drop]; omega
    · exact hs
  unfold rnumR
  generalize (if s.head? = some 45 then s.drop 1 else s) = d at *
  generalize decide (s.head? = some 45) = m at *
  clear hmin
  simp only [C_seq]
  have e48 : ∀ x : Str, decide (x = [48]) = decide (x = [48]) := fun _ => rfl
  by_cases hbad : d.length < 1 ∨ 12 < d.length ∨ (1 < d.length ∧ d.head? = some 48) ∨ (m = true ∧ d = [48])
  · have er : rnumD m d = (0, false) := by unfold rnumD; rw [if_pos hbad]
    rw [er]
    cases d with
    | nil => simp [C_cond_eq, pickV_bool]
    | cons c r =>
      have hl1 : ¬ ((r.length + 1 : Nat) : Int) < 1 := by omega
      by_cases h12 : 12 < r.length + 1
      · have h12' : (12 : Int) < ((r.length + 1 : Nat) : Int) := by omega
        simp [C_cond_eq, pickV_bool, hl1, h12', -Int.natCast_add]
      · have h12' : ¬ (12 : Int) < ((r.length + 1 : Nat) : Int) := by omega
        have h0 : (0 : Int) < ((r.length + 1 : Nat) : Int) := by omega
        by_cases hc : 0 < r.length ∧ c = 48
        · have hr1 : (1 : Int) < ((r.length + 1 : Nat) : Int) := by omega
          simp [C_cond_eq, pickV_bool, hl1, h12', hr1, h0, us_arr, hc.2, -Int.natCast_add]
        · have hm : m = true ∧ c :: r = [48] := by
            rcases hbad with h | h | h | h
            · simp at h
            · simp at h; omega
            · simp at h; exact absurd ⟨by omega, h.2⟩ hc
            · exact h
          obtain ⟨rfl, hm⟩ := hm
          have hr1 : ¬ (1 : Int) < ((r.length + 1 : Nat) : Int) := by
            have := congrArg List.length hm
            simp at this
            subst this
            simp
          have he := us_eql (c :: r) [48]
          rw [decide_eq_true hm] at he
          simp [C_cond_eq, pickV_bool, hl1, h12', hr1, mk_us, he, -Int.natCast_add]
  have hsz : 1 ≤ d.length ∧ d.length ≤ 12 := by
    simp only [not_or] at hbad
    omega
  have hl1 : ¬ (d.length : Int) < 1 := by omega
  have h12 : ¬ (12 : Int) < (d.length : Int) := by omega
  refine C_chkI (vs := [.bool false, .bool false, .bool false]) ?_ ?_
  · -- the parts of the condition
    cases d with
    | nil => simp at hsz
    | cons c r =>
      have hc : ¬ (0 < r.length ∧ c = 48) := fun h => hbad (.inr (.inr (.inl ⟨by simp; omega, by rw [h.2]; rfl⟩)))
      simp at hl1 h12
      have h0 : (0 : Int) < (r.length : Int) + 1 := by omega
      cases r with
      | cons c2 r =>
        have hr1 : (1 : Int) < (r.length : Int) + 1 + 1 := by omega
        have hc' : ¬ c = 48 := fun e => hc ⟨by simp, e⟩
        have he := us_eql (c :: c2 :: r) [48]
        cases m <;> simp [pickV_bool, us_arr, u8_is (x := c) (c := 48) (n := 48) rfl, mk_us, hc', hr1, hl1, h12, h0, he]
        all_goals simp at h12 hl1
        all_goals simp [h12, hl1]
      | nil =>
        have he := us_eql [c] [48]
        cases m with
        | false => simp [pickV_bool]
        | true =>
          have hc' : ¬ c = 48 := fun e => hbad (.inr (.inr (.inr ⟨rfl, by rw [e]⟩)))
          simp [hc'] at he
          simp [pickV_bool, mk_us, he]
  refine C_no ?_ ?_
  · -- the condition
    cases d with
    | nil => simp at hsz
    | cons c r =>
      have hc : ¬ (0 < r.length ∧ c = 48) := fun h => hbad (.inr (.inr (.inl ⟨by simp; omega, by rw [h.2]; rfl⟩)))
      simp at hl1 h12
      have h0 : (0 : Int) < (r.length : Int) + 1 := by omega
      cases r with
      | cons c2 r =>
        have hr1 : (1 : Int) < (r.length : Int) + 1 + 1 := by omega
        have hc' : ¬ c = 48 := fun e => hc ⟨by simp, e⟩
        have he := us_eql (c :: c2 :: r) [48]
        cases m <;> simp [pickV_bool, us_arr, u8_is (x := c) (c := 48) (n := 48) rfl, mk_us, hc', hr1, hl1, h12, h0, he]
        all_goals simp at h12 hl1
        all_goals simp [h12, hl1]
      | nil =>
        have he := us_eql [c] [48]
        cases m with
        | false => simp [pickV_bool]
        | true =>
          have hc' : ¬ c = 48 := fun e => hbad (.inr (.inr (.inr ⟨rfl, by rw [e]⟩)))
          simp [hc'] at he
          simp [pickV_bool, mk_us, he]
  have er : rnumD m d = if ∀ c ∈ d, 48 ≤ c.toNat ∧ c.toNat ≤ 57 then (if m then - (digN d : Int) else digN d, true) else (0, false) := by unfold rnumD; rw [if_neg hbad]
  rw [er]
  clear er hbad e48
  simp only [C_skip, C_seq, C_block]
  refine C_setI (v := .int .i64 0) (by simp) ?_
  simp only [C_seq]
  refine C_setI (v := .int .i64 0) (by simp) ?_
  simp only [C_block]
  refine C_loop (fun env l => l = [] ∧ ∃ i : Nat, i ≤ d.length ∧ (∀ c ∈ d.take i, 48 ≤ c.toNat ∧ c.toNat ≤ 57) ∧ env = [undef, undef, undef, .bool m, strV d, .int .i64 (digN (d.take i)), .int .i64 i]) (fun env _ => d.length - natAt env 6) ?_ ?_
  · exact ⟨rfl, 0, by omega, by simp, by simp [digN]⟩
  rintro env l ⟨rfl, i, hi, hdig, rfl⟩
  simp only [C_seq]
  by_cases hgo : i < d.length
  · have hgo' : (i : Int) < d.length := by omega
    have hge : (0 : Int) ≤ i := by omega
    refine C_yes (by simp [hgo']) ?_
    simp only [C_skip, C_seq, C_block]
    have e1 : IntKind.i64.wrap ((i : Int) + 1) = ((i + 1 : Nat) : Int) := i64w (by omega) (by omega)
    have hdi : d[i]? = some d[i] := List.getElem?_eq_getElem hgo
    have hall : (∀ c ∈ d, 48 ≤ c.toNat ∧ c.toNat ≤ 57) → 48 ≤ d[i].toNat ∧ d[i].toNat ≤ 57 := fun h => h _ (List.getElem_mem _)
    have htake : d.take (i + 1) = d.take i ++ [d[i]] := by rw [List.take_add_one, hdi]; rfl
    have hlt := digN_lt (l := d.take i) fun c hc => (hdig c hc).2
    have hp := pow_le12 (n := (d.take i).length) (by rw [List.length_take]; omega)
    have hx := d[i].toNat_lt
    generalize hxe : d[i] = x at *
    have elt : ((x.toNat : Int) < 48) ↔ x.toNat < 48 := by omega
    have egt : (57 < (x.toNat : Int)) ↔ 57 < x.toNat := by omega
    refine C_cond (t := decide (x.toNat < 48) || decide (57 < x.toNat)) ?_ ?_ ?_
    · by_cases h : x.toNat < 48
      · simp [us_arr, hdi, h, elt, pickV_bool]
      · simp [us_arr, hdi, h, elt, egt, pickV_bool]
    · intro h
      have hno : ¬ ∀ c ∈ d, 48 ≤ c.toNat ∧ c.toNat ≤ 57 := fun h' => by have := hall h'; simp at h; omega
      rw [if_neg hno]
      simp
    · intro h
      simp at h
      have e2 : IntKind.u8.wrap ((x.toNat : Int) - 48) = ((x.toNat - 48 : Nat) : Int) := by rw [u8w (by omega) (by omega)]; omega
      have e3 : IntKind.i64.wrap ((x.toNat - 48 : Nat) : Int) = ((x.toNat - 48 : Nat) : Int) := i64w (by omega) (by omega)
      have e4 : IntKind.i64.wrap (10 * (digN (d.take i) : Int)) = ((10 * digN (d.take i) : Nat) : Int) := by rw [i64w (by omega) (by omega)]; simp
      have e5 : IntKind.i64.wrap (((10 * digN (d.take i) : Nat) : Int) + ((x.toNat - 48 : Nat) : Int)) = (digN (d.take (i + 1)) : Int) := by
        rw [i64w (by omega) (by omega), htake, digN_next]; simp
      simp [us_arr, hdi, e1, e2, e3, e4, e5, -Int.natCast_add, -Int.natCast_mul]
      refine ⟨⟨i + 1, by omega, ?_, rfl, rfl⟩, by simp [natAt]; omega⟩
      rw [htake]
      intro c hc
      rcases List.mem_append.1 hc with hc | hc
      · exact hdig c hc
      · simp at hc; subst hc; omega
  · have hil : i = d.length := by omega
    subst hil
    rw [List.take_length] at hdig ⊢
    refine C_no (by simp) ?_
    rw [if_pos hdig]
    have hlt := digN_lt (l := d) fun c hc => (hdig c hc).2
    have hp := pow_le12 (n := d.length) (by omega)
    have e6 : IntKind.i64.wrap (-(digN d : Int)) = -(digN d : Int) := i64w (by omega) (by omega)
    simp
    cases m with
    | true => simp [C_cond_eq, e6]
    | false => simp [C_cond_eq]
end Go.Proofs.YtpannhipchnhaaaGreatDoor
namespace Go.Eng
/-- A row's block and one of another type are two. -/
theorem row_ne {T T2 : TypeId} {k n : Nat} {w : World} {v : Value} {xs : List Value} {b : Nat} {c : Array Value} {fz : Nat × Nat} (h : Row T k w v n xs) (hb : w.heap[b]? = some (.cells c T2 fz)) (hT : T ≠ T2) : v.ownBlock ≠ some b := by
  intro e
  rcases h.2 with ⟨rfl, _⟩ | ⟨g, cap, cur, rfl, _, h2, _⟩
  · simp [Value.ownBlock] at e
  · simp [Value.ownBlock] at e
    subst e
    rw [h2] at hb
    simp at hb
    exact hT hb.2.1
theorem rows_ne {T T2 : TypeId} {k n k2 n2 : Nat} {w : World} {v v2 : Value} {xs xs2 : List Value} (h : Row T k w v n xs) (h' : Row T2 k2 w v2 n2 xs2) (hT : T ≠ T2) {b : Nat} (hb : v2.ownBlock = some b) : v.ownBlock ≠ some b := by
  rcases h'.2 with ⟨rfl, _⟩ | ⟨g, cap, cur, rfl, _, h2, _⟩
  · simp [Value.ownBlock] at hb
  · simp [Value.ownBlock] at hb
    subst hb
    exact row_ne h h2 hT
end Go.Eng
namespace Go.Proofs.YtpannhipchnhaaaGreatDoor
open Go.Eng

/-! Rows of rows of instructions. -/
structure LL (w : World) (v : Value) (ls : List (List Ins)) : Prop where
  ex : ∃ vs, Row1 23 w v vs ∧ vs.length = ls.length ∧ ∀ (i : Nat) (vi : Value) (xs : List Ins), vs[i]? = some vi → ls[i]? = some xs → InsRow w vi xs
theorem LL.calm {w w' : World} {v : Value} {ls : List (List Ins)} (h : LL w v ls) (hk : Kept none' w w') : LL w' v ls := by
  obtain ⟨vs, h1, h2, h3⟩ := h.ex
  exact ⟨vs, rowCalm h1 hk, h2, fun i vi xs hv hx => rowCalm (h3 i vi xs hv hx) hk⟩
theorem ll_nil (w : World) : LL w (.slice none 0 0) [] := ⟨[], row1_nil _ w, rfl, fun i vi xs hv => by simp at hv⟩
theorem ins_new (w : World) (xs : List Ins) (hn : xs.length ≤ 1000) : InsRow (w.alloc (.cells (insCells xs).toArray 39)) (.slice (some ⟨w.heap.size, 0, none⟩) xs.length xs.length) xs := by
  have hl := insCells_len xs
  refine ⟨by simp [hl], .inr ⟨w.heap.size, xs.length, (insCells xs).toArray, rfl, by omega, hp_new w _, by omega, by unfold maxLen; omega, by simp [hl], ?_⟩⟩
  rw [List.take_of_length_le (by simp [hl])]
theorem ll_one {w : World} {vi : Value} {xs : List Ins} (h : InsRow w vi xs) : LL (w.alloc (.cells #[vi] 23)) (.slice (some ⟨w.heap.size, 0, none⟩) 1 1) [xs] := by
  refine ⟨[vi], row1_one w vi, rfl, fun i v ys hv hy => ?_⟩
  cases i with
  | zero => simp at hv hy; subst hv; subst hy; exact rowCalm h ((Kept.refl _ _).alloc _)
  | succ i => simp at hv
theorem ll_push {w w' : World} {v v' vi : Value} {vs : List Value} {ls : List (List Ins)} {xs : List Ins} (h1 : Row1 23 w v vs) (h2 : vs.length = ls.length) (h3 : ∀ (i : Nat) (vi : Value) (xs : List Ins), vs[i]? = some vi → ls[i]? = some xs → InsRow w vi xs)
    (hi : InsRow w vi xs) (hk : Kept (fun j => v.ownBlock = some j) w w') (hr : Row1 23 w' v' (vs ++ [vi])) : LL w' v' (ls ++ [xs]) := by
  have hkeep : ∀ {vi : Value} {xs : List Ins}, InsRow w vi xs → InsRow w' vi xs := fun h => rowKeep h hk fun j hj => rows_ne h1 h (by decide) hj
  refine ⟨vs ++ [vi], hr, by simp [h2], fun i vj ys hv hy => ?_⟩
  by_cases hlt : i < vs.length
  · rw [List.getElem?_append_left hlt] at hv
    rw [List.getElem?_append_left (by omega)] at hy
    exact hkeep (h3 i vj ys hv hy)
  · rw [List.getElem?_append_right (by omega)] at hv
    rw [List.getElem?_append_right (by omega)] at hy
    obtain ⟨j, hj⟩ : ∃ j, i - vs.length = j := ⟨_, rfl⟩
    rw [← h2, hj] at hy
    rw [hj] at hv
    cases j with
    | zero => simp at hv hy; subst hv; subst hy; exact hkeep hi
    | succ j => simp at hv

/-! What fill tells. -/
def rwdN (s : Str) : Nat := s.foldl (fun a c => ((10 * a) % 18446744073709551616 + (c.toNat + 208) % 256) % 18446744073709551616) 0
def immOff (p : Parts) (nums : List Int) : Int × Int := match nums with
  | [a, b] => if p.kind = 7 then (b, a) else (a, b)
  | [a] => if p.kind = 1 ∨ p.kind = 4 then (a, 0) else (0, a)
  | _ => (0, 0)
def fillI (p : Parts) (x : Ins) (ws : List Str) (nums : List Int) : List (List Ins) :=
  if p.kind = 9 then
    (if ws[0]? = some [109, 97, 112] ∧ nums.length = 1 ∧ 0 ≤ nums.headD 0 ∧ nums.headD 0 < 4 then [[{ x with src := 1, imm := nums.headD 0 }, Ins.zero]]
     else if ws[0]? ≠ some [119, 105, 100, 101] ∨ ws.length ≠ 3 ∨ 20 < (ws.getD 2 []).length then []
     else [[{ x with imm := i32c (rwdN (ws.getD 2 [])) }, { Ins.zero with imm := i32c (rwdN (ws.getD 2 []) / 4294967296) }]])
  else if (immOff p nums).1 < -2147483648 ∨ 2147483648 ≤ (immOff p nums).1 ∨ (immOff p nums).2 < -32768 ∨ 32768 ≤ (immOff p nums).2 then []
  else [{ x with imm := (immOff p nums).1, off := (immOff p nums).2 }] ::
    (if p.kind = 8 then [64, 80, 160].map (fun n : Int => [{ x with imm := n, off := (immOff p nums).2 }]) else [])
def fillR (op : Nat) (ws : List Str) (regs : List Nat) (nums : List Int) : List (List Ins) :=
  if (partsOf op).kind = 0 ∨ (partsOf op).kind = 10 then [] else fillI (partsOf op) ⟨op, regs.getD 0 0, regs.getD 1 0, 0, 0⟩ ws nums

theorem u64m (n : Nat) : IntKind.u64.wrap (n : Int) = ((n % 18446744073709551616 : Nat) : Int) := by
  show ((n : Int) % (2 ^ 64)) = _
  simp
theorem u8m (n : Nat) : IntKind.u8.wrap ((n : Int) - 48) = (((n + 208) % 256 : Nat) : Int) := by
  show (((n : Int) - 48) % (2 ^ 8)) = _
  omega
theorem rwdN_next (s : Str) (c : UInt8) : rwdN (s ++ [c]) = ((10 * rwdN s) % 18446744073709551616 + (c.toNat + 208) % 256) % 18446744073709551616 := by simp [rwdN, List.foldl_append]
theorem rwdN_lt (s : Str) : rwdN s < 18446744073709551616 := by
  rcases List.eq_nil_or_concat s with rfl | ⟨r, c, rfl⟩
  · simp [rwdN]
  · rw [List.concat_eq_append, rwdN_next]
    exact Nat.mod_lt _ (by omega)

def at3 (y : Ins) (i : Nat) : List (List Ins) := (([64, 80, 160] : List Int).take i).map (fun n : Int => [{ y with imm := n }])
theorem at3_next {y : Ins} {i : Nat} {n : Int} (h : ([64, 80, 160] : List Int)[i]? = some n) : at3 y (i + 1) = at3 y i ++ [[{ y with imm := n }]] := by
  unfold at3
  rw [List.take_add_one, h, List.map_append]; rfl

/-! The walk: two boxes. -/
structure St (w0 w : World) (bp bx : Nat) (p : Parts) (x : Ins) : Prop where
  kept : Kept none' w0 w
  hp : w.heap[bp]? = some (.cells p.arr 66 (0, 0))
  hx : AtB w bx x
  lo : w0.heap.size ≤ bp ∧ w0.heap.size ≤ bx
theorem St.ne {w0 w : World} {bp bx : Nat} {p : Parts} {x : Ins} (h : St w0 w bp bx p x) : bp ≠ bx := by
  intro e
  have h1 := h.hp
  have h2 := h.hx
  rw [e] at h1
  have h3 := h1.symm.trans h2
  simp at h3
theorem St.calm {w0 w w' : World} {bp bx : Nat} {p : Parts} {x : Ins} (h : St w0 w bp bx p x) (hk : Kept none' w w') : St w0 w' bp bx p x :=
  ⟨h.kept.trans hk, hk.has h.hp (fun h => h), hk.has h.hx (fun h => h), h.lo⟩
theorem St.keep {S : Nat → Prop} {w0 w w' : World} {bp bx : Nat} {p : Parts} {x : Ins} (h : St w0 w bp bx p x) (hk : Kept S w w') (hp : ¬ S bp) (hx : ¬ S bx) (hl : ∀ j, S j → w0.heap.size ≤ j) : St w0 w' bp bx p x :=
  ⟨h.kept.then hk fun i hi hs => by have := hl i hs; omega, hk.has h.hp hp, hk.has h.hx hx, h.lo⟩
theorem St.put {w0 w : World} {bp bx : Nat} {p : Parts} {x : Ins} (h : St w0 w bp bx p x) (k : Nat) (hk : k < 5) {v : Value} (hv : v.cells = #[v]) (h1 : v.oneCell' = true) {y : Ins} (hy : x.arr.setIfInBounds k v = y.arr) :
    ∃ w', stv w 1 (.pointer (some ⟨bx, k, none⟩)) v = some w' ∧ St w0 w' bp bx p y := by
  obtain ⟨w', hs, hx', hkb⟩ := ins_put h.hx k hk hv h1
  refine ⟨w', hs, h.kept.then hkb fun i hi hs => by have := h.lo; omega, hkb.has h.hp h.ne, ?_, h.lo⟩
  rw [hy] at hx'
  exact hx'
theorem St.kind {w0 w : World} {bp bx : Nat} {p : Parts} {x : Ins} (h : St w0 w bp bx p x) : wcell w bp 0 = some (.int .i64 p.kind) := by rw [wcell_of h.hp]; rfl
theorem St.row {w0 w : World} {bp bx : Nat} {p : Parts} {x : Ins} (h : St w0 w bp bx p x) : wrow w bx 0 5 = some x.arr := wrow_box h.hx (by simp)
attribute [local irreducible] Go.Eng.W
set_option maxHeartbeats 2000000 in
theorem fill_ret {op : Nat} {ws : List Str} {regs : List Nat} {nums : List Int} {v1 v2 v3 : Value} (w : World) (ho : op < 256) (h1 : Row1 9 w v1 (ws.map strV)) (h2 : Row1 5 w v2 (regs.map fun r : Nat => Value.int .u8 (r : Int))) (h3 : Row1 2 w v3 (nums.map fun n : Int => Value.int .i64 n))
    (hw0 : 0 < ws.length) (hws : ∀ s ∈ ws, s.length ≤ 100000) (hr : ∀ r ∈ regs, r < 256) :
    Ret Tryz.prog 16 [.int .u8 op, v1, v2, v3] w fun v w' => Kept none' w w' ∧ LL w' v (fillR op ws regs nums) := by
  refine ret_of_W Tryz.func16 rfl ok_tipstaffref23_fill ?_
  have ek := rOf_T w ho
  have hl1 := row1_len h1
  have hl2 := row1_len h2
  have hl3 := row1_len h3
  rw [List.length_map] at hl1 hl2 hl3
  have hv1 := rowVar h1
  have hv2 := rowVar h2
  have hv3 := rowVar h3
  unfold fillR
  generalize hp : partsOf op = p at *
  simp only [c_tipstaffref23_fill, W_seq, W_set]
  refine ok_intro (.slice none 0 0) (by simp) ?_
  try simp only [W_seq]
  refine W_calm (by simp) (ret_of_T ek) ?_
  intro w1 hk1
  try simp only [W_seq]
  refine W_new' (v := Parts.zero.val) (cs := Parts.zero.arr) (by simp; rfl) rfl ?_
  have hP2 : (w1.alloc (.cells Parts.zero.arr 66)).heap[w1.heap.size]? = some (.cells Parts.zero.arr 66 (0, 0)) := hp_new w1 _
  have hk2 : Kept none' w (w1.alloc (.cells Parts.zero.arr 66)) := hk1.alloc _
  have hlo := hk1.size
  generalize (w1.alloc (.cells Parts.zero.arr 66)) = w2 at *
  generalize w1.heap.size = bp at *
  have hst := box_store (v := p.val) hP2 (n := 5) (by simp) (by simp [Value.cells]) (by exact parts_one p)
  refine W_store (vv := p.val) (by simp) (by simp) hst (stab_nil _ _ _) ?_
  have hk3 := hk2.putNew hlo (.cells p.arr 66 (0, 0))
  have hP3 : (put w2 bp (.cells p.arr 66 (0, 0))).heap[bp]? = some (.cells p.arr 66 (0, 0)) := put_same (blk_lt hP2)
  have hpc : p.val.cells = p.arr := rfl
  rw [hpc]
  generalize put w2 bp (.cells p.arr 66 (0, 0)) = w3 at *
  clear hst hP2 hk2 hpc
  have hc0 : wcell w3 bp 0 = some (.int .i64 p.kind) := by rw [wcell_of hP3]; rfl
  by_cases hbad : p.kind = 0 ∨ p.kind = 10
  · rw [if_pos hbad]
    try simp only [W_seq]
    refine W_yes ?_ ?_
    · rcases hbad with h | h <;> simp [hc0, h, pickV_bool]
    simp
    exact ⟨hk3, ll_nil _⟩
  rw [if_neg hbad]
  simp only [not_or] at hbad
  try simp only [W_seq]
  refine W_no (by simp [hc0, hbad.1, hbad.2, pickV_bool]) ?_
  simp only [W_skip, W_seq]
  refine W_chkIn [(Ins.mk op 0 0 0 0).val] (by simp; try rfl) ?_
  simp only [W_seq]
  refine W_new' (v := Ins.zero.val) (cs := Ins.zero.arr) (by simp; try rfl) rfl ?_
  have hX4 : AtB (w3.alloc (.cells Ins.zero.arr 39)) w3.heap.size Ins.zero := hp_new w3 _
  have hP4 := ((Kept.refl none' w3).alloc (.cells Ins.zero.arr 39)).has hP3 (fun h => h)
  have hk4 : Kept none' w (w3.alloc (.cells Ins.zero.arr 39)) := hk3.alloc _
  have hlx := hk3.size
  have hlt := blk_lt hP3
  generalize (w3.alloc (.cells Ins.zero.arr 39)) = w4 at *
  generalize w3.heap.size = bx at *
  have hst := box_store (v := (Ins.mk op 0 0 0 0).val) hX4 (n := 5) (by simp) (by simp [Value.cells]) (by exact ins_one _)
  refine W_store (vv := (Ins.mk op 0 0 0 0).val) (by simp) (by simp; rfl) hst (stab_nil _ _ _) ?_
  have hst5 : St w (put w4 bx (.cells (Ins.mk op 0 0 0 0).arr 39 (0, 0))) bp bx p ⟨op, 0, 0, 0, 0⟩ :=
    ⟨hk4.putNew hlx _, by rw [put_other (by omega)]; exact hP4, put_same (blk_lt hX4), hlo, hlx⟩
  have hpc : (Ins.mk op 0 0 0 0).val.cells = (Ins.mk op 0 0 0 0).arr := rfl
  rw [hpc]
  generalize put w4 bx (.cells (Ins.mk op 0 0 0 0).arr 39 (0, 0)) = w5 at *
  clear hst hX4 hP4 hP3 hk4 hpc hc0 hk3 hlt
  -- the registers
  simp only [W_seq]
  refine W_cut (fun env w' => St w w' bp bx p ⟨op, regs.getD 0 0, 0, 0, 0⟩ ∧ env = [.int .u8 op, v1, v2, v3, .slice none 0 0, p.val, .pointer (some ⟨bp, 0, none⟩), .pointer (some ⟨bx, 0, none⟩), undef, undef, undef, undef, undef, undef, undef, undef, undef, undef, undef, undef, undef, undef, undef, undef, undef, undef, undef, undef, undef, undef, undef, undef, undef, undef, undef]) ?_ ?_
  · refine W_cond (t := decide (0 < regs.length)) (by simp [hl2, hv2]) ?_ ?_
    · intro h
      have h0 : 0 < regs.length := by simpa using h
      have h0' : (0 : Int) < regs.length := by omega
      obtain ⟨g, c, rfl, hc⟩ := row1_ix h2 (i := 0) (x := .int .u8 (regs.getD 0 0 : Nat)) (by rw [List.getElem?_map, List.getElem?_eq_getElem h0]; simp [List.getElem?_eq_getElem h0])
      obtain ⟨w6, hs6, hst6⟩ := hst5.put 1 (by omega) (v := .int .u8 (regs.getD 0 0 : Nat)) (y := ⟨op, regs.getD 0 0, 0, 0, 0⟩) rfl rfl rfl
      refine W_store (by simp) (by simp [h0, wcell_calm hst5.kept hc]) hs6 (stab_nil _ _ _) ?_
      simp
      exact hst6
    · intro h
      have h0 : regs.length = 0 := by simpa using h
      have hg : regs.getD 0 0 = 0 := by rw [List.length_eq_zero_iff.1 h0]; rfl
      rw [hg]
      simp
      exact hst5
  rintro _ w6 ⟨hst6, rfl⟩
  simp only [W_seq]
  refine W_cut (fun env w' => St w w' bp bx p ⟨op, regs.getD 0 0, regs.getD 1 0, 0, 0⟩ ∧ env = [.int .u8 op, v1, v2, v3, .slice none 0 0, p.val, .pointer (some ⟨bp, 0, none⟩), .pointer (some ⟨bx, 0, none⟩), undef, undef, undef, undef, undef, undef, undef, undef, undef, undef, undef, undef, undef, undef, undef, undef, undef, undef, undef, undef, undef, undef, undef, undef, undef, undef, undef]) ?_ ?_
  · refine W_cond (t := decide (1 < regs.length)) (by simp [hl2, hv2]; omega) ?_ ?_
    · intro h
      have h0 : 1 < regs.length := by simpa using h
      have h0' : (1 : Int) < regs.length := by omega
      obtain ⟨g, c, rfl, hc⟩ := row1_ix h2 (i := 1) (x := .int .u8 (regs.getD 1 0 : Nat)) (by rw [List.getElem?_map, List.getElem?_eq_getElem h0]; simp [List.getElem?_eq_getElem h0])
      obtain ⟨w7, hs7, hst7⟩ := hst6.put 2 (by omega) (v := .int .u8 (regs.getD 1 0 : Nat)) (y := ⟨op, regs.getD 0 0, regs.getD 1 0, 0, 0⟩) rfl rfl rfl
      refine W_store (by simp) (by simp [h0', wcell_calm hst6.kept hc]) hs7 (stab_nil _ _ _) ?_
      simp
      exact hst7
    · intro h
      have h0 : ¬ 1 < regs.length := by simpa using h
      have hg : regs.getD 1 0 = 0 := by rw [List.getD_eq_getElem?_getD, List.getElem?_eq_none (by omega)]; rfl
      rw [hg]
      simp
      exact hst6
  rintro _ w7 ⟨hst7, rfl⟩
  clear hst5 hst6 hlo hlx hk1 ek
  generalize hx : Ins.mk op (regs.getD 0 0) (regs.getD 1 0) 0 0 = x at *
  have hxf : x.imm = 0 ∧ x.off = 0 := by subst hx; exact ⟨rfl, rfl⟩
  have hc7 := hst7.kind
  unfold fillI
  simp only [W_seq]
  by_cases h9 : p.kind = 9
  · rw [if_pos h9]
    refine W_yes (by simp [hc7, h9]) ?_
    rw [W_seq]
    obtain ⟨s0, hs0⟩ : ∃ s0, ws[0]? = some s0 := ⟨ws[0], List.getElem?_eq_getElem hw0⟩
    obtain ⟨g1, c1, hv1', hc1⟩ := row1_ix h1 (i := 0) (x := strV s0) (by rw [List.getElem?_map, hs0]; rfl)
    rw [List.length_map] at hv1'
    have hc1 := wcell_calm hst7.kept hc1
    have hw0' : (0 : Int) < ws.length := by omega
    have em := us_eql s0 [109, 97, 112]
    have ew := us_neq s0 [119, 105, 100, 101]
    rw [hs0]
    by_cases hmap : some s0 = some [109, 97, 112] ∧ nums.length = 1 ∧ 0 ≤ nums.headD 0 ∧ nums.headD 0 < 4
    · rw [if_pos hmap]
      simp only [W_seq]
      obtain ⟨hm, hn1, ha0, ha4⟩ := hmap
      obtain ⟨a, rfl⟩ : ∃ a, nums = [a] := by
        match nums, hn1 with
        | [a], _ => exact ⟨a, rfl⟩
      obtain rfl : s0 = [109, 97, 112] := by simpa using hm
      obtain ⟨g3, c3, rfl, hc3⟩ := row1_ix h3 (i := 0) (x := .int .i64 a) rfl
      have hc3' := wcell_calm hst7.kept hc3
      simp at ha0 ha4
      subst hv1'
      have e32 : IntKind.i32.wrap a = a := i32w (by omega) (by omega)
      simp [hw0, hw0', hc1, hc3', mk_us, em, ha0, ha4]
      refine W_yes (by simp [hw0, hw0', hc1, hc3', mk_us, em, ha0, ha4]) ?_
      have hst8 : St w w7.drew bp bx p x := hst7.calm (Kept.refl none' w7).drew
      simp only [W_seq, W_draw, W_set]
      refine ok_intro (.int .i32 a) (by simp [hc3', e32]) ?_
      obtain ⟨w9, hs9, hst9⟩ := hst8.put 2 (by omega) (v := .int .u8 1) (y := { x with src := 1 }) rfl rfl rfl
      obtain ⟨w10, hs10, hst10⟩ := hst9.put 4 (by omega) (v := .int .i32 a) (y := { x with src := 1, imm := a }) rfl rfl rfl
      try simp only [W_seq]
      refine W_store (by simp) (by simp) hs9 ?_ ?_
      · intro e he v hv
        simp at he
        subst he
        simp [hc3'] at hv
        simp [wcell_calm hst9.kept hc3, hv]
      refine W_store (by simp) (by simp) hs10 (stab_nil _ _ _) ?_
      have hrow := hst10.row
      simp only [W_seq]
      refine W_row' (v := .agg (insCells [{ x with src := 1, imm := a }, Ins.zero]).toArray) (cs := (insCells [{ x with src := 1, imm := a }, Ins.zero]).toArray) ?_ rfl ?_
      · simp [hrow]
        exact ⟨by rw [Go.Eng.setRow_size]; decide, rfl⟩
      have hin := ins_new w10 [{ x with src := 1, imm := a }, Ins.zero] (by simp)
      have hk11 := hst10.kept.alloc (.cells (insCells [{ x with src := 1, imm := a }, Ins.zero]).toArray 39)
      generalize (w10.alloc (.cells (insCells [{ x with src := 1, imm := a }, Ins.zero]).toArray 39)) = w11 at *
      generalize w10.heap.size = b11 at *
      simp only [W_seq]
      refine W_row' (v := .agg #[.slice (some ⟨b11, 0, none⟩) 2 2]) (cs := #[.slice (some ⟨b11, 0, none⟩) 2 2]) (by simp) rfl ?_
      simp
      exact ⟨hk11.alloc _, ll_one hin⟩
    rw [if_neg hmap]
    refine W_cut (fun env w' => w' = w7 ∧ env = [.int .u8 op, v1, v2, v3, .slice none 0 0, p.val, .pointer (some ⟨bp, 0, none⟩), .pointer (some ⟨bx, 0, none⟩), undef, undef, undef, undef, undef, undef, undef, undef, undef, undef, undef, undef, undef, undef, undef, undef, undef, undef, undef, undef, undef, undef, undef, undef, undef, undef, undef]) ?_ ?_
    · subst hv1'
      simp only [W_seq]
      by_cases hm : s0 = [109, 97, 112]
      · subst hm
        match nums, h3, hmap with
        | [], h3, _ =>
          simp [hw0, hw0', hc1, mk_us, em, hl3, hv3]
          refine W_no (by simp [hw0, hw0', hc1, mk_us, em, hl3, hv3]) (by simp)
        | [a], h3, hmap =>
          obtain ⟨g3, c3, rfl, hc3⟩ := row1_ix h3 (i := 0) (x := .int .i64 a) rfl
          have hc3' := wcell_calm hst7.kept hc3
          by_cases ha0 : 0 ≤ a
          · have ha4 : ¬ a < 4 := fun h => hmap ⟨rfl, rfl, ha0, h⟩
            simp [hw0, hw0', hc1, mk_us, em, hc3', ha0, ha4]
            refine W_no (by simp [hw0, hw0', hc1, mk_us, em, hc3', ha0, ha4]) (by simp)
          · simp [hw0, hw0', hc1, mk_us, em, hc3', ha0]
            refine W_no (by simp [hw0, hw0', hc1, mk_us, em, hc3', ha0]) (by simp)
        | a :: b :: r, h3, _ =>
          have hn : ¬ ((r.length : Int) + 1 + 1 = 1) := by omega
          simp [hw0, hw0', hc1, mk_us, em, hl3, hv3, hn]
          refine W_no (by simp [hw0, hw0', hc1, mk_us, em, hl3, hv3, hn]) (by simp)
      · have em' : strBin .eql (us s0) (us [109, 97, 112]) = some (.bool false) := by rw [em, decide_eq_false hm]
        simp [hw0, hw0', hc1, mk_us, em']
        refine W_no (by simp [hw0, hw0', hc1, mk_us, em']) (by simp)
    rintro _ w71 ⟨rfl, rfl⟩
    simp only [W_seq, W_set]
    refine ok_intro (.int .u64 0) (by simp) ?_
    try simp only [W_seq]
    have hg2 : ∀ s2, ws[2]? = some s2 → wcell w71 g1 2 = some (strV s2) := by
      intro s2 hs2
      obtain ⟨g, c, e, hc⟩ := row1_ix h1 (i := 2) (x := strV s2) (by rw [List.getElem?_map, hs2]; rfl)
      rw [hv1'] at e
      simp at e
      rw [e.1]
      exact wcell_calm hst7.kept hc
    by_cases hbad2 : some s0 ≠ some [119, 105, 100, 101] ∨ ws.length ≠ 3 ∨ 20 < (ws.getD 2 []).length
    · rw [if_pos hbad2]
      subst hv1'
      by_cases hwd : s0 = [119, 105, 100, 101]
      · by_cases hl : ws.length = 3
        · obtain ⟨s2, hs2⟩ : ∃ s2, ws[2]? = some s2 := ⟨ws[2], List.getElem?_eq_getElem (by omega)⟩
          have hgd : ws.getD 2 [] = s2 := by rw [List.getD_eq_getElem?_getD, hs2]; rfl
          have h20 : 20 < s2.length := by
            rw [hgd] at hbad2
            rcases hbad2 with h | h | h
            · exact absurd (by rw [hwd]) h
            · exact absurd hl h
            · exact h
          have h20' : (20 : Int) < s2.length := by omega
          have hc2 := hg2 s2 hs2
          have ew' : strBin .neq (us s0) (us [119, 105, 100, 101]) = some (.bool false) := by rw [ew, decide_eq_true hwd]; rfl
          simp [hc1, hc2, mk_us, ew', hl, h20']
          refine W_yes (by simp [hc1, hc2, mk_us, ew', hl, h20']) ?_
          simp
          exact ⟨hst7.kept, ll_nil _⟩
        · have hl' : ¬ (ws.length : Int) = 3 := by omega
          have ew' : strBin .neq (us s0) (us [119, 105, 100, 101]) = some (.bool false) := by rw [ew, decide_eq_true hwd]; rfl
          simp [hw0, hw0', hc1, mk_us, ew', hl, hl']
          refine W_yes (by simp [hw0, hw0', hc1, mk_us, ew', hl, hl']) ?_
          simp
          exact ⟨hst7.kept, ll_nil _⟩
      · have ew' : strBin .neq (us s0) (us [119, 105, 100, 101]) = some (.bool true) := by rw [ew, decide_eq_false hwd]; rfl
        simp [hw0, hw0', hc1, mk_us, ew']
        refine W_yes (by simp [hw0, hw0', hc1, mk_us, ew']) ?_
        simp
        exact ⟨hst7.kept, ll_nil _⟩
    rw [if_neg hbad2]
    simp only [not_or, Decidable.not_not] at hbad2
    obtain ⟨hwd, hl, h20⟩ := hbad2
    obtain rfl : s0 = [119, 105, 100, 101] := by simpa using hwd
    obtain ⟨s2, hs2⟩ : ∃ s2, ws[2]? = some s2 := ⟨ws[2], List.getElem?_eq_getElem (by omega)⟩
    have hgd : ws.getD 2 [] = s2 := by rw [List.getD_eq_getElem?_getD, hs2]; rfl
    rw [hgd] at h20 ⊢
    have h20' : ¬ (20 : Int) < s2.length := by omega
    have hc2 := hg2 s2 hs2
    simp at ew
    subst hv1'
    refine W_cut (fun env w8 => w8 = w71 ∧ env = [.int .u8 op, .slice (some ⟨g1, 0, none⟩) ws.length c1, v2, v3, .slice none 0 0, p.val, .pointer (some ⟨bp, 0, none⟩), .pointer (some ⟨bx, 0, none⟩), undef, undef, undef, .int .u64 0, undef, undef, undef, undef, undef, undef, undef, undef, undef, undef, undef, undef, undef, undef, undef, undef, undef, undef, undef, undef, undef, undef, undef]) ?_ ?_
    · simp [hc1, hc2, mk_us, ew, hl, h20']
    rintro _ w72 ⟨rfl, rfl⟩
    refine W_no (by simp [hc1, hc2, mk_us, ew, hl, h20']) ?_
    simp only [W_skip, W_seq, W_set]
    refine ok_intro (.int .i64 0) (by simp) ?_
    try simp only [W_seq, W_block]
    refine W_loop (fun env w8 => w8 = w72 ∧ ∃ i : Nat, i ≤ s2.length ∧ env = [undef, .slice (some ⟨g1, 0, none⟩) ws.length c1, undef, undef, undef, undef, undef, .pointer (some ⟨bx, 0, none⟩), undef, undef, undef, .int .u64 (rwdN (s2.take i)), .int .i64 i, undef, undef, undef, undef, undef, undef, undef, undef, undef, undef, undef, undef, undef, undef, undef, undef, undef, undef, undef, undef, undef, undef]) (fun env _ => s2.length - natAt env 12) ?_ ?_
    · exact ⟨rfl, 0, by omega, by simp [rwdN]⟩
    rintro env w8 ⟨rfl, i, hi, rfl⟩
    simp only [W_seq]
    by_cases hgo : i < s2.length
    · have hgo' : (i : Int) < s2.length := by omega
      have hge : (0 : Int) ≤ i := by omega
      refine W_yes (by simp [hc2, hl, hgo']) ?_
      simp only [W_skip, W_seq, W_block]
      have e1 : IntKind.i64.wrap ((i : Int) + 1) = ((i + 1 : Nat) : Int) := i64w (by omega) (by omega)
      have hdi : s2[i]? = some s2[i] := List.getElem?_eq_getElem hgo
      have htake : s2.take (i + 1) = s2.take i ++ [s2[i]] := by rw [List.take_add_one, hdi]; rfl
      generalize s2[i] = d at *
      have e2 := u8m d.toNat
      have e3 := u64m ((d.toNat + 208) % 256)
      have e4 := u64m (10 * rwdN (s2.take i))
      have e5 := u64m ((10 * rwdN (s2.take i)) % 18446744073709551616 + (d.toNat + 208) % 256)
      rw [Nat.mod_eq_of_lt (show (d.toNat + 208) % 256 < 18446744073709551616 by omega)] at e3
      rw [← rwdN_next, ← htake] at e5
      generalize hq : rwdN (s2.take i) = q at *
      simp [hc2, hl, hge, us_arr, hdi, e1, e2, e3, -Int.natCast_add, -Int.natCast_emod]
      rw [show (10 : Int) * (q : Int) = ((10 * q : Nat) : Int) from by simp, e4, ← Int.natCast_add, e5]
      exact ⟨⟨i + 1, by omega, rfl, rfl⟩, by simp [natAt]; omega⟩
    · have hil : i = s2.length := by omega
      subst hil
      refine W_no (by simp [hc2, hl]) ?_
      rw [List.take_length]
      have hn := rwdN_lt s2
      generalize rwdN s2 = n at *
      simp
      obtain ⟨w9, hs9, hst9⟩ := hst7.put 4 (by omega) (v := .int .i32 (i32c n)) (y := { x with imm := i32c n }) rfl rfl rfl
      try simp only [W_seq]
      refine W_store (vv := .int .i32 (i32c n)) (by simp) (by simp; rfl) hs9 (stab_nil _ _ _) ?_
      have hrow := hst9.row
      have hmin : min 32 (IntKind.bits .u64) = 32 := rfl
      have hfd : (n : Int).fdiv 4294967296 = ((n / 4294967296 : Nat) : Int) := nat_fdiv _ 4294967296
      try simp only [W_seq]
      refine W_chkIn [(Ins.mk 0 0 0 0 (i32c (n / 4294967296))).val] ?_ ?_
      · simp only [evs, Ex.ev, U1.ap, U2.ap, Option.bind_some]
        simp [hmin]
        rw [hfd]
        rfl
      simp only [W_seq]
      refine W_row' (v := .agg (insCells [{ x with imm := i32c n }, { Ins.zero with imm := i32c (n / 4294967296) }]).toArray) (cs := (insCells [{ x with imm := i32c n }, { Ins.zero with imm := i32c (n / 4294967296) }]).toArray) ?_ rfl ?_
      · simp [hrow, hmin]
        rw [hfd]
        exact ⟨by rw [Go.Eng.setRow_size]; decide, rfl⟩
      have hin := ins_new w9 [{ x with imm := i32c n }, { Ins.zero with imm := i32c (n / 4294967296) }] (by simp)
      have hk11 := hst9.kept.alloc (.cells (insCells [{ x with imm := i32c n }, { Ins.zero with imm := i32c (n / 4294967296) }]).toArray 39)
      generalize (w9.alloc (.cells (insCells [{ x with imm := i32c n }, { Ins.zero with imm := i32c (n / 4294967296) }]).toArray 39)) = w11 at *
      generalize w9.heap.size = b11 at *
      try simp only [W_seq]
      refine W_row' (v := .agg #[.slice (some ⟨b11, 0, none⟩) 2 2]) (cs := #[.slice (some ⟨b11, 0, none⟩) 2 2]) (by simp) rfl ?_
      simp
      exact ⟨hk11.alloc _, ll_one hin⟩
  rw [if_neg h9]
  refine W_no (by simp [hc7, h9]) ?_
  simp only [W_skip, W_seq, W_set]
  refine ok_intro (.slice none 0 0) (by simp) ?_
  try simp only [W_seq, W_set]
  refine ok_intro (.int .i64 0) (by simp) ?_
  try simp only [W_seq, W_set]
  refine ok_intro (.int .i64 0) (by simp) ?_
  try simp only [W_seq]
  refine W_cut (fun env w' => St w w' bp bx p x ∧ ∃ x18 x19 x20 x21, env = [.int .u8 op, v1, v2, v3, .slice none 0 0, p.val, .pointer (some ⟨bp, 0, none⟩), .pointer (some ⟨bx, 0, none⟩), undef, undef, undef, undef, undef, undef, undef, .slice none 0 0, .int .i64 (immOff p nums).1, .int .i64 (immOff p nums).2, x18, x19, x20, x21, undef, undef, undef, undef, undef, undef, undef, undef, undef, undef, undef, undef, undef]) ?_ ?_
  · simp only [W_block, W_seq]
    have hst8 : St w w7.drew bp bx p x := hst7.calm (Kept.refl none' w7).drew
    match nums, h3, hl3 with
    | [], h3, hl3 =>
      simp at hl3
      simp [hl3, hv3]
      refine W_no (by simp) ?_
      simp [hl3, hv3]
      refine W_no (by simp) ?_
      simp [hl3, hv3]
      refine W_no (by simp) ?_
      simp [hl3, hv3]
      refine W_no (by simp) ?_
      simp [immOff]
      exact hst7
    | [a], h3, hl3 =>
      obtain ⟨g3, c3, rfl, hc3⟩ := row1_ix h3 (i := 0) (x := .int .i64 a) rfl
      have hc3' := wcell_calm hst7.kept hc3
      simp
      refine W_no (by simp) ?_
      simp
      refine W_no (by simp) ?_
      simp
      by_cases h14 : p.kind = 1 ∨ p.kind = 4
      · refine ok_intro (.bool true) (by rcases h14 with h | h <;> simp [hc7, h, pickV_bool]) ?_
        refine W_yes (by simp) ?_
        simp [immOff, h14, hc3']
        exact hst7
      · have h14' := h14
        simp only [not_or] at h14'
        refine ok_intro (.bool false) (by simp [hc7, h14'.1, h14'.2, pickV_bool]) ?_
        refine W_no (by simp) ?_
        simp
        refine W_yes (by simp) ?_
        simp [immOff, h14, hc3']
        exact hst7
    | [a, b], h3, hl3 =>
      obtain ⟨g3, c3, rfl, hc3⟩ := row1_ix h3 (i := 0) (x := .int .i64 a) rfl
      obtain ⟨g3', c3', e, hc3b⟩ := row1_ix h3 (i := 1) (x := .int .i64 b) rfl
      simp at e
      obtain ⟨rfl, rfl⟩ := e
      have hc3 := wcell_calm hst7.kept hc3
      have hc3b := wcell_calm hst7.kept hc3b
      by_cases h7 : p.kind = 7
      · simp [hc7, h7]
        refine W_yes (by simp) ?_
        simp [hc3, hc3b, immOff, h7]
        exact hst8
      · simp [hc7, h7]
        refine W_no (by simp) ?_
        simp
        refine W_yes (by simp) ?_
        simp [hc3, hc3b, immOff, h7]
        exact hst8
    | a :: b :: c :: r, h3, hl3 =>
      have hn2 : ¬ ((r.length : Int) + 1 + 1 + 1 = 2) := by omega
      have hn1 : ¬ ((r.length : Int) + 1 + 1 + 1 = 1) := by omega
      simp at hl3
      simp [hl3, hv3, hn1, hn2]
      refine W_no (by simp) ?_
      simp [hl3, hv3, hn1, hn2]
      refine W_no (by simp) ?_
      simp [hl3, hv3, hn1, hn2]
      refine W_no (by simp) ?_
      simp [hl3, hv3, hn1, hn2]
      refine W_no (by simp) ?_
      simp [immOff]
      exact hst7
  rintro _ w8 ⟨hst8, x18, x19, x20, x21, rfl⟩
  generalize immOff p nums = io at *
  obtain ⟨im, of⟩ := io
  simp only
  try simp only [W_seq]
  by_cases hrng : im < -2147483648 ∨ 2147483648 ≤ im ∨ of < -32768 ∨ 32768 ≤ of
  · rw [if_pos hrng]
    refine W_yes ?_ ?_
    · by_cases a1 : im < -2147483648
      · simp [a1, pickV_bool]
      · by_cases a2 : 2147483648 ≤ im
        · simp [a1, a2, pickV_bool]
        · by_cases a3 : of < -32768
          · simp [a1, a2, a3, pickV_bool]
          · have a4 : 32768 ≤ of := by omega
            simp [a1, a2, a3, a4, pickV_bool]
    simp
    exact ⟨hst8.kept, ll_nil _⟩
  rw [if_neg hrng]
  simp only [not_or, Int.not_lt, Int.not_le] at hrng
  obtain ⟨a1, a2, a3, a4⟩ := hrng
  have b1 : ¬ im < -2147483648 := by omega
  have b2 : ¬ 2147483648 ≤ im := by omega
  have b3 : ¬ of < -32768 := by omega
  have b4 : ¬ 32768 ≤ of := by omega
  refine W_no (by simp [b1, b2, b3, b4, pickV_bool]) ?_
  have e32 : IntKind.i32.wrap im = im := i32w (by omega) (by omega)
  have e16 : IntKind.i16.wrap of = of := i16w (by omega) (by omega)
  simp only [W_skip, W_seq]
  refine W_chkIn [.int .i32 im] (by simp [e32]) ?_
  simp only [W_seq, W_set]
  refine ok_intro (.int .i16 of) (by simp [e16]) ?_
  try simp only [W_seq]
  obtain ⟨w9, hs9, hst9⟩ := hst8.put 4 (by omega) (v := .int .i32 im) (y := { x with imm := im }) rfl rfl rfl
  refine W_store (vv := .int .i32 im) (by simp) (by simp [e32]) hs9 (stab_nil _ _ _) ?_
  obtain ⟨w10, hs10, hst10⟩ := hst9.put 3 (by omega) (v := .int .i16 of) (y := { x with imm := im, off := of }) rfl rfl rfl
  refine W_store (vv := .int .i16 of) (by simp) (by simp) hs10 (stab_nil _ _ _) ?_
  rw [show (([64, 80, 160] : List Int).map fun n : Int => [({ x with imm := n, off := of } : Ins)]) = ([64, 80, 160] : List Int).map (fun n : Int => [{ ({ x with imm := im, off := of } : Ins) with imm := n }]) from rfl]
  generalize ({ x with imm := im, off := of } : Ins) = y at *
  have hrow := hst10.row
  simp only [W_seq]
  refine W_chkIn [.slice none 0 0] (by simp) ?_
  simp only [W_seq]
  refine W_row' (v := .agg (insCells [y]).toArray) (cs := (insCells [y]).toArray) (by simp [hrow]; rfl) rfl ?_
  have hin := ins_new w10 [y] (by simp)
  have hst11 := hst10.calm ((Kept.refl none' w10).alloc (.cells (insCells [y]).toArray 39))
  generalize (w10.alloc (.cells (insCells [y]).toArray 39)) = w11 at *
  generalize w10.heap.size = b11 at *
  simp only [W_seq]
  refine W_push (x := .slice (some ⟨b11, 0, none⟩) 1 1) (xs := []) (v := .slice none 0 0) Tryz.underlying48 (by kernel_rfl) (row1_nil _ _) (by simp) rfl (by simp) rfl (by simp) ?_
  intro v15 w12 hrow12 hk12 hown12
  have hk12' : Kept none' w11 w12 := hk12.mono fun j _ h => by simp [Value.ownBlock] at h
  have hst12 := hst11.calm hk12'
  have hll : LL w12 v15 [[y]] := ll_push (ls := []) (row1_nil _ w11) rfl (fun i vi xs hv => by simp at hv) hin hk12 hrow12
  have hown : ∀ j, v15.ownBlock = some j → w.heap.size ≤ j := fun j hj => (hown12 j hj).elim (fun h => by simp [Value.ownBlock] at h) fun h => by have := hst11.kept.size; omega
  have hv15 := rowVar hrow12
  simp only [W_set]
  refine ok_intro v15 (by simp [hv15]) ?_
  try simp only [W_seq]
  refine W_row' (v := .agg #[.int .i32 64, .int .i32 80, .int .i32 160]) (cs := #[.int .i32 64, .int .i32 80, .int .i32 160]) (by simp) rfl ?_
  have h26 := hp_new w12 (.cells #[.int .i32 64, .int .i32 80, .int .i32 160] 21)
  have hka := (Kept.refl none' w12).alloc (.cells #[.int .i32 64, .int .i32 80, .int .i32 160] 21)
  have hst13 := hst12.calm hka
  have hll13 := hll.calm hka
  have hlo26 := hst12.kept.size
  generalize (w12.alloc (.cells #[.int .i32 64, .int .i32 80, .int .i32 160] 21)) = w13 at *
  generalize w12.heap.size = b26 at *
  clear hrow12 hk12 hown12 hk12' hrow hin hll hst12 hst11 hst10 hst9 hst8 hst7 hs9 hs10
  simp only [W_seq, W_set]
  refine ok_intro (.int .i64 3) (by simp) ?_
  try simp only [W_seq, W_set]
  refine ok_intro (.int .i64 0) (by simp) ?_
  try simp only [W_seq, W_block]
  refine W_loop (fun env w' => ∃ (i : Nat) (v : Value), i ≤ 3 ∧ St w w' bp bx p y ∧ w'.heap[b26]? = some (.cells #[.int .i32 64, .int .i32 80, .int .i32 160] 21 (0, 0)) ∧ LL w' v ([y] :: (if p.kind = 8 then at3 y i else [])) ∧ (∀ j, v.ownBlock = some j → w.heap.size ≤ j) ∧
    env = [undef, undef, undef, undef, undef, undef, .pointer (some ⟨bp, 0, none⟩), .pointer (some ⟨bx, 0, none⟩), undef, undef, undef, undef, undef, undef, undef, v, undef, undef, undef, undef, undef, undef, undef, undef, undef, undef, .slice (some ⟨b26, 0, none⟩) 3 3, .int .i64 i, .int .i64 3, undef, undef, undef, undef, undef, undef]) (fun env _ => 3 - natAt env 27) ?_ ?_
  · exact ⟨0, v15, by omega, hst13, h26, by simpa [at3] using hll13, hown, by simp⟩
  clear hst13 h26 hll13 hown hv15
  rintro env w14 ⟨i, v, hi, hst14, h26, hll, hown, rfl⟩
  simp only [W_seq]
  by_cases hgo : i < 3
  · have hgo' : (i : Int) < 3 := by omega
    have hge : (0 : Int) ≤ i := by omega
    have e1 : IntKind.i64.wrap ((i : Int) + 1) = ((i + 1 : Nat) : Int) := i64w (by omega) (by omega)
    obtain ⟨n, hn⟩ : ∃ n, ([64, 80, 160] : List Int)[i]? = some n := ⟨_, List.getElem?_eq_getElem (by simpa using hgo)⟩
    have htk : ([64, 80, 160] : List Int).take (i + 1) = ([64, 80, 160] : List Int).take i ++ [n] := by rw [List.take_add_one, hn]; rfl
    have hc26 : wcell w14 b26 i = some (.int .i32 n) := by
      rw [wcell_of h26]
      match i, hgo, hn with
      | 0, _, hn => simp at hn; subst hn; rfl
      | 1, _, hn => simp at hn; subst hn; rfl
      | 2, _, hn => simp at hn; subst hn; rfl
    refine W_yes (by simp [hgo']) ?_
    simp only [W_skip, W_seq, W_block, W_set]
    refine ok_intro (.int .i32 n) (by simp [hge, hgo', hc26]) ?_
    by_cases h8 : p.kind = 8
    · rw [if_pos h8] at hll
      refine W_yes (by simp [hst14.kind, h8]) ?_
      simp only [W_seq, W_set]
      refine ok_intro y.val (by simp [hst14.row]) ?_
      try simp only [W_seq]
      refine W_new' (v := Ins.zero.val) (cs := Ins.zero.arr) (by simp; try rfl) rfl ?_
      have hZ := hp_new w14 (.cells Ins.zero.arr 39)
      have hka := (Kept.refl none' w14).alloc (.cells Ins.zero.arr 39)
      generalize (w14.alloc (.cells Ins.zero.arr 39)) = w15 at *
      generalize hz : w14.heap.size = bz at *
      have hs16 := box_store (v := y.val) hZ (n := 5) (by simp) (by simp [Value.cells]) (by exact ins_one _)
      refine W_store (vv := y.val) (by simp) (by simp) hs16 (stab_nil _ _ _) ?_
      have hyc : y.val.cells = y.arr := rfl
      rw [hyc]
      have hk16 := hka.putNew (show w14.heap.size ≤ bz from by omega) (.cells y.arr 39 (0, 0))
      have hZ16 : AtB (Eng.put w15 bz (.cells y.arr 39 (0, 0))) bz y := put_same (blk_lt hZ)
      generalize Eng.put w15 bz (.cells y.arr 39 (0, 0)) = w16 at *
      obtain ⟨w17, hs17, hZ17, hkb⟩ := ins_put hZ16 4 (by omega) (v := .int .i32 n) rfl rfl
      have hZ17 : AtB w17 bz { y with imm := n } := hZ17
      try simp only [W_seq]
      refine W_store (vv := .int .i32 n) (by simp) (by simp) hs17 (stab_nil _ _ _) ?_
      have hk17 : Kept none' w14 w17 := hk16.then hkb fun j hj h => by omega
      have hrow := wrow_box hZ17 (n := 5) (by simp)
      have hst17 := hst14.calm hk17
      have hll17 := hll.calm hk17
      have h26' := hk17.has h26 (fun h => h)
      have hv := hll17.ex
      obtain ⟨vs, hvs1, hvs2, hvs3⟩ := hv
      have hvv := rowVar hvs1
      try simp only [W_seq]
      refine W_chkIn [v] (by simp [hvv]) ?_
      try simp only [W_seq]
      refine W_row' (v := .agg (insCells [{ y with imm := n }]).toArray) (cs := (insCells [{ y with imm := n }]).toArray) (by simp [hrow]; rfl) rfl ?_
      have hin := ins_new w17 [{ y with imm := n }] (by simp)
      have hkr := (Kept.refl none' w17).alloc (.cells (insCells [{ y with imm := n }]).toArray 39)
      generalize (w17.alloc (.cells (insCells [{ y with imm := n }]).toArray 39)) = w18 at *
      generalize w17.heap.size = b18 at *
      have hst18 := hst17.calm hkr
      have h26'' := hkr.has h26' (fun h => h)
      have hvs1' := rowCalm hvs1 hkr
      have hvs3' : ∀ (i : Nat) (vi : Value) (xs : List Ins), vs[i]? = some vi → _ → InsRow w18 vi xs := fun i vi xs a b => rowCalm (hvs3 i vi xs a b) hkr
      have hlen : vs.length = i + 1 := by rw [hvs2]; simp [at3]; omega
      try simp only [W_seq]
      refine W_push (x := .slice (some ⟨b18, 0, none⟩) 1 1) (xs := vs) (v := v) Tryz.underlying48 (by kernel_rfl) hvs1' (by omega) rfl (by simp) rfl (by simp [hvv]) ?_
      intro v' w19 hrow19 hk19 hown19
      have hne26 := row_ne hvs1' h26'' (by decide)
      have hnep := row_ne hvs1' hst18.hp (by decide)
      have hnex := row_ne hvs1' hst18.hx (by decide)
      have hst19 := hst18.keep hk19 hnep hnex hown
      have h26f := hk19.has h26'' hne26
      have hll19 := ll_push hvs1' hvs2 hvs3' hin hk19 hrow19
      have hv' := rowVar hrow19
      have hown' : ∀ j, v'.ownBlock = some j → w.heap.size ≤ j := fun j hj => (hown19 j hj).elim (hown j) fun h => by have := hst18.kept.size; omega
      simp [hv', e1, -Int.natCast_add]
      refine ⟨⟨i + 1, by omega, hst19, h26f, v', ?_, hown', rfl, rfl⟩, by simp [natAt]; omega⟩
      rw [if_pos h8, at3_next hn]
      exact hll19
    · refine W_no (by simp [hst14.kind, h8]) ?_
      rw [if_neg h8] at hll
      simp [e1, -Int.natCast_add]
      refine ⟨⟨i + 1, by omega, hst14, h26, v, ?_, hown, rfl, rfl⟩, by simp [natAt]; omega⟩
      rw [if_neg h8]
      exact hll
  · have hil : i = 3 := by omega
    subst hil
    refine W_no (by simp) ?_
    obtain ⟨vs, hvs1, hvs2, hvs3⟩ := hll.ex
    simp [rowVar hvs1]
    exact ⟨hst14.kept, hll⟩
end Go.Proofs.YtpannhipchnhaaaGreatDoor
