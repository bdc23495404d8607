/- Rows of numbers, sorted, each once: plain. -/
import Derived.Test.YtkgpmjjleemdlaaGreatSo3
import Derived.Test.YtkgpmjjleemdlaaGreatAs1
import Derived.Test.YtkgpmjjleemdlaaGreatCmdsSoj
set_option linter.unusedSimpArgs false
set_option linter.unusedVariables false
set_option maxRecDepth 8000
namespace Go.Proofs.YtkgpmjjleemdlaaGreat
open Go.Eng Go.Sort

/-- Rising, each once; just these. -/
structure Rises (r xs : List Int) : Prop where
  up : ∀ (i : Nat) (x y : Int), r[i]? = some x → r[i + 1]? = some y → x < y
  nodup : r.Nodup
  mem : ∀ x, x ∈ r ↔ x ∈ xs
theorem ddP_facts (d : Array Int) (hs : ∀ i, i + 1 < d.size → d[i]! ≤ d[i + 1]!) : ∀ n, n ≤ d.size →
    (∀ x, x ∈ ddP d n ↔ ∃ i, i < n ∧ d[i]! = x) ∧ (ddP d n).Pairwise (· < ·) ∧ ∀ x, x ∈ ddP d n → 0 < n ∧ x ≤ d[n - 1]! := by
  intro n
  induction n with
  | zero => intro _; simp [ddP]
  | succ n ih =>
    intro hn
    obtain ⟨h1, h2, h3⟩ := ih (by omega)
    have hle : 0 < n → d[n - 1]! ≤ d[n]! := fun h0 => by have := hs (n - 1) (by omega); rw [show n - 1 + 1 = n from by omega] at this; exact this
    rw [ddP]
    by_cases hc : 0 < n ∧ d[n]! = d[n - 1]!
    · rw [if_pos hc]
      refine ⟨fun x => ?_, h2, fun x hx => ?_⟩
      · rw [h1]
        constructor
        · rintro ⟨i, hi, e⟩; exact ⟨i, by omega, e⟩
        · rintro ⟨i, hi, e⟩
          by_cases hin : i = n
          · subst hin; exact ⟨i - 1, by omega, by rw [← hc.2, e]⟩
          · exact ⟨i, by omega, e⟩
      · have := h3 x hx
        refine ⟨by omega, ?_⟩
        rw [show n + 1 - 1 = n from by omega, hc.2]
        exact this.2
    · rw [if_neg hc]
      have hlt : ∀ x ∈ ddP d n, x < d[n]! := fun x hx => by
        obtain ⟨p1, p2⟩ := h3 x hx
        have q1 := hle p1
        have q2 : d[n]! ≠ d[n - 1]! := fun e => hc ⟨p1, e⟩
        omega
      refine ⟨fun x => ?_, ?_, fun x hx => ?_⟩
      · rw [List.mem_append, h1, List.mem_singleton]
        constructor
        · rintro (⟨i, hi, e⟩ | e)
          · exact ⟨i, by omega, e⟩
          · exact ⟨n, by omega, e.symm⟩
        · rintro ⟨i, hi, e⟩
          by_cases hin : i = n
          · subst hin; exact .inr e.symm
          · exact .inl ⟨i, by omega, e⟩
      · rw [List.pairwise_append]
        refine ⟨h2, by simp, fun x hx y hy => ?_⟩
        rw [List.mem_singleton] at hy
        subst hy
        exact hlt x hx
      · refine ⟨by omega, ?_⟩
        rw [show n + 1 - 1 = n from by omega]
        rcases List.mem_append.1 hx with hx | hx
        · exact Int.le_of_lt (hlt x hx)
        · rw [List.mem_singleton] at hx; omega
theorem rises (xs : List Int) : Rises (ddP (xs.mergeSort fun x y => decide (x ≤ y)).toArray (xs.mergeSort fun x y => decide (x ≤ y)).length) xs := by
  have hp := List.pairwise_mergeSort (le := fun x y : Int => decide (x ≤ y)) (by intro a b c; simp; omega) (by intro a b; simp; omega) xs
  have hm : ∀ x, x ∈ (xs.mergeSort fun x y => decide (x ≤ y)) ↔ x ∈ xs := fun x => List.mem_mergeSort
  generalize (xs.mergeSort fun x y => decide (x ≤ y)) = ys at *
  have hs : ∀ i, i + 1 < ys.toArray.size → ys.toArray[i]! ≤ ys.toArray[i + 1]! := by
    intro i hi
    simp at hi
    have := List.pairwise_iff_getElem.1 hp i (i + 1) (by omega) hi (by omega)
    have h1 : ys.toArray[i]! = ys[i] := by simp [show i < ys.length by omega]
    have h2 : ys.toArray[i + 1]! = ys[i + 1] := by simp [hi]
    rw [h1, h2]
    simpa using this
  obtain ⟨f1, f2, _⟩ := ddP_facts ys.toArray hs ys.length (by simp)
  refine ⟨fun i x y hx hy => ?_, f2.imp (fun h => by omega), fun x => ?_⟩
  · obtain ⟨hx1, rfl⟩ := List.getElem?_eq_some_iff.1 hx
    obtain ⟨hy1, rfl⟩ := List.getElem?_eq_some_iff.1 hy
    exact List.pairwise_iff_getElem.1 f2 i (i + 1) hx1 hy1 (by omega)
  · rw [f1, ← hm, List.mem_iff_getElem?]
    constructor
    · rintro ⟨i, hi, e⟩
      exact ⟨i, by rw [← e]; simp [hi]⟩
    · rintro ⟨i, hi⟩
      obtain ⟨h1, h2⟩ := List.getElem?_eq_some_iff.1 hi
      exact ⟨i, h1, by simp [h1, h2]⟩
theorem nodup_le : ∀ (a b : List Int), a.Nodup → (∀ x ∈ a, x ∈ b) → a.length ≤ b.length
  | [], b, _, _ => by simp
  | x :: r, b, hn, hs => by
    obtain ⟨b1, b2, rfl⟩ := List.append_of_mem (hs x (by simp))
    have hn' := List.nodup_cons.1 hn
    have := nodup_le r (b1 ++ b2) hn'.2 fun y hy => by
      have h1 := hs y (by simp [hy])
      rcases List.mem_append.1 h1 with h | h
      · exact List.mem_append.2 (.inl h)
      · rcases List.mem_cons.1 h with rfl | h
        · exact absurd hy hn'.1
        · exact List.mem_append.2 (.inr h)
    simp at this ⊢
    omega
/-- How many of the first n name something for the first time. -/
def seenB {α : Type} (key : α → Option Int) (l : List α) (n : Nat) (v : Int) : Bool := (l.take n).any fun y => decide (key y = some v)
def firstL {α : Type} (key : α → Option Int) (l : List α) : Nat → List Int
  | 0 => []
  | n + 1 => match l[n]?.bind key with
    | none => firstL key l n
    | some v => if seenB key l n v = true then firstL key l n else firstL key l n ++ [v]
theorem firstL_facts {α : Type} (key : α → Option Int) (l : List α) : ∀ n, n ≤ l.length → (firstL key l n).Nodup ∧ ∀ v, v ∈ firstL key l n ↔ seenB key l n v = true := by
  intro n
  induction n with
  | zero => intro _; simp [firstL, seenB]
  | succ n ih =>
    intro hn
    obtain ⟨h1, h2⟩ := ih (by omega)
    have hget : l[n]? = some l[n] := List.getElem?_eq_getElem (by omega)
    have hseen : ∀ v, seenB key l (n + 1) v = (seenB key l n v || decide (key l[n] = some v)) := by
      intro v
      unfold seenB
      rw [List.take_add_one, hget, List.any_append]
      simp
    rw [firstL, hget]
    show _ ∧ _
    cases hk : key l[n] with
    | none =>
      simp only [Option.bind_some, hk]
      refine ⟨h1, fun v => ?_⟩
      rw [h2, hseen, hk]
      simp
    | some u =>
      simp only [Option.bind_some, hk]
      by_cases hs : seenB key l n u = true
      · rw [if_pos hs]
        refine ⟨h1, fun v => ?_⟩
        rw [h2, hseen, hk, Bool.or_eq_true, decide_eq_true_eq, Option.some.injEq]
        constructor
        · exact .inl
        · rintro (h | rfl)
          · exact h
          · exact hs
      · rw [if_neg hs]
        refine ⟨?_, fun v => ?_⟩
        · rw [List.nodup_append]
          refine ⟨h1, by simp, fun a ha b hb => ?_⟩
          rw [List.mem_singleton] at hb
          rintro rfl
          subst hb
          exact hs ((h2 _).1 ha)
        · rw [List.mem_append, h2, hseen, hk, Bool.or_eq_true, decide_eq_true_eq, Option.some.injEq, List.mem_singleton]
          constructor
          · rintro (h | rfl)
            · exact .inl h
            · exact .inr rfl
          · rintro (h | rfl)
            · exact .inl h
            · exact .inr rfl
theorem firstL_len {α : Type} (key : α → Option Int) (l : List α) {r : List Int} (h : Rises r (l.filterMap key)) : (firstL key l l.length).length = r.length := by
  obtain ⟨h1, h2⟩ := firstL_facts key l l.length (Nat.le_refl _)
  have hm : ∀ v, seenB key l l.length v = true ↔ v ∈ l.filterMap key := by
    intro v
    unfold seenB
    rw [List.take_length, List.any_eq_true, List.mem_filterMap]
    simp
  refine Nat.le_antisymm (nodup_le _ _ h1 fun x hx => ?_) (nodup_le _ _ h.nodup fun x hx => ?_)
  · rw [h.mem, ← hm, ← h2]; exact hx
  · rw [h2, hm, ← h.mem]; exact hx
theorem firstL_next {α : Type} (key : α → Option Int) (l : List α) {n : Nat} {x : α} (hx : l[n]? = some x) :
    (firstL key l (n + 1)).length = (firstL key l n).length + (match key x with | none => 0 | some v => if seenB key l n v = true then 0 else 1) := by
  rw [firstL, hx]
  simp only [Option.bind_some]
  cases key x with
  | none => rfl
  | some v =>
    simp only
    split <;> simp
theorem firstL_le {α : Type} (key : α → Option Int) (l : List α) : ∀ n, (firstL key l n).length ≤ n
  | 0 => by simp [firstL]
  | n + 1 => by
    have := firstL_le key l n
    rw [firstL]
    split
    · omega
    · split
      · omega
      · simp; omega
end Go.Proofs.YtkgpmjjleemdlaaGreat
namespace Go.Proofs.YtkgpmjjleemdlaaGreat
open Go.Eng Go.Sort
attribute [local irreducible] Go.Eng.W

/-- A slice of instructions as it comes in. -/
def SlIs (w : World) (v : Value) (xs : List Ins) : Prop := (xs = [] ∧ v = .slice none 0 0) ∨ ∃ b o c, v = .slice (some ⟨b, o, none⟩) xs.length c ∧ xs.length ≤ c ∧ CodeAt w b o xs ∧ b < w.heap.size
theorem SlIs.calm {w w' : World} {v : Value} {xs : List Ins} (h : SlIs w v xs) (hk : Kept none' w w') : SlIs w' v xs := by
  rcases h with h | ⟨b, o, c, h1, h2, h3, h4⟩
  · exact .inl h
  · exact .inr ⟨b, o, c, h1, h2, h3.calm hk, Nat.lt_of_lt_of_le h4 hk.size⟩
theorem SlIs.len {w : World} {v : Value} {xs : List Ins} (h : SlIs w v xs) : lenV false v = some (.int .i64 xs.length) ∧ varV v = some v := by
  rcases h with ⟨rfl, rfl⟩ | ⟨b, o, c, rfl, _⟩ <;> exact ⟨rfl, rfl⟩
theorem SlIs.at {w : World} {v : Value} {xs : List Ins} (h : SlIs w v xs) {i : Nat} {x : Ins} (hx : xs[i]? = some x) : ∃ b o c, v = .slice (some ⟨b, o, none⟩) xs.length c ∧ wrow w b (o + i * 5) 5 = some x.arr := by
  rcases h with ⟨rfl, rfl⟩ | ⟨b, o, c, rfl, _, h2, _⟩
  · simp at hx
  · exact ⟨b, o, c, rfl, h2 i x hx⟩
theorem ins_sl {w : World} {v : Value} {xs : List Ins} (h : InsRow w v xs) : SlIs w v xs := by
  rcases h.2 with ⟨rfl, h0⟩ | ⟨g, cap, cur, rfl, hb, h2, h3, h4, h5, h6⟩
  · exact .inl ⟨List.length_eq_zero_iff.1 h0, rfl⟩
  · refine .inr ⟨g, 0, cap, rfl, h3, ?_, blk_lt h2⟩
    refine code_of_cells fun j y hy => ?_
    rw [Nat.zero_add, wcell_of h2]
    rw [← h6, List.getElem?_take] at hy
    split at hy
    · simpa using hy
    · cases hy
def hKey (x : Ins) : Option Int := if x.op = 133 then some x.imm else none
def sKey (x : Ins) : Option Int := if x.op = 24 ∧ x.src = 1 then some x.imm else none
theorem kind4 {op : Nat} (h : op < 256) : (partsOf op).kind = 4 ↔ op = 133 := by
  have key : ∀ i : Fin 256, (partsOf i.val).kind = 4 ↔ i.val = 133 := by decide +kernel
  exact key ⟨op, h⟩
theorem kind9 {op : Nat} (h : op < 256) : (partsOf op).kind = 9 ↔ op = 24 := by
  have key : ∀ i : Fin 256, (partsOf i.val).kind = 9 ↔ i.val = 24 := by decide +kernel
  exact key ⟨op, h⟩
theorem filter_next {key : Ins → Option Int} {xs : List Ins} {i : Nat} {x : Ins} (hx : xs[i]? = some x) : (xs.take (i + 1)).filterMap key = (xs.take i).filterMap key ++ (match key x with | none => [] | some v => [v]) := by
  rw [List.take_add_one, hx, List.filterMap_append]
  congr 1
  simp only [Option.toList_some, List.filterMap_cons, List.filterMap_nil]
  cases key x <;> rfl
theorem helpers_ret {v : Value} {xs : List Ins} (w : World) (h : SlIs w v xs) (hw : AllWf xs) (hn : xs.length ≤ 100) :
    Ret Tryz.prog 10 [v] w fun r w' => Kept none' w w' ∧ ∃ rs, Rises rs (xs.filterMap hKey) ∧ Row1 21 w' r (rs.map (Value.int .i32)) := by
  refine ret_of_W Tryz.func10 rfl ok_verify_Helpers ?_
  obtain ⟨hl, hv⟩ := h.len
  simp only [c_verify_Helpers, W_seq, W_set]
  refine ok_intro (.slice none 0 0) (by simp) ?_
  try simp only [W_seq, W_set]
  refine ok_intro (.slice none 0 0) (by simp) ?_
  try simp only [W_seq, W_set]
  refine ok_intro v (by simp [hv]) ?_
  try simp only [W_seq, W_set]
  refine ok_intro (.int .i64 xs.length) (by simp [hv, hl]) ?_
  try simp only [W_seq, W_set]
  refine ok_intro (.int .i64 0) (by simp) ?_
  try simp only [W_seq]
  rw [W_block]
  refine W_loop (fun env w' => ∃ (i : Nat) (v2 : Value), Kept none' w w' ∧ i ≤ xs.length ∧ Row1 21 w' v2 (((xs.take i).filterMap hKey).map (Value.int .i32)) ∧ (∀ j, v2.ownBlock = some j → w.heap.size ≤ j) ∧ ((xs.take i).filterMap hKey).length ≤ i ∧
    env = [undef, undef, v2, .int .i64 (i : Nat), .int .i64 xs.length, v, undef, undef, undef, undef, undef, undef]) (fun env _ => xs.length - natAt env 3) ?_ ?_
  · exact ⟨0, .slice none 0 0, Kept.refl _ _, by omega, row1_nil _ _, fun j hj => by simp [Value.ownBlock] at hj, by simp, by simp⟩
  rintro env w1 ⟨i, v2, hk1, hi, hr, ho, hle, rfl⟩
  have hv2 := rowVar hr
  simp only [W_seq]
  by_cases hgo : i < xs.length
  · have hgo' : (i : Int) < xs.length := by omega
    have hge : (0 : Int) ≤ i := by omega
    have e1 := i64_succ (j := i) (by omega)
    have hx : xs[i]? = some xs[i] := List.getElem?_eq_getElem hgo
    have hxw := hw _ (List.mem_of_getElem? hx)
    have hfn := filter_next (key := hKey) hx
    generalize xs[i] = x at *
    obtain ⟨b, o, c, rfl, hrow⟩ := (h.calm hk1).at hx
    refine W_yes (by simp [hgo']) ?_
    simp only [W_skip, W_seq, W_block, W_set]
    refine ok_intro x.val (by simp [hge, hgo', hrow]) ?_
    try simp only [W_seq]
    refine W_new' (v := Ins.zero.val) (cs := Ins.zero.arr) (by simp; try rfl) rfl ?_
    have hZ := hp_new w1 (.cells Ins.zero.arr 28)
    have hka := (Kept.refl none' w1).alloc (.cells Ins.zero.arr 28)
    generalize (w1.alloc (.cells Ins.zero.arr 28)) = w2 at *
    generalize hbz : w1.heap.size = bz at *
    have hs3 := box_store (v := x.val) hZ (n := 5) (by simp) (by simp [Value.cells]) (by exact ins_one _)
    refine W_store (vv := x.val) (by simp) (by simp) hs3 (stab_nil _ _ _) ?_
    have hxc : x.val.cells = x.arr := rfl
    rw [hxc]
    have hk3 := hka.putNew (show w1.heap.size ≤ bz by omega) (.cells x.arr 28 (0, 0))
    have hZ3 : (Eng.put w2 bz (.cells x.arr 28 (0, 0))).heap[bz]? = some (.cells x.arr 28 (0, 0)) := put_same (blk_lt hZ)
    generalize Eng.put w2 bz (.cells x.arr 28 (0, 0)) = w3 at *
    have hc0 : wcell w3 bz 0 = some (.int .u8 x.op) := by rw [wcell_of hZ3]; rfl
    have hk03 := hk1.trans hk3
    have hr3 := rowCalm hr hk3
    try simp only [W_seq]
    refine W_calm (by simp [hc0]) (ret_of_T (Of_T w3 hxw.op)) ?_
    intro w4 hk4
    have hk04 := hk03.trans hk4
    have hr4 := rowCalm hr3 hk4
    have hZ4 := hk4.has hZ3 (fun h => h)
    have hc4 : wcell w4 bz 4 = some (.int .i32 x.imm) := by rw [wcell_of hZ4]; rfl
    have hkd := kind4 hxw.op
    refine W_cond (t := decide ((partsOf x.op).kind = 4)) (by simp [Parts.arr]) ?_ ?_
    · intro hy
      have hy := hkd.1 (of_decide_eq_true hy)
      have hkey : hKey x = some x.imm := by unfold hKey; rw [if_pos hy]
      rw [hkey] at hfn
      simp only [W_seq]
      refine W_chkIn [v2] (by simp [hv2]) ?_
      simp only [W_seq]
      refine W_push (x := .int .i32 x.imm) (v := v2) Tryz.underlying44 (by kernel_rfl) hr4 (by rw [List.length_map]; omega) rfl (by simp [hc4]) rfl (by simp [hv2]) ?_
      intro v' w5 hr5 hk5 hown5
      have hv' := rowVar hr5
      have hk05 : Kept none' w w5 := hk04.then hk5 fun j hj hS => by have := ho j hS; omega
      have ho' : ∀ j, v'.ownBlock = some j → w.heap.size ≤ j := fun j hj => (hown5 j hj).elim (ho j) fun h => by have := hk04.size; omega
      simp [hv', e1, -Int.natCast_add]
      refine ⟨⟨hk05, i + 1, by omega, v', ?_, ho', ?_, rfl, rfl⟩, by simp [natAt]; omega⟩
      · rw [hfn, List.map_append]; exact hr5
      · rw [hfn]; simp; exact hle
    · intro hy
      have hy : ¬ x.op = 133 := fun e => by have := of_decide_eq_false hy; exact this (hkd.2 e)
      have hkey : hKey x = none := by unfold hKey; rw [if_neg hy]
      rw [hkey, List.append_nil] at hfn
      simp [e1, -Int.natCast_add]
      exact ⟨⟨hk04, i + 1, by omega, v2, by rw [hfn]; exact hr4, ho, by rw [hfn]; omega, rfl, rfl⟩, by simp [natAt]; omega⟩
  · have hie : i = xs.length := by omega
    subst hie
    rw [List.take_length] at hr hle
    refine W_no (by simp) ?_
    simp only [W_skip, W_exit, Wx_exit_c, Wx_exit_post, Wx_exit_blk, W_seq, if_true, if_false]
    refine W_call (by simp [hv2]) (sort32_ret w1 hr (by omega)) ?_
    rintro r w2 ⟨rfl, hr2, hk2⟩
    refine ⟨stab_nil _ _ _, ?_⟩
    have hk02 : Kept none' w w2 := hk1.then hk2 fun j hj hS => by have := ho j hS; omega
    have hrs := rises (xs.filterMap hKey)
    have hlen : ((xs.filterMap hKey).mergeSort fun x y => decide (x ≤ y)).length = (xs.filterMap hKey).length := List.length_mergeSort _
    try simp only [W_seq]
    refine W_call (by simp [hv2]) (compact32_ret w2 hr2 (by omega)) ?_
    rintro r w3 ⟨hr3, hk3, hown3⟩
    refine ⟨stab_nil _ _ _, ?_⟩
    have hk03 : Kept none' w w3 := hk02.then hk3 fun j hj hS => by have := ho j hS; omega
    simp [rowVar hr3]
    exact ⟨hk03, _, hrs, hr3⟩
theorem slots_ret {v : Value} {xs : List Ins} (w : World) (h : SlIs w v xs) (hw : AllWf xs) (hn : xs.length ≤ 100) :
    Ret Tryz.prog 11 [v] w fun r w' => Kept none' w w' ∧ ∃ rs, Rises rs (xs.filterMap sKey) ∧ Row1 3 w' r (rs.map (Value.int .i64)) := by
  refine ret_of_W Tryz.func11 rfl ok_verify_Slots ?_
  obtain ⟨hl, hv⟩ := h.len
  simp only [c_verify_Slots, W_seq, W_set]
  refine ok_intro (.slice none 0 0) (by simp) ?_
  try simp only [W_seq, W_set]
  refine ok_intro (.slice none 0 0) (by simp) ?_
  try simp only [W_seq, W_set]
  refine ok_intro v (by simp [hv]) ?_
  try simp only [W_seq, W_set]
  refine ok_intro (.int .i64 xs.length) (by simp [hv, hl]) ?_
  try simp only [W_seq, W_set]
  refine ok_intro (.int .i64 0) (by simp) ?_
  try simp only [W_seq]
  rw [W_block]
  refine W_loop (fun env w' => ∃ (i : Nat) (v2 : Value), Kept none' w w' ∧ i ≤ xs.length ∧ Row1 3 w' v2 (((xs.take i).filterMap sKey).map (Value.int .i64)) ∧ (∀ j, v2.ownBlock = some j → w.heap.size ≤ j) ∧ ((xs.take i).filterMap sKey).length ≤ i ∧
    env = [undef, undef, v2, .int .i64 (i : Nat), .int .i64 xs.length, v, undef, undef, undef, undef, undef, undef]) (fun env _ => xs.length - natAt env 3) ?_ ?_
  · exact ⟨0, .slice none 0 0, Kept.refl _ _, by omega, row1_nil _ _, fun j hj => by simp [Value.ownBlock] at hj, by simp, by simp⟩
  rintro env w1 ⟨i, v2, hk1, hi, hr, ho, hle, rfl⟩
  have hv2 := rowVar hr
  simp only [W_seq]
  by_cases hgo : i < xs.length
  · have hgo' : (i : Int) < xs.length := by omega
    have hge : (0 : Int) ≤ i := by omega
    have e1 := i64_succ (j := i) (by omega)
    have hx : xs[i]? = some xs[i] := List.getElem?_eq_getElem hgo
    have hxw := hw _ (List.mem_of_getElem? hx)
    have hfn := filter_next (key := sKey) hx
    generalize xs[i] = x at *
    obtain ⟨b, o, c, rfl, hrow⟩ := (h.calm hk1).at hx
    refine W_yes (by simp [hgo']) ?_
    simp only [W_skip, W_seq, W_block, W_set]
    refine ok_intro x.val (by simp [hge, hgo', hrow]) ?_
    try simp only [W_seq]
    refine W_new' (v := Ins.zero.val) (cs := Ins.zero.arr) (by simp; try rfl) rfl ?_
    have hZ := hp_new w1 (.cells Ins.zero.arr 28)
    have hka := (Kept.refl none' w1).alloc (.cells Ins.zero.arr 28)
    generalize (w1.alloc (.cells Ins.zero.arr 28)) = w2 at *
    generalize hbz : w1.heap.size = bz at *
    have hs3 := box_store (v := x.val) hZ (n := 5) (by simp) (by simp [Value.cells]) (by exact ins_one _)
    refine W_store (vv := x.val) (by simp) (by simp) hs3 (stab_nil _ _ _) ?_
    have hxc : x.val.cells = x.arr := rfl
    rw [hxc]
    have hk3 := hka.putNew (show w1.heap.size ≤ bz by omega) (.cells x.arr 28 (0, 0))
    have hZ3 : (Eng.put w2 bz (.cells x.arr 28 (0, 0))).heap[bz]? = some (.cells x.arr 28 (0, 0)) := put_same (blk_lt hZ)
    generalize Eng.put w2 bz (.cells x.arr 28 (0, 0)) = w3 at *
    have hc0 : wcell w3 bz 0 = some (.int .u8 x.op) := by rw [wcell_of hZ3]; rfl
    have hk03 := hk1.trans hk3
    have hr3 := rowCalm hr hk3
    try simp only [W_seq]
    refine W_calm (by simp [hc0]) (ret_of_T (Of_T w3 hxw.op)) ?_
    intro w4 hk4
    have hk04 := hk03.trans hk4
    have hr4 := rowCalm hr3 hk4
    have hZ4 := hk4.has hZ3 (fun h => h)
    have hc4 : wcell w4 bz 4 = some (.int .i32 x.imm) := by rw [wcell_of hZ4]; rfl
    have hkd := kind9 hxw.op
    have hc2 : wcell w4 bz 2 = some (.int .u8 x.src) := by rw [wcell_of hZ4]; rfl
    have e64 : IntKind.i64.wrap x.imm = x.imm := i64w (by have := hxw.imm; omega) (by have := hxw.imm; omega)
    have hsrc : decide ((x.src : Int) = 1) = decide (x.src = 1) := by by_cases h1 : x.src = 1 <;> simp [h1]; omega
    refine W_cond (t := decide ((partsOf x.op).kind = 9) && decide (x.src = 1)) (by simp [Parts.arr, hc2, pickV_bool, hsrc]) ?_ ?_
    · intro hy
      rw [Bool.and_eq_true, decide_eq_true_eq, decide_eq_true_eq] at hy
      have hkey : sKey x = some x.imm := by unfold sKey; rw [if_pos ⟨hkd.1 hy.1, hy.2⟩]
      rw [hkey] at hfn
      simp only [W_seq]
      refine W_chkIn [v2] (by simp [hv2]) ?_
      simp only [W_seq]
      refine W_push (x := .int .i64 x.imm) (v := v2) Tryz.underlying26 (by kernel_rfl) hr4 (by rw [List.length_map]; omega) rfl (by simp [hc4, e64]) rfl (by simp [hv2]) ?_
      intro v' w5 hr5 hk5 hown5
      have hv' := rowVar hr5
      have hk05 : Kept none' w w5 := hk04.then hk5 fun j hj hS => by have := ho j hS; omega
      have ho' : ∀ j, v'.ownBlock = some j → w.heap.size ≤ j := fun j hj => (hown5 j hj).elim (ho j) fun h => by have := hk04.size; omega
      simp [hv', e1, -Int.natCast_add]
      refine ⟨⟨hk05, i + 1, by omega, v', ?_, ho', ?_, rfl, rfl⟩, by simp [natAt]; omega⟩
      · rw [hfn, List.map_append]; exact hr5
      · rw [hfn]; simp; exact hle
    · intro hy
      have hkey : sKey x = none := by
        unfold sKey
        rw [if_neg]
        rintro ⟨q1, q2⟩
        rw [decide_eq_true (hkd.2 q1), decide_eq_true q2] at hy
        cases hy
      rw [hkey, List.append_nil] at hfn
      simp [e1, -Int.natCast_add]
      exact ⟨⟨hk04, i + 1, by omega, v2, by rw [hfn]; exact hr4, ho, by rw [hfn]; omega, rfl, rfl⟩, by simp [natAt]; omega⟩
  · have hie : i = xs.length := by omega
    subst hie
    rw [List.take_length] at hr hle
    refine W_no (by simp) ?_
    simp only [W_skip, W_exit, Wx_exit_c, Wx_exit_post, Wx_exit_blk, W_seq, if_true, if_false]
    refine W_call (by simp [hv2]) (sort64_ret w1 hr (by omega)) ?_
    rintro r w2 ⟨rfl, hr2, hk2⟩
    refine ⟨stab_nil _ _ _, ?_⟩
    have hk02 : Kept none' w w2 := hk1.then hk2 fun j hj hS => by have := ho j hS; omega
    have hrs := rises (xs.filterMap sKey)
    have hlen : ((xs.filterMap sKey).mergeSort fun x y => decide (x ≤ y)).length = (xs.filterMap sKey).length := List.length_mergeSort _
    try simp only [W_seq]
    refine W_call (by simp [hv2]) (compact64_ret w2 hr2 (by omega)) ?_
    rintro r w3 ⟨hr3, hk3, hown3⟩
    refine ⟨stab_nil _ _ _, ?_⟩
    have hk03 : Kept none' w w3 := hk02.then hk3 fun j hj hS => by have := ho j hS; omega
    simp [rowVar hr3]
    exact ⟨hk03, _, hrs, hr3⟩
end Go.Proofs.YtkgpmjjleemdlaaGreat
namespace Go.Proofs.YtkgpmjjleemdlaaGreat
open Go.Eng Go.Sort
attribute [local irreducible] Go.Eng.W

theorem row1_get {T : TypeId} {k : IntKind} {w : World} {v : Value} {rs : List Int} (h : Row1 T w v (rs.map (Value.int k))) {i : Nat} {x : Int} (hx : rs[i]? = some x) : ∃ g c, v = .slice (some ⟨g, 0, none⟩) rs.length c ∧ wcell w g i = some (.int k x) := by
  obtain ⟨g, c, e, hc⟩ := row1_ix h (i := i) (x := .int k x) (by rw [List.getElem?_map, hx]; rfl)
  rw [List.length_map] at e
  exact ⟨g, c, e, hc⟩
theorem take_mem {rs : List Int} {i : Nat} {x y : Int} (hx : rs[i]? = some y) : (x ∈ rs.take (i + 1)) ↔ (x ∈ rs.take i ∨ x = y) := by
  rw [List.take_add_one, hx]
  simp
theorem has_ret {v : Value} {rs : List Int} {x : Int} (w : World) (h : Row1 21 w v (rs.map (Value.int .i32))) (hn : rs.length ≤ 1000) :
    Ret Tryz.prog 12 [v, .int .i32 x] w fun r w' => r = .bool (decide (x ∈ rs)) ∧ Kept none' w w' := by
  refine ret_of_W Tryz.func12 rfl ok_tipstafflaw18_has ?_
  have hl := row1_len h
  rw [List.length_map] at hl
  have hv := rowVar h
  simp only [c_tipstafflaw18_has, W_seq, W_set]
  refine ok_intro (.bool false) (by simp) ?_
  try simp only [W_seq, W_set]
  refine ok_intro (.int .i64 0) (by simp) ?_
  try simp only [W_seq]
  rw [W_block]
  refine W_loop (fun env w' => w' = w ∧ ∃ i : Nat, i ≤ rs.length ∧ x ∉ rs.take i ∧ env = [v, .int .i32 x, undef, .int .i64 (i : Nat)]) (fun env _ => rs.length - natAt env 3) ?_ ?_
  · exact ⟨rfl, 0, by omega, by simp, by simp⟩
  rintro env w1 ⟨rfl, i, hi, hno, rfl⟩
  simp only [W_seq]
  by_cases hgo : i < rs.length
  · have hgo' : (i : Int) < rs.length := by omega
    have hge : (0 : Int) ≤ i := by omega
    have e1 := i64_succ (j := i) (by omega)
    have hx : rs[i]? = some rs[i] := List.getElem?_eq_getElem hgo
    have htm := take_mem (x := x) hx
    generalize rs[i] = y at *
    obtain ⟨g, c, rfl, hc⟩ := row1_get h hx
    refine W_yes (by simp [hgo']) ?_
    simp only [W_skip, W_seq, W_block]
    refine W_cond (t := decide (y = x)) (by simp [hge, hgo', hgo, hc]) ?_ ?_
    · intro hy
      have hy := of_decide_eq_true hy
      have : x ∈ rs := by rw [← hy]; exact List.mem_of_getElem? hx
      simp [this]
      exact Kept.refl _ _
    · intro hy
      have hy := of_decide_eq_false hy
      simp [e1, -Int.natCast_add]
      exact ⟨⟨i + 1, by omega, by rw [htm]; exact fun h => h.elim hno (fun e => hy e.symm), rfl⟩, by simp [natAt]; omega⟩
  · have hie : i = rs.length := by omega
    subst hie
    rw [List.take_length] at hno
    refine W_no (by simp [hl, hv]) ?_
    simp [hno]
    exact Kept.refl _ _
theorem hasInt_ret {v : Value} {rs : List Int} {x : Int} (w : World) (h : Row1 3 w v (rs.map (Value.int .i64))) (hn : rs.length ≤ 1000) :
    Ret Tryz.prog 13 [v, .int .i64 x] w fun r w' => r = .bool (decide (x ∈ rs)) ∧ Kept none' w w' := by
  refine ret_of_W Tryz.func13 rfl ok_tipstafflaw18_hasInt ?_
  have hl := row1_len h
  rw [List.length_map] at hl
  have hv := rowVar h
  simp only [c_tipstafflaw18_hasInt, W_seq, W_set]
  refine ok_intro (.bool false) (by simp) ?_
  try simp only [W_seq, W_set]
  refine ok_intro (.int .i64 0) (by simp) ?_
  try simp only [W_seq]
  rw [W_block]
  refine W_loop (fun env w' => w' = w ∧ ∃ i : Nat, i ≤ rs.length ∧ x ∉ rs.take i ∧ env = [v, .int .i64 x, undef, .int .i64 (i : Nat)]) (fun env _ => rs.length - natAt env 3) ?_ ?_
  · exact ⟨rfl, 0, by omega, by simp, by simp⟩
  rintro env w1 ⟨rfl, i, hi, hno, rfl⟩
  simp only [W_seq]
  by_cases hgo : i < rs.length
  · have hgo' : (i : Int) < rs.length := by omega
    have hge : (0 : Int) ≤ i := by omega
    have e1 := i64_succ (j := i) (by omega)
    have hx : rs[i]? = some rs[i] := List.getElem?_eq_getElem hgo
    have htm := take_mem (x := x) hx
    generalize rs[i] = y at *
    obtain ⟨g, c, rfl, hc⟩ := row1_get h hx
    refine W_yes (by simp [hgo']) ?_
    simp only [W_skip, W_seq, W_block]
    refine W_cond (t := decide (y = x)) (by simp [hge, hgo', hgo, hc]) ?_ ?_
    · intro hy
      have hy := of_decide_eq_true hy
      have : x ∈ rs := by rw [← hy]; exact List.mem_of_getElem? hx
      simp [this]
      exact Kept.refl _ _
    · intro hy
      have hy := of_decide_eq_false hy
      simp [e1, -Int.natCast_add]
      exact ⟨⟨i + 1, by omega, by rw [htm]; exact fun h => h.elim hno (fun e => hy e.symm), rfl⟩, by simp [natAt]; omega⟩
  · have hie : i = rs.length := by omega
    subst hie
    rw [List.take_length] at hno
    refine W_no (by simp [hl, hv]) ?_
    simp [hno]
    exact Kept.refl _ _
/-- Alike, as 'first' asks. -/
def likeB (x y : Ins) : Bool := (decide (y.op = x.op) && decide (y.imm = x.imm)) && (decide (x.op = 133) || decide (y.src = 1))
def seenL (x : Ins) (xs : List Ins) (n : Nat) : Bool := (xs.take n).any (likeB x)
theorem seenL_key {key : Ins → Option Int} {x : Ins} {v : Int} (hk : ∀ y, likeB x y = decide (key y = some v)) (xs : List Ins) (n : Nat) : seenL x xs n = seenB key xs n v := by
  unfold seenL seenB
  congr 1
  funext y
  exact hk y
theorem like_h {x : Ins} (h : x.op = 133) (y : Ins) : likeB x y = decide (hKey y = some x.imm) := by
  unfold likeB hKey
  rw [h]
  by_cases h1 : y.op = 133 <;> simp [h1]
theorem like_s {x : Ins} (h : x.op = 24) (y : Ins) : likeB x y = decide (sKey y = some x.imm) := by
  unfold likeB sKey
  rw [h]
  by_cases h1 : y.op = 24 <;> by_cases h2 : y.src = 1 <;> simp [h1, h2]
theorem first_ret {v : Value} {xs : List Ins} {n : Nat} {x : Ins} (w : World) (h : SlIs w v xs) (hn : xs.length ≤ 1000) (hx : xs[n]? = some x) :
    Ret Tryz.prog 14 [v, .int .i64 (n : Nat)] w fun r w' => r = .bool (!seenL x xs n) ∧ Kept none' w w' := by
  refine ret_of_W Tryz.func14 rfl ok_tipstafflaw18_first ?_
  have hnl : n < xs.length := (List.getElem?_eq_some_iff.1 hx).1
  simp only [c_tipstafflaw18_first, W_seq, W_set]
  refine ok_intro (.bool false) (by simp) ?_
  try simp only [W_seq, W_set]
  refine ok_intro (.int .i64 0) (by simp) ?_
  try simp only [W_seq]
  rw [W_block]
  obtain ⟨hl, hv⟩ := h.len
  refine W_loop (fun env w' => Kept none' w w' ∧ ∃ i : Nat, i ≤ n ∧ seenL x xs i = false ∧ env = [v, .int .i64 (n : Nat), undef, .int .i64 (i : Nat)]) (fun env _ => n - natAt env 3) ?_ ?_
  · exact ⟨Kept.refl _ _, 0, by omega, by simp [seenL], by simp⟩
  rintro env w1 ⟨hk1, i, hi, hno, rfl⟩
  simp only [W_seq]
  by_cases hgo : i < n
  · have hgo' : (i : Int) < n := by omega
    have hge : (0 : Int) ≤ i := by omega
    have hil : (i : Int) < xs.length := by omega
    have hnl' : (n : Int) < xs.length := by omega
    have hne : (0 : Int) ≤ n := by omega
    have e1 := i64_succ (j := i) (by omega)
    have hy : xs[i]? = some xs[i] := List.getElem?_eq_getElem (by omega)
    have hta : seenL x xs (i + 1) = likeB x xs[i] := by
      unfold seenL at hno ⊢
      rw [List.take_add_one, hy, List.any_append, hno]; simp
    have hany : likeB x xs[i] = true → seenL x xs n = true := by
      intro ht
      unfold seenL
      rw [List.any_eq_true]
      exact ⟨xs[i], List.mem_take_iff_getElem.2 ⟨i, by omega, rfl⟩, ht⟩
    generalize xs[i] = y at *
    have hk1d : Kept none' w w1.drew := hk1.drew
    refine W_yes (by simp [hgo']) ?_
    simp only [W_skip, W_seq, W_block, W_draw]
    generalize w1.drew = w2 at *
    obtain ⟨b, o, c, e, hr1⟩ := (h.calm hk1d).at hy
    obtain ⟨b', o', c', e', hr2⟩ := (h.calm hk1d).at hx
    rw [e] at e'
    simp at e'
    obtain ⟨⟨rfl, rfl⟩, rfl⟩ := e'
    subst e
    have y0 := row_cell hr1 0 (by omega)
    have y2 := row_cell hr1 2 (by omega)
    have y4 := row_cell hr1 4 (by omega)
    have x0 := row_cell hr2 0 (by omega)
    have x4 := row_cell hr2 4 (by omega)
    simp only [Nat.add_zero] at y0 x0
    have i0 : i < xs.length := by omega
    refine W_cond (t := likeB x y) ?_ ?_ ?_
    · have q1 : decide ((y.op : Int) = x.op) = decide (y.op = x.op) := by by_cases h1 : y.op = x.op <;> simp [h1]; omega
      have q2 : decide ((x.op : Int) = 133) = decide (x.op = 133) := by by_cases h1 : x.op = 133 <;> simp [h1]; omega
      have q3 : decide ((y.src : Int) = 1) = decide (y.src = 1) := by by_cases h1 : y.src = 1 <;> simp [h1]; omega
      simp [hil, i0, hnl', hnl, y0, y2, y4, x0, x4, pickV_bool, likeB]
      rw [q1, q2, q3]
    · intro hb
      simp [hany hb]
      exact hk1d
    · intro hb
      simp [e1, -Int.natCast_add]
      exact ⟨⟨hk1d, i + 1, by omega, by rw [hta]; exact hb, rfl⟩, by simp [natAt]; omega⟩
  · have hie : i = n := by omega
    subst hie
    refine W_no (by simp) ?_
    simp [hno]
    exact hk1
theorem append_none {P : Program} {t ty e : TypeId} (ht : P.underlying t = some (.slice e)) (hi' : (P.info? e).isSome = true) (a : Addr) (n c : Nat) (hn : n ≤ c) (w : World) :
    (builtin .append #[t, t] ty #[] #[.slice (some a) n c, .slice none 0 0]).run P w = .ok (.value (.slice (some a) n c)) w := by
  obtain ⟨i, hi⟩ := Option.isSome_iff_exists.1 hi'
  simp [builtin, Builtin.append_, run_underlying ht, sizeOf, typeInfo, hi, Builtin.lenOf, hn, Builtin.firstCells, loadCells, loadCellsFrom]
  rfl

theorem SlIs.take {w : World} {v : Value} {xs : List Ins} (h : SlIs w v xs) (n : Nat) : ∃ v', slSlV 5 v (.int .i64 0) (.int .i64 ((min xs.length n : Nat) : Int)) = some v' ∧ SlIs w v' (xs.take n) ∧ lenV false v = some (.int .i64 xs.length) ∧ varV v = some v ∧ varV v' = some v' ∧ lenV false v' = some (.int .i64 (xs.take n).length) := by
  rcases h with ⟨rfl, rfl⟩ | ⟨b, o, c, rfl, h2, h3, h4⟩
  · exact ⟨.slice none 0 0, by simp, .inl ⟨by simp, rfl⟩, rfl, rfl, rfl, by simp⟩
  · have h5 : ((min xs.length n : Nat) : Int) ≤ c := by omega
    refine ⟨.slice (some ⟨b, o, none⟩) (xs.take n).length c, ?_, .inr ⟨b, o, c, rfl, by rw [List.length_take]; omega, h3.take n, h4⟩, rfl, rfl, rfl, rfl⟩
    rw [List.length_take, Nat.min_comm]
    rw [Nat.min_comm] at h5
    simp [h5]
theorem SlIs.append {w : World} {v ov : Value} {out xs : List Ins} (h : SlIs w v xs) (hrow : InsRow w ov out) (hs : out.length + xs.length ≤ 1000000) :
    ∃ v' w', (builtin .append #[29, 29] 29 #[] #[ov, v]).run Tryz.prog w = .ok (.value v') w' ∧ InsRow w' v' (out ++ xs) ∧ Kept (fun j => ov.ownBlock = some j) w w' ∧ (v'.ownBlock = ov.ownBlock ∨ v'.ownBlock = some w.heap.size) := by
  rcases h with ⟨rfl, rfl⟩ | ⟨b, o, c, rfl, h2, h3, h4⟩
  · refine ⟨ov, w, ?_, by simpa using hrow, Kept.refl _ _, .inl rfl⟩
    rcases hrow.2 with ⟨rfl, _⟩ | ⟨g, cap, cur, rfl, _, _, hc, _⟩
    · obtain ⟨i, hi⟩ : ∃ i, Tryz.prog.info? 28 = some i := Option.isSome_iff_exists.1 (by kernel_rfl)
      simp [builtin, Builtin.append_, run_underlying Tryz.underlying29, sizeOf, typeInfo, hi, Builtin.lenOf, Builtin.firstCells, loadCells, loadCellsFrom]
    · exact append_none Tryz.underlying29 (by kernel_rfl) _ _ _ hc w
  · exact ins_append hrow hs h3
end Go.Proofs.YtkgpmjjleemdlaaGreat
namespace Go.Proofs.YtkgpmjjleemdlaaGreat
open Go.Eng Go.Sort
attribute [local irreducible] Go.Eng.W

set_option maxHeartbeats 1000000 in
theorem names_ret {v : Value} {xs : List Ins} (w : World) (h : SlIs w v xs) (hw : AllWf xs) (hchk : ∀ w', Kept none' w w' → Ret Tryz.prog 9 [] w' fun r w'' => r = .bool true ∧ Kept none' w' w'') :
    Ret Tryz.prog 6 [v] w fun r w' => r = .bool true ∧ Kept none' w w' := by
  refine ret_of_W Tryz.func6 rfl ok_tipstafflaw18_VerifyNames ?_
  obtain ⟨v', hs1, hs2, hs3, hs4, hs5, hs6⟩ := h.take 60
  have hmn : (if (60 : Int) < xs.length then (60 : Int) else xs.length) = ((min xs.length 60 : Nat) : Int) := by split <;> omega
  simp only [c_tipstafflaw18_VerifyNames, W_seq, W_set]
  refine ok_intro (.bool false) (by simp) ?_
  try simp only [W_seq]
  refine W_row' (v := .agg #[]) (cs := #[]) (by simp) rfl ?_
  have hk1 : Kept none' w (w.alloc (.cells #[] 28)) := (Kept.refl _ _).alloc _
  have hr1 : InsRow (w.alloc (.cells #[] 28)) (.slice (some ⟨w.heap.size, 0, none⟩) 0 0) [] := ⟨by simp [insCells], .inr ⟨w.heap.size, 0, #[], rfl, by omega, hp_new w _, by simp, by unfold maxLen; omega, by simp, by simp [insCells]⟩⟩
  have hyl : (xs.take 60).length ≤ 60 := by rw [List.length_take]; omega
  have hyw : AllWf (xs.take 60) := fun y hy => hw y (List.mem_of_mem_take hy)
  obtain ⟨v3, w3, hrun, hrow, hk3, hat⟩ := (hs2.calm hk1).append hr1 (by simp; omega)
  try simp only [W_seq]
  refine W_bi (vs := [.slice (some ⟨w.heap.size, 0, none⟩) 0 0, v']) (by simp [hs3, hs4, hs5, hmn, hs1]) hrun (stab_nil _ _ _) ?_
  have hk03 : Kept none' w w3 := hk1.then hk3 fun i hi h => by simp [Value.ownBlock] at h; omega
  rw [List.nil_append] at hrow
  generalize xs.take 60 = ys at *
  have hsl := ins_sl hrow
  obtain ⟨hl3, hv3⟩ := hsl.len
  simp only [W_set]
  refine ok_intro v3 (by simp [hv3]) ?_
  try simp only [W_seq]
  refine W_calmP (by simp [hv3]) (helpers_ret w3 hsl hyw (by omega)) ?_
  rintro v4 w4 hk4 ⟨hs, hrs, hr4⟩
  try simp only [W_seq]
  refine W_calmP (by simp [hv3]) (slots_ret w4 (hsl.calm hk4) hyw (by omega)) ?_
  rintro v5 w5 hk5 ⟨ss, hss, hr5⟩
  have hv4 := rowVar hr4
  have hv5 := rowVar hr5
  simp only [W_seq, W_set]
  refine ok_intro v4 (by simp [hv4]) ?_
  refine ok_intro v5 (by simp [hv5]) ?_
  have hk05 : Kept none' w w5 := (hk03.trans hk4).trans hk5
  have hr45 := rowCalm hr4 hk5
  have hsl5 := (hsl.calm hk4).calm hk5
  have hhl : hs.length ≤ 60 := Nat.le_trans (nodup_le hs _ hrs.nodup fun x hx => (hrs.mem x).1 hx) (Nat.le_trans (List.length_filterMap_le _ _) hyl)
  have hsn : ss.length ≤ 60 := Nat.le_trans (nodup_le ss _ hss.nodup fun x hx => (hss.mem x).1 hx) (Nat.le_trans (List.length_filterMap_le _ _) hyl)
  have hlh := row1_len hr45
  have hls := row1_len hr5
  rw [List.length_map] at hlh hls
  try simp only [W_seq, W_set]
  refine ok_intro (.int .i64 1) (by simp) ?_
  try simp only [W_seq]
  rw [W_block]
  refine W_loop (fun env w' => Kept none' w5 w' ∧ ∃ i : Nat, 1 ≤ i ∧ env = [v3, undef, undef, undef, undef, undef, v4, v5, .int .i64 (i : Nat), undef, undef, undef, undef, undef, undef, undef, undef, undef, undef, undef, undef, undef, undef, undef, undef]) (fun env _ => hs.length - natAt env 8) ?_ ?_
  · exact ⟨Kept.refl _ _, 1, by omega, by simp⟩
  rintro env w6 ⟨hk6, i, hi1, rfl⟩
  simp only [W_seq]
  by_cases hgo : i < hs.length
  · have hgo' : (i : Int) < hs.length := by omega
    have hge : (0 : Int) ≤ i := by omega
    have hgp : (0 : Int) ≤ ((i - 1 : Nat) : Int) := by omega
    have hgp2 : ((i - 1 : Nat) : Int) < hs.length := by omega
    have hgp3 : i - 1 < hs.length := by omega
    have e1 := i64_succ (j := i) (by omega)
    have e2 := i64_pred (j := i) (by omega) (by omega)
    have hx : hs[i - 1]? = some hs[i - 1] := List.getElem?_eq_getElem hgp3
    have hy : hs[i]? = some hs[i] := List.getElem?_eq_getElem hgo
    have hup := hrs.up (i - 1) _ _ hx (by rw [show i - 1 + 1 = i from by omega]; exact hy)
    generalize hs[i - 1] = x at *
    generalize hs[i] = y at *
    have hk6d : Kept none' w5 w6.drew := hk6.drew
    refine W_yes (by simp [hlh, hv4, hgo']) ?_
    simp only [W_skip, W_seq, W_block, W_draw]
    generalize w6.drew = w7 at *
    obtain ⟨g, c, rfl, hc1⟩ := row1_get (rowCalm hr45 hk6d) hx
    obtain ⟨g', c', e, hc2⟩ := row1_get (rowCalm hr45 hk6d) hy
    simp at e
    obtain ⟨rfl, rfl⟩ := e
    have hnle : ¬ y ≤ x := by omega
    refine W_no (by simp [hgo', hgo, e2, hgp2, hgp3, hc1, hc2, hnle]) ?_
    simp [e1, -Int.natCast_add]
    exact ⟨⟨hk6d, i + 1, by omega, rfl⟩, by simp [natAt]; omega⟩
  have hno : ¬ (i : Int) < hs.length := by omega
  refine W_no (by simp [hlh, hv4, hno]) ?_
  clear hno hgo hi1
  simp only [W_skip, W_exit, Wx_exit_c, Wx_exit_post, Wx_exit_blk, W_seq, W_set, if_true, if_false]
  refine ok_intro (.int .i64 1) (by simp) ?_
  try simp only [W_seq]
  rw [W_block]
  refine W_loop (fun env w' => Kept none' w5 w' ∧ ∃ i : Nat, 1 ≤ i ∧ env = [v3, undef, undef, undef, undef, undef, v4, v5, undef, .int .i64 (i : Nat), undef, undef, undef, undef, undef, undef, undef, undef, undef, undef, undef, undef, undef, undef, undef]) (fun env _ => ss.length - natAt env 9) ?_ ?_
  · exact ⟨hk6, 1, by omega, by simp⟩
  clear hk6
  rintro env w6 ⟨hk6, i, hi1, rfl⟩
  simp only [W_seq]
  by_cases hgo : i < ss.length
  · have hgo' : (i : Int) < ss.length := by omega
    have hgp2 : ((i - 1 : Nat) : Int) < ss.length := by omega
    have hgp3 : i - 1 < ss.length := by omega
    have e1 := i64_succ (j := i) (by omega)
    have e2 := i64_pred (j := i) (by omega) (by omega)
    have hx : ss[i - 1]? = some ss[i - 1] := List.getElem?_eq_getElem hgp3
    have hy : ss[i]? = some ss[i] := List.getElem?_eq_getElem hgo
    have hup := hss.up (i - 1) _ _ hx (by rw [show i - 1 + 1 = i from by omega]; exact hy)
    generalize ss[i - 1] = x at *
    generalize ss[i] = y at *
    have hk6d : Kept none' w5 w6.drew := hk6.drew
    refine W_yes (by simp [hls, hv5, hgo']) ?_
    simp only [W_skip, W_seq, W_block, W_draw]
    generalize w6.drew = w7 at *
    obtain ⟨g, c, rfl, hc1⟩ := row1_get (rowCalm hr5 hk6d) hx
    obtain ⟨g', c', e, hc2⟩ := row1_get (rowCalm hr5 hk6d) hy
    simp at e
    obtain ⟨rfl, rfl⟩ := e
    have hnle : ¬ y ≤ x := by omega
    refine W_no (by simp [hgo', hgo, e2, hgp2, hgp3, hc1, hc2, hnle]) ?_
    simp [e1, -Int.natCast_add]
    exact ⟨⟨hk6d, i + 1, by omega, rfl⟩, by simp [natAt]; omega⟩
  have hno : ¬ (i : Int) < ss.length := by omega
  refine W_no (by simp [hls, hv5, hno]) ?_
  clear hno hgo hi1
  simp only [W_skip, W_exit, Wx_exit_c, Wx_exit_post, Wx_exit_blk, W_seq, W_set, if_true, if_false]
  refine ok_intro (.int .i64 0) (by simp) ?_
  try simp only [W_seq, W_set]
  refine ok_intro (.int .i64 0) (by simp) ?_
  try simp only [W_seq, W_set]
  refine ok_intro (.int .i64 0) (by simp) ?_
  try simp only [W_seq]
  rw [W_block]
  refine W_loop (fun env w' => Kept none' w5 w' ∧ ∃ i : Nat, i ≤ ys.length ∧ env = [v3, undef, undef, undef, undef, undef, v4, v5, undef, undef, .int .i64 ((firstL hKey ys i).length : Nat), .int .i64 ((firstL sKey ys i).length : Nat), .int .i64 (i : Nat), undef, undef, undef, undef, undef, undef, undef, undef, undef, undef, undef, undef]) (fun env _ => ys.length - natAt env 12) ?_ ?_
  · exact ⟨hk6, 0, by omega, by simp [firstL]⟩
  clear hk6
  rintro env w6 ⟨hk6, i, hi, rfl⟩
  simp only [W_seq]
  by_cases hgo : i < ys.length
  · have hgo' : (i : Int) < ys.length := by omega
    have e1 := i64_succ (j := i) (by omega)
    have hx : ys[i]? = some ys[i] := List.getElem?_eq_getElem hgo
    have hxw := hyw _ (List.mem_of_getElem? hx)
    have hfh := firstL_next hKey ys hx
    have hfs := firstL_next sKey ys hx
    have hmh : ∀ v, hKey ys[i] = some v → v ∈ hs := fun v hv => (hrs.mem v).2 (List.mem_filterMap.2 ⟨_, List.mem_of_getElem? hx, hv⟩)
    have hms : ∀ v, sKey ys[i] = some v → v ∈ ss := fun v hv => (hss.mem v).2 (List.mem_filterMap.2 ⟨_, List.mem_of_getElem? hx, hv⟩)
    have hfl := firstL_le hKey ys i
    have hgl := firstL_le sKey ys i
    generalize ys[i] = x at *
    obtain ⟨b, o, c, hv3e, hrow6⟩ := (hsl5.calm hk6).at hx
    subst hv3e
    refine W_yes (by simp [hgo']) ?_
    simp only [W_skip, W_seq, W_block, W_set]
    refine ok_intro x.val (by simp [hgo', hgo, hrow6]) ?_
    try simp only [W_seq]
    refine W_new' (v := Ins.zero.val) (cs := Ins.zero.arr) (by simp; try rfl) rfl ?_
    have hZ := hp_new w6 (.cells Ins.zero.arr 28)
    have hka := (Kept.refl none' w6).alloc (.cells Ins.zero.arr 28)
    generalize (w6.alloc (.cells Ins.zero.arr 28)) = w7 at *
    generalize hbz : w6.heap.size = bz at *
    have hs7 := box_store (v := x.val) hZ (n := 5) (by simp) (by simp [Value.cells]) (by exact ins_one _)
    refine W_store (vv := x.val) (by simp) (by simp) hs7 (stab_nil _ _ _) ?_
    have hxc : x.val.cells = x.arr := rfl
    rw [hxc]
    have hk7 := hka.putNew (show w6.heap.size ≤ bz by omega) (.cells x.arr 28 (0, 0))
    have hZ7 : (Eng.put w7 bz (.cells x.arr 28 (0, 0))).heap[bz]? = some (.cells x.arr 28 (0, 0)) := put_same (blk_lt hZ)
    generalize Eng.put w7 bz (.cells x.arr 28 (0, 0)) = w8 at *
    have hk58 : Kept none' w5 w8 := hk6.trans hk7
    have hcell : ∀ w', Kept none' w8 w' → wcell w' bz 0 = some (.int .u8 x.op) ∧ wcell w' bz 2 = some (.int .u8 x.src) ∧ wcell w' bz 4 = some (.int .i32 x.imm) := by
      intro w' hk
      have := hk.has hZ7 (fun h => h)
      exact ⟨by rw [wcell_of this]; rfl, by rw [wcell_of this]; rfl, by rw [wcell_of this]; rfl⟩
    obtain ⟨c0, c2, c4⟩ := hcell w8 (Kept.refl _ _)
    have e64 : IntKind.i64.wrap x.imm = x.imm := i64w (by have := hxw.imm; omega) (by have := hxw.imm; omega)
    by_cases hop : x.op = 133
    · have hkh : hKey x = some x.imm := by unfold hKey; rw [if_pos hop]
      have hks : sKey x = none := by unfold sKey; rw [if_neg (by omega)]
      rw [hkh] at hfh
      rw [hks] at hfs
      simp only at hfh hfs
      have hin := hmh _ hkh
      have hop' : (x.op : Int) = 133 := by omega
      simp [c0, c4, hop', hv4]
      refine W_yes (by simp) ?_
      refine W_calm (by simp [c4, hv4]) (has_ret w8 (x := x.imm) (rowCalm hr45 hk58) (by omega)) ?_
      intro w9 hk9
      obtain ⟨d0, d2, d4⟩ := hcell w9 hk9
      have hk59 := hk58.trans hk9
      have hslc := hsl5.calm hk59
      simp [hin, d0, d2, d4, hop']
      refine W_yes (by simp) ?_
      simp [d0, d2, d4, hop', hv5]
      refine W_no (by simp) ?_
      simp
      refine W_no (by simp) ?_
      simp [d0, hop']
      refine W_yes (by simp) ?_
      refine W_calm (by simp) (first_ret w9 hslc (by omega) hx) ?_
      intro w10 hk10
      obtain ⟨f0, f2, f4⟩ := hcell w10 (hk9.trans hk10)
      have hk510 := hk59.trans hk10
      rw [seenL_key (like_h hop)]
      have e3 := i64_succ (j := (firstL hKey ys i).length) (by omega)
      refine W_cond (t := !seenB hKey ys i x.imm) (by simp) ?_ ?_
      · intro hb
        have hb : seenB hKey ys i x.imm = false := by simpa using hb
        rw [if_neg (by rw [hb]; simp)] at hfh
        simp [f0, f2, hop', e3, -Int.natCast_add]
        refine W_no (by simp) ?_
        simp
        refine W_no (by simp) ?_
        simp [e1, -Int.natCast_add]
        exact ⟨⟨hk510, i + 1, by omega, by rw [hfh]; simp, by rw [hfs]; rfl, rfl⟩, by simp [natAt]; omega⟩
      · intro hb
        have hb : seenB hKey ys i x.imm = true := by simpa using hb
        rw [if_pos hb] at hfh
        simp [f0, f2, hop']
        refine W_no (by simp) ?_
        simp
        refine W_no (by simp) ?_
        simp [e1, -Int.natCast_add]
        exact ⟨⟨hk510, i + 1, by omega, by rw [hfh]; rfl, by rw [hfs]; rfl, rfl⟩, by simp [natAt]; omega⟩
    · have hop' : ¬ (x.op : Int) = 133 := by omega
      have hkh : hKey x = none := by unfold hKey; rw [if_neg hop]
      rw [hkh] at hfh
      simp only at hfh
      by_cases hop2 : x.op = 24 ∧ x.src = 1
      · have hks : sKey x = some x.imm := by unfold sKey; rw [if_pos hop2]
        rw [hks] at hfs
        simp only at hfs
        have hin := hms _ hks
        have hop3 : (x.op : Int) = 24 := by omega
        have hsr : (x.src : Int) = 1 := by omega
        simp [c0, c4, hop', hv4]
        refine W_no (by simp) ?_
        simp [c0, c2, c4, hop3, hsr]
        refine W_yes (by simp) ?_
        simp [c0, c2, c4, hop3, hsr, e64, hv5]
        refine W_yes (by simp) ?_
        refine W_calm (by simp [c4, e64, hv5]) (hasInt_ret w8 (x := x.imm) (rowCalm hr5 hk58) (by omega)) ?_
        intro w9 hk9
        obtain ⟨d0, d2, d4⟩ := hcell w9 hk9
        have hk59 := hk58.trans hk9
        have hslc := hsl5.calm hk59
        refine W_no (by simp [hin]) ?_
        simp [d0, hop3]
        refine W_no (by simp) ?_
        simp
        refine W_no (by simp) ?_
        simp [d0, d2, hop3, hsr]
        refine W_yes (by simp) ?_
        refine W_calm (by simp) (first_ret w9 hslc (by omega) hx) ?_
        intro w10 hk10
        have hk510 := hk59.trans hk10
        rw [seenL_key (like_s hop2.1)]
        have e3 := i64_succ (j := (firstL sKey ys i).length) (by omega)
        refine W_cond (t := !seenB sKey ys i x.imm) (by simp) ?_ ?_
        · intro hb
          have hb : seenB sKey ys i x.imm = false := by simpa using hb
          rw [if_neg (by rw [hb]; simp)] at hfs
          simp [e1, e3, -Int.natCast_add]
          exact ⟨⟨hk510, i + 1, by omega, by rw [hfh]; rfl, by rw [hfs], rfl⟩, by simp [natAt]; omega⟩
        · intro hb
          have hb : seenB sKey ys i x.imm = true := by simpa using hb
          rw [if_pos hb] at hfs
          simp [e1, -Int.natCast_add]
          exact ⟨⟨hk510, i + 1, by omega, by rw [hfh]; rfl, by rw [hfs]; rfl, rfl⟩, by simp [natAt]; omega⟩
      · have hks : sKey x = none := by unfold sKey; rw [if_neg hop2]
        rw [hks] at hfs
        simp only at hfs
        have q18 : ((decide ((x.op : Int) = 24)) && decide ((x.src : Int) = 1)) = false := by
          by_cases h1 : x.op = 24
          · have h2 : ¬ x.src = 1 := fun h => hop2 ⟨h1, h⟩
            have h2' : ¬ (x.src : Int) = 1 := by omega
            simp [h2']
          · have h1' : ¬ (x.op : Int) = 24 := by omega
            simp [h1']
        simp [c0, c4, hop', hv4]
        refine W_no (by simp) ?_
        have q18v : (((wcell w8 bz 0).bind fun u => binV BinOp.eql u (Value.int IntKind.u8 24)).bind fun c => pickV c ((wcell w8 bz 2).bind fun u => binV BinOp.eql u (Value.int IntKind.u8 1)) (some (Value.bool false))) = some (.bool false) := by
          simp [c0, c2, pickV_bool, q18]
        simp [q18v]
        refine W_yes (by simp) ?_
        simp [q18v]
        refine W_no (by simp) ?_
        simp
        refine W_no (by simp) ?_
        simp [c0, hop']
        refine W_no (by simp) ?_
        simp
        refine W_no (by simp) ?_
        simp [q18v]
        refine W_no (by simp) ?_
        simp
        refine W_no (by simp) ?_
        simp [e1, -Int.natCast_add]
        exact ⟨⟨hk58, i + 1, by omega, by rw [hfh]; rfl, by rw [hfs]; rfl, rfl⟩, by simp [natAt]; omega⟩
  · have hie : i = ys.length := by omega
    subst hie
    rw [firstL_len hKey ys hrs, firstL_len sKey ys hss]
    refine W_no (by simp [hl3, hv3]) ?_
    simp only [W_skip, W_exit, Wx_exit_c, Wx_exit_post, Wx_exit_blk, W_seq, W_set, if_true, if_false]
    refine W_calm (by simp) (hchk w6 (hk05.trans hk6)) ?_
    intro w7 hk7
    simp [hv4, hv5, hlh, hls]
    exact (hk05.trans hk6).trans hk7
end Go.Proofs.YtkgpmjjleemdlaaGreat
