/- Layer 18: the helpers and slots that a program names. -/
import Derived.Test.YtkgpmjjleemdlaaGreatSo2
import Derived.Test.YtkgpmjjleemdlaaGreatAs1
import Derived.Test.YtkgpmjjleemdlaaGreatCmdsA
import Derived.Deep.OwnRows
set_option linter.unusedSimpArgs false
set_option linter.unusedVariables false
set_option maxRecDepth 8000
namespace Go.Proofs.YtkgpmjjleemdlaaGreat
open Go.Eng Go.Sort
attribute [local irreducible] Go.Eng.W

/-- A slice of instructions as it comes in. -/
def SlIs (w : World) (v : Value) (xs : List Ins) : Prop := (xs = [] ∧ v = .slice none 0 0) ∨ ∃ b o c, v = .slice (some ⟨b, o, none⟩) xs.length c ∧ xs.length ≤ c ∧ CodeAt w b o xs ∧ b < w.heap.size
theorem SlIs.calm {w w' : World} {v : Value} {xs : List Ins} (h : SlIs w v xs) (hk : Kept none' w w') : SlIs w' v xs := by
  rcases h with h | ⟨b, o, c, h1, h2, h3, h4⟩
  · exact .inl h
  · exact .inr ⟨b, o, c, h1, h2, h3.calm hk, Nat.lt_of_lt_of_le h4 hk.size⟩
theorem SlIs.len {w : World} {v : Value} {xs : List Ins} (h : SlIs w v xs) : lenV false v = some (.int .i64 xs.length) ∧ varV v = some v := by
  rcases h with ⟨rfl, rfl⟩ | ⟨b, o, c, rfl, _⟩ <;> exact ⟨rfl, rfl⟩
theorem SlIs.at {w : World} {v : Value} {xs : List Ins} (h : SlIs w v xs) {i : Nat} {x : Ins} (hx : xs[i]? = some x) : ∃ b o c, v = .slice (some ⟨b, o, none⟩) xs.length c ∧ wrow w b (o + i * 5) 5 = some x.arr := by
  rcases h with ⟨rfl, rfl⟩ | ⟨b, o, c, rfl, _, h2, _⟩
  · simp at hx
  · exact ⟨b, o, c, rfl, h2 i x hx⟩
theorem ins_sl {w : World} {v : Value} {xs : List Ins} (h : InsRow w v xs) : SlIs w v xs := by
  rcases h.2 with ⟨rfl, h0⟩ | ⟨g, cap, cur, rfl, hb, h2, h3, h4, h5, h6⟩
  · exact .inl ⟨List.length_eq_zero_iff.1 h0, rfl⟩
  · refine .inr ⟨g, 0, cap, rfl, h3, ?_, blk_lt h2⟩
    refine code_of_cells fun j y hy => ?_
    rw [Nat.zero_add, wcell_of h2]
    rw [← h6, List.getElem?_take] at hy
    split at hy
    · simpa using hy
    · cases hy
end Go.Proofs.YtkgpmjjleemdlaaGreat

set_option linter.unusedSimpArgs false
set_option linter.unusedVariables false
set_option maxRecDepth 8000
namespace Go.Proofs.YtkgpmjjleemdlaaGreat
open Go.Eng Go.Sort
attribute [local irreducible] Go.Eng.W

theorem row1_get {T : TypeId} {k : IntKind} {w : World} {v : Value} {rs : List Int} (h : Row1 T w v (rs.map (Value.int k))) {i : Nat} {x : Int} (hx : rs[i]? = some x) : ∃ g c, v = .slice (some ⟨g, 0, none⟩) rs.length c ∧ wcell w g i = some (.int k x) := by
  obtain ⟨g, c, e, hc⟩ := row1_ix h (i := i) (x := .int k x) (by rw [List.getElem?_map, hx]; rfl)
  rw [List.length_map] at e
  exact ⟨g, c, e, hc⟩
theorem append_none {P : Program} {t ty e : TypeId} (ht : P.underlying t = some (.slice e)) (hi' : (P.info? e).isSome = true) (a : Addr) (n c : Nat) (hn : n ≤ c) (w : World) :
    (builtin .append #[t, t] ty #[] #[.slice (some a) n c, .slice none 0 0]).run P w = .ok (.value (.slice (some a) n c)) w := by
  obtain ⟨i, hi⟩ := Option.isSome_iff_exists.1 hi'
  simp [builtin, Builtin.append_, run_underlying ht, sizeOf, typeInfo, hi, Builtin.lenOf, hn, Builtin.firstCells, loadCells, loadCellsFrom]
  rfl

theorem SlIs.take {w : World} {v : Value} {xs : List Ins} (h : SlIs w v xs) (n : Nat) : ∃ v', slSlV 5 v (.int .i64 0) (.int .i64 ((min xs.length n : Nat) : Int)) = some v' ∧ SlIs w v' (xs.take n) ∧ lenV false v = some (.int .i64 xs.length) ∧ varV v = some v ∧ varV v' = some v' ∧ lenV false v' = some (.int .i64 (xs.take n).length) := by
  rcases h with ⟨rfl, rfl⟩ | ⟨b, o, c, rfl, h2, h3, h4⟩
  · exact ⟨.slice none 0 0, by simp, .inl ⟨by simp, rfl⟩, rfl, rfl, rfl, by simp⟩
  · have h5 : ((min xs.length n : Nat) : Int) ≤ c := by omega
    refine ⟨.slice (some ⟨b, o, none⟩) (xs.take n).length c, ?_, .inr ⟨b, o, c, rfl, by rw [List.length_take]; omega, h3.take n, h4⟩, rfl, rfl, rfl, rfl⟩
    rw [List.length_take, Nat.min_comm]
    rw [Nat.min_comm] at h5
    simp [h5]
theorem SlIs.append {w : World} {v ov : Value} {out xs : List Ins} (h : SlIs w v xs) (hrow : InsRow w ov out) (hs : out.length + xs.length ≤ 1000000) :
    ∃ v' w', (builtin .append #[29, 29] 29 #[] #[ov, v]).run Tryz.prog w = .ok (.value v') w' ∧ InsRow w' v' (out ++ xs) ∧ Kept (fun j => ov.ownBlock = some j) w w' ∧ (v'.ownBlock = ov.ownBlock ∨ v'.ownBlock = some w.heap.size) := by
  rcases h with ⟨rfl, rfl⟩ | ⟨b, o, c, rfl, h2, h3, h4⟩
  · refine ⟨ov, w, ?_, by simpa using hrow, Kept.refl _ _, .inl rfl⟩
    rcases hrow.2 with ⟨rfl, _⟩ | ⟨g, cap, cur, rfl, _, _, hc, _⟩
    · obtain ⟨i, hi⟩ : ∃ i, Tryz.prog.info? 28 = some i := Option.isSome_iff_exists.1 (by kernel_rfl)
      simp [builtin, Builtin.append_, run_underlying Tryz.underlying29, sizeOf, typeInfo, hi, Builtin.lenOf, Builtin.firstCells, loadCells, loadCellsFrom]
    · exact append_none Tryz.underlying29 (by kernel_rfl) _ _ _ hc w
  · exact ins_append hrow hs h3
end Go.Proofs.YtkgpmjjleemdlaaGreat

set_option linter.unusedSimpArgs false
set_option linter.unusedVariables false
set_option maxRecDepth 8000
namespace Go.Proofs.YtkgpmjjleemdlaaGreat
open Go.Eng Go.Sort
attribute [local irreducible] Go.Eng.W

theorem ckind_T (w0 : World) {x : Ins} (hx : x.wf) : T Tryz.prog w0 47 [x.val] = some (.int .i64 (kindOf x)) :=
  T_of (by kernel_rfl) Tryz.func47 rfl ok_cfg_kind (by simp) (by simp) fun B hB => by
    have e := Of_T w0 hx.op
    simp [c_cfg_kind, e, Parts.val, kindOf]

def jumpsTo (i : Nat) (x : Ins) : List Int := if x.off = 0 then [(i : Int) + 1] else if x.off < 0 then [(i : Int) + x.off + 1, (i : Int) + 1] else [(i : Int) + 1, (i : Int) + x.off + 1]
def behindOf (i : Nat) (x : Ins) : List Int :=
  if kindOf x = 0 ∨ kindOf x = 5 ∨ kindOf x = 10 then [] else if kindOf x = 3 then [(i : Int) + x.off + 1] else if kindOf x = 2 then jumpsTo i x else if kindOf x = 9 then [(i : Int) + 2] else [(i : Int) + 1]

theorem sort_two (a b : Int) : [a, b].mergeSort (fun x y => decide (x ≤ y)) = if a ≤ b then [a, b] else [b, a] := by
  by_cases h : a ≤ b <;> simp [List.mergeSort, List.MergeSort.Internal.splitInTwo, List.merge, h]
theorem dd_two (a b : Int) : ddP #[a, b] 2 = if a = b then [a] else [a, b] := by
  by_cases h : a = b
  · simp [ddP, h]
  · have h' : ¬ b = a := fun e => h e.symm
    simp [ddP, h, h']
theorem jumps_sorted (i : Nat) (x : Ins) : let l := [(i : Int) + 1, (i : Int) + x.off + 1].mergeSort (fun x y => decide (x ≤ y)); ddP l.toArray l.length = jumpsTo i x := by
  simp only [sort_two]
  unfold jumpsTo
  by_cases h0 : x.off = 0
  · rw [if_pos h0, if_pos (by omega)]
    rw [show [(i : Int) + 1, (i : Int) + x.off + 1].toArray = #[(i : Int) + 1, (i : Int) + x.off + 1] from rfl]
    simp only [List.length_cons, List.length_nil]
    rw [dd_two, if_pos (by omega)]
  · rw [if_neg h0]
    by_cases h1 : x.off < 0
    · rw [if_pos h1, if_neg (by omega)]
      show ddP #[_, _] 2 = _
      rw [dd_two, if_neg (by omega)]
    · rw [if_neg h1, if_pos (by omega)]
      show ddP #[_, _] 2 = _
      rw [dd_two, if_neg (by omega)]

theorem row1_two {T : TypeId} (w : World) (x y : Value) : Row1 T (w.alloc (.cells #[x, y] T)) (.slice (some ⟨w.heap.size, 0, none⟩) 2 2) [x, y] :=
  ⟨by simp, .inr ⟨w.heap.size, 2, #[x, y], rfl, by omega, hp_new w _, by simp, by unfold maxLen; omega, by simp, by simp⟩⟩
theorem own_ge {b o n c bz : Nat} (h : bz ≤ b) : ∀ j, (Value.slice (some ⟨b, o, none⟩) n c).ownBlock = some j → bz ≤ j := by
  intro j hj
  simp [Value.ownBlock] at hj
  omega
theorem behind_ret (w : World) {x : Ins} (hx : x.wf) {i : Nat} (hi : i ≤ 1000) :
    Ret Tryz.prog 138 [.int .i64 i, x.val] w fun r w' => Kept none' w w' ∧ Row1 3 w' r ((behindOf i x).map (Value.int .i64)) ∧ ∀ j, r.ownBlock = some j → w.heap.size ≤ j := by
  refine ret_of_W Tryz.func138 rfl ok_cfg_behind ?_
  simp only [c_cfg_behind, W_seq, W_set]
  refine W_new' (v := x.val) (cs := x.arr) (by simp) rfl ?_
  have hZ := hp_new w (.cells x.arr 28)
  have hka := (Kept.refl none' w).alloc (.cells x.arr 28)
  generalize hw1 : (w.alloc (.cells x.arr 28)) = w1 at *
  have hsz : w.heap.size ≤ w1.heap.size := hka.size
  generalize hbz : w.heap.size = bz at *
  simp only [W_seq, W_set]
  refine ok_intro (.slice none 0 0) (by simp) ?_
  try simp only [W_seq]
  refine W_calm (by simp [wrow_of hZ]) (ret_of_T (ckind_T w1 hx)) ?_
  intro w2 hk2
  have hk02 := hka.trans hk2
  have hZ2 := hk2.has hZ (fun h => h)
  unfold behindOf
  by_cases ha : kindOf x = 0 ∨ kindOf x = 5 ∨ kindOf x = 10
  · rw [if_pos ha]
    have fin : Kept none' w w2 ∧ Row1 3 w2 (.slice none 0 0) (([] : List Int).map (Value.int .i64)) ∧ ∀ j, (Value.slice none 0 0).ownBlock = some j → bz ≤ j := ⟨hk02, row1_nil _ _, fun j hj => by simp [Value.ownBlock] at hj⟩
    by_cases h0 : kindOf x = 0
    · simp [h0]
      refine W_yes (by simp) ?_
      simp
      refine W_yes (by simp) ?_
      simpa using fin
    · by_cases h5 : kindOf x = 5
      · simp [h5]
        refine W_no (by simp) ?_
        simp
        refine W_yes (by simp) ?_
        simp
        refine W_yes (by simp) ?_
        simpa using fin
      · have h10 : kindOf x = 10 := by omega
        simp [h10]
        refine W_no (by simp) ?_
        simp
        refine W_no (by simp) ?_
        simp
        refine W_yes (by simp) ?_
        simpa using fin
  have h0 : ¬ kindOf x = 0 := by omega
  have h5 : ¬ kindOf x = 5 := by omega
  have h10 : ¬ kindOf x = 10 := by omega
  rw [if_neg ha]
  simp
  refine W_no (by simp [h0]) ?_
  simp
  refine W_no (by simp [h5]) ?_
  simp
  refine W_no (by simp [h10]) ?_
  simp
  by_cases h3 : kindOf x = 3
  · rw [if_pos h3]
    refine W_yes (by simp [h3]) ?_
    simp only [W_seq]
    refine W_calm (by simp [wrow_of hZ2]) (ret_of_T (target_T w2 i (by omega) hx)) ?_
    intro w3 hk3
    try simp only [W_seq]
    refine W_row' (v := .agg #[.int .i64 ((i : Int) + x.off + 1)]) (cs := #[.int .i64 ((i : Int) + x.off + 1)]) (by simp; try rfl) rfl ?_
    simp
    exact ⟨(hk02.trans hk3).alloc _, row1_one w3 _, own_ge (by have := (hk02.trans hk3).size; omega)⟩
  rw [if_neg h3]
  refine W_no (by simp [h3]) ?_
  simp
  by_cases h2 : kindOf x = 2
  · rw [if_pos h2]
    refine W_yes (by simp [h2]) ?_
    simp only [W_seq]
    have e1 : IntKind.i64.wrap ((i : Int) + 1) = (i : Int) + 1 := i64w (by omega) (by omega)
    have hz1 : (#[.int .i64 0, .int .i64 0] : Array Value).size = 2 := rfl
    refine W_chkIn [.int .i64 ((i : Int) + 1)] (by simp [e1]) ?_
    try simp only [W_seq]
    refine W_calm (by simp [wrow_of hZ2]) (ret_of_T (target_T w2 i (by omega) hx)) ?_
    intro w3 hk3
    have hk03 := hk02.trans hk3
    try simp only [W_seq]
    refine W_row' (v := .agg #[.int .i64 ((i : Int) + 1), .int .i64 ((i : Int) + x.off + 1)]) (cs := #[.int .i64 ((i : Int) + 1), .int .i64 ((i : Int) + x.off + 1)]) (by simp [e1]; try rfl) rfl ?_
    have hr1 : Row1 3 _ _ (([(i : Int) + 1, (i : Int) + x.off + 1] : List Int).map (Value.int .i64)) := row1_two (T := 3) w3 (.int .i64 ((i : Int) + 1)) (.int .i64 ((i : Int) + x.off + 1))
    have hk04 := hk03.alloc (.cells #[.int .i64 ((i : Int) + 1), .int .i64 ((i : Int) + x.off + 1)] 3)
    have hs3 : bz ≤ w3.heap.size := by have := hk03.size; omega
    generalize (w3.alloc (.cells #[.int .i64 ((i : Int) + 1), .int .i64 ((i : Int) + x.off + 1)] 3)) = w4 at *
    simp only [W_seq, W_set]
    refine ok_intro (.slice (some ⟨w3.heap.size, 0, none⟩) 2 2) (by simp) ?_
    try simp only [W_seq]
    refine W_call (by simp) (sort64_ret w4 hr1 (by simp)) ?_
    rintro r w5 ⟨rfl, hr5, hk5⟩
    refine ⟨stab_nil _ _ _, ?_⟩
    try simp only [W_seq]
    refine W_call (by simp) (compact64_ret w5 hr5 (by simp)) ?_
    rintro r6 w6 ⟨hr6, hk6, hat⟩
    refine ⟨stab_nil _ _ _, ?_⟩
    rw [jumps_sorted] at hr6
    have hv6 := rowVar hr6
    have hown : ∀ j, (Value.slice (some ⟨w3.heap.size, 0, none⟩) 2 2).ownBlock = some j → bz ≤ j := own_ge hs3
    have hk05 : Kept none' w w5 := hk04.then hk5 fun j hj h => by have := hown j h; omega
    have hk06 : Kept none' w w6 := hk05.then hk6 fun j hj h => by have := hown j h; omega
    simp [hv6]
    exact ⟨hk06, hr6, fun j hj => hown j (hat j hj)⟩
  rw [if_neg h2]
  refine W_no (by simp [h2]) ?_
  simp
  by_cases h9 : kindOf x = 9
  · rw [if_pos h9]
    refine W_yes (by simp [h9]) ?_
    simp only [W_seq]
    have e2 : IntKind.i64.wrap ((i : Int) + 2) = (i : Int) + 2 := i64w (by omega) (by omega)
    refine W_row' (v := .agg #[.int .i64 ((i : Int) + 2)]) (cs := #[.int .i64 ((i : Int) + 2)]) (by simp [e2]; try rfl) rfl ?_
    simp
    exact ⟨hk02.alloc _, row1_one w2 _, own_ge (by have := hk02.size; omega)⟩
  rw [if_neg h9]
  refine W_no (by simp [h9]) ?_
  have e1 : IntKind.i64.wrap ((i : Int) + 1) = (i : Int) + 1 := i64w (by omega) (by omega)
  simp [e1]
  exact ⟨hk02.alloc _, row1_one w2 _, own_ge (by have := hk02.size; omega)⟩
end Go.Proofs.YtkgpmjjleemdlaaGreat

set_option linter.unusedSimpArgs false
set_option linter.unusedVariables false
set_option maxRecDepth 8000
namespace Go.Proofs.YtkgpmjjleemdlaaGreat
open Go.Eng Go.Sort
attribute [local irreducible] Go.Eng.W

theorem index_none {v : Value} {ns : List Int} {g : FuncId} {cap : Array Value} (w : World) (h : Row1 3 w v (ns.map (Value.int .i64))) (hn : ns.length ≤ 1000) (hg : funOk Tryz.prog g = true)
    (hcl : ∀ n ∈ ns, ∀ w', Kept none' w w' → Ret Tryz.prog g (.int .i64 n :: cap.toList) w' fun r w'' => r = .bool false ∧ Kept none' w' w'') :
    Ret Tryz.prog 158 [v, .func (.func g) #[] cap] w fun r w' => r = .int .i64 (-1) ∧ Kept none' w w' := by
  refine ret_of_W Tryz.func158 rfl ok_cf_IndexFunc ?_
  have hl := row1_len h
  rw [List.length_map] at hl
  have hv := rowVar h
  simp only [c_cf_IndexFunc, W_seq, W_set]
  refine ok_intro (.int .i64 0) (by simp) ?_
  try simp only [W_seq, W_set]
  refine ok_intro (.int .i64 ns.length) (by simp [hl, hv]) ?_
  try simp only [W_seq, W_set]
  refine ok_intro (.int .i64 0) (by simp) ?_
  try simp only [W_seq]
  rw [W_block]
  refine W_loop (fun env w' => Kept none' w w' ∧ ∃ i : Nat, i ≤ ns.length ∧ env = [v, .func (.func g) #[] cap, undef, .int .i64 (i : Nat), .int .i64 ns.length, undef, undef]) (fun env _ => ns.length - natAt env 3) ?_ ?_
  · exact ⟨Kept.refl _ _, 0, by omega, by simp [hv]⟩
  rintro env w1 ⟨hk1, i, hi, rfl⟩
  simp only [W_seq]
  by_cases hgo : i < ns.length
  · have hgo' : (i : Int) < ns.length := by omega
    have hge : (0 : Int) ≤ i := by omega
    have e1 := i64_succ (j := i) (by omega)
    have hx : ns[i]? = some ns[i] := List.getElem?_eq_getElem hgo
    have hm := List.mem_of_getElem? hx
    generalize ns[i] = y at *
    obtain ⟨q, c, rfl, hc⟩ := row1_get (rowCalm h hk1) hx
    refine W_yes (by simp [hgo']) ?_
    simp only [W_skip, W_seq, W_block, W_set]
    refine ok_intro (.int .i64 i) (by simp) ?_
    try simp only [W_seq]
    refine W_dyn (g := g) (first := #[]) (cap := cap) (by simp) (vs := [.int .i64 y]) (by simp [hge, hgo', hgo, hc]) hg (by simpa using hcl y hm w1 hk1) ?_
    rintro r w2 ⟨rfl, hk2⟩
    refine ⟨stab_nil _ _ _, ?_⟩
    refine W_no (by simp) ?_
    simp [e1, -Int.natCast_add]
    exact ⟨⟨hk1.trans hk2, i + 1, by omega, rfl⟩, by simp [natAt]; omega⟩
  · have hie : i = ns.length := by omega
    subst hie
    refine W_no (by simp [hl, hv]) ?_
    simp
    exact hk1
theorem delete_none {v : Value} {ns : List Int} {g : FuncId} {cap : Array Value} (w : World) (h : Row1 3 w v (ns.map (Value.int .i64))) (hn : ns.length ≤ 1000) (hg : funOk Tryz.prog g = true)
    (hcl : ∀ n ∈ ns, ∀ w', Kept none' w w' → Ret Tryz.prog g (.int .i64 n :: cap.toList) w' fun r w'' => r = .bool false ∧ Kept none' w' w'') :
    Ret Tryz.prog 137 [v, .func (.func g) #[] cap] w fun r w' => r = v ∧ Kept none' w w' := by
  refine ret_of_W Tryz.func137 rfl ok_cf_DeleteFunc ?_
  have hv := rowVar h
  simp only [c_cf_DeleteFunc, W_seq, W_set]
  refine ok_intro (.slice none 0 0) (by simp) ?_
  try simp only [W_seq]
  refine W_calm (by simp [hv]) (index_none w h hn hg hcl) ?_
  intro w1 hk1
  simp
  refine W_yes (by simp) ?_
  simp [hv]
  exact hk1
theorem out_ret {n : Int} {b : Nat} {v : Value} {xs : List Ins} (w : World) (h : SlIs w v xs) (hb : w.heap[b]? = some (.cells #[v] 29 (0, 0))) (h0 : 0 ≤ n) (h1 : n < xs.length) :
    Ret Tryz.prog 139 [.int .i64 n, .pointer (some ⟨b, 0, none⟩)] w fun r w' => r = .bool false ∧ Kept none' w w' := by
  refine ret_of_W Tryz.func139 rfl ok_cfg_Next_1 ?_
  obtain ⟨hl, hv⟩ := h.len
  have hc : wcell w b 0 = some v := by rw [wcell_of hb]; rfl
  have hn0 : ¬ n < 0 := by omega
  have hn1 : ¬ (xs.length : Int) ≤ n := by omega
  simp [c_cfg_Next_1, hc, hl, hn0, hn1]
  exact Kept.refl _ _
def InAll (xs : List Ins) (i : Nat) (x : Ins) : Prop := ∀ n ∈ behindOf i x, 0 ≤ n ∧ n < xs.length
theorem behind_len (i : Nat) (x : Ins) : (behindOf i x).length ≤ 2 := by
  unfold behindOf jumpsTo
  repeat' split
  all_goals simp
theorem next_ret {v : Value} {xs : List Ins} {i : Nat} {x : Ins} (w : World) (h : SlIs w v xs) (hx : xs[i]? = some x) (hw : x.wf) (hn : xs.length ≤ 1000) (hin : InAll xs i x) :
    Ret Tryz.prog 116 [v, .int .i64 i] w fun r w' => Kept none' w w' ∧ Row1 3 w' r ((behindOf i x).map (Value.int .i64)) ∧ ∀ j, r.ownBlock = some j → w.heap.size ≤ j := by
  refine ret_of_W Tryz.func116 rfl ok_cfg_Next ?_
  have hi : i < xs.length := (List.getElem?_eq_some_iff.1 hx).1
  obtain ⟨hl, hv⟩ := h.len
  have hi' : ¬ (xs.length : Int) ≤ i := by omega
  have hi2 : (i : Int) < xs.length := by omega
  have hge : ¬ (i : Int) < 0 := by omega
  obtain ⟨b, o, c, rfl, _⟩ := h.at hx
  simp only [c_cfg_Next, W_seq, W_set]
  refine W_new' (v := .slice (some ⟨b, o, none⟩) xs.length c) (cs := #[.slice (some ⟨b, o, none⟩) xs.length c]) (by simp) rfl ?_
  have hZ := hp_new w (.cells #[.slice (some ⟨b, o, none⟩) xs.length c] 29)
  have hka := (Kept.refl none' w).alloc (.cells #[.slice (some ⟨b, o, none⟩) xs.length c] 29)
  generalize (w.alloc (.cells #[.slice (some ⟨b, o, none⟩) xs.length c] 29)) = w1 at *
  generalize hbz : w.heap.size = bz at *
  simp only [W_seq, W_set]
  refine ok_intro (.slice none 0 0) (by simp) ?_
  try simp only [W_seq]
  have hc : ∀ w', Kept none' w1 w' → w'.heap[bz]? = some (.cells #[.slice (some ⟨b, o, none⟩) xs.length c] 29 (0, 0)) := fun w' hk => hk.has hZ fun h => h
  have hc0 : wcell w1 bz 0 = some (.slice (some ⟨b, o, none⟩) xs.length c) := by rw [wcell_of hZ]; rfl
  refine W_no (by simp [hge, hc0, hi']) ?_
  simp only [W_skip, W_seq]
  obtain ⟨b', o', c', e, hrow⟩ := (h.calm hka).at hx
  simp at e
  obtain ⟨⟨rfl, rfl⟩, rfl⟩ := e
  refine W_calmP (by simp [hc0, hi, hi2, hge, hrow]) (behind_ret w1 hw (i := i) (by omega)) ?_
  rintro v2 w2 hk2 ⟨hr2, ho2⟩
  have hv2 := rowVar hr2
  try simp only [W_seq]
  refine W_chkIn [.func (.func 139) #[] #[.pointer (some ⟨bz, 0, none⟩)]] (by simp) ?_
  try simp only [W_seq]
  have hk02 := hka.trans hk2
  refine W_calm (by simp [hv2]; try rfl) (delete_none w2 hr2 (by have := behind_len i x; omega) (by kernel_rfl) fun n hm w' hk => out_ret w' ((h.calm hk02).calm hk) (hc w' (hk2.trans hk)) (hin n hm).1 (hin n hm).2) ?_
  intro w3 hk3
  simp [hv2]
  exact ⟨hk02.trans hk3, rowCalm hr2 hk3, fun j hj => by have := ho2 j hj; have := hka.size; omega⟩
end Go.Proofs.YtkgpmjjleemdlaaGreat

set_option linter.unusedSimpArgs false
set_option linter.unusedVariables false
set_option maxRecDepth 8000
namespace Go.Proofs.YtkgpmjjleemdlaaGreat
open Go.Eng Go.Sort
attribute [local irreducible] Go.Eng.W

/-- What a walk over a list of places leaves: colours, and whether there is a loop; so deep. -/
inductive VisitL (xs : List Ins) : Nat → Array Int → Bool → List Int → Array Int → Bool → Prop
  | nil (k : Nat) (d : Array Int) (lo : Bool) : VisitL xs k d lo [] d lo
  | opened {k : Nat} {d d' : Array Int} {lo lo' : Bool} {n : Int} {ns : List Int} (h : d[n.toNat]! = 1) (hr : VisitL xs k d true ns d' lo') : VisitL xs k d lo (n :: ns) d' lo'
  | fresh {k : Nat} {d d1 d' : Array Int} {lo lo1 lo' : Bool} {n : Int} {ns : List Int} {x : Ins} (h : d[n.toNat]! = 0) (hx : xs[n.toNat]? = some x)
      (h1 : VisitL xs k (d.setIfInBounds n.toNat 1) lo (behindOf n.toNat x) d1 lo1) (hr : VisitL xs (k + 1) (d1.setIfInBounds n.toNat 2) lo1 ns d' lo') : VisitL xs (k + 1) d lo (n :: ns) d' lo'
  | closed {k : Nat} {d d' : Array Int} {lo lo' : Bool} {n : Int} {ns : List Int} (h0 : d[n.toNat]! ≠ 0) (h : d[n.toNat]! ≠ 1) (hr : VisitL xs k d lo ns d' lo') : VisitL xs k d lo (n :: ns) d' lo'
theorem VisitL.size {xs : List Ins} {k : Nat} {d d' : Array Int} {lo lo' : Bool} {ns : List Int} (h : VisitL xs k d lo ns d' lo') : d'.size = d.size := by
  induction h with
  | nil => rfl
  | opened _ _ ih => exact ih
  | fresh _ _ _ _ ih1 ih2 => rw [ih2, Array.size_setIfInBounds, ih1, Array.size_setIfInBounds]
  | closed _ _ _ ih => exact ih

structure WalkAt (w : World) (bw gc c : Nat) (v : Value) (d : Array Int) (lo : Bool) : Prop where
  box : w.heap[bw]? = some (.cells #[v, .slice (some ⟨gc, 0, none⟩) d.size c, .bool lo] 105 (0, 0))
  arr : ArrAt 3 .i64 w gc c d
  ne : bw ≠ gc
theorem WalkAt.calm {w w' : World} {bw gc c : Nat} {v : Value} {d : Array Int} {lo : Bool} (h : WalkAt w bw gc c v d lo) (hk : Kept none' w w') : WalkAt w' bw gc c v d lo := ⟨hk.has h.box fun h => h, h.arr.calm hk, h.ne⟩
theorem WalkAt.color {w : World} {bw gc c : Nat} {v : Value} {d : Array Int} {lo : Bool} (h : WalkAt w bw gc c v d lo) {i : Nat} (hi : i < d.size) (x : Int) :
    ∃ w', stv w 1 (.pointer (some ⟨gc, i, none⟩)) (.int .i64 x) = some w' ∧ WalkAt w' bw gc c v (d.setIfInBounds i x) lo ∧ Kept (fun j => j = bw ∨ j = gc) w w' := by
  obtain ⟨w', h1, h2, h3⟩ := h.arr.put hi x
  refine ⟨w', h1, ⟨?_, h2, h.ne⟩, h3.mono fun _ _ h => .inr h⟩
  have := h3.has h.box h.ne
  simpa using this
theorem WalkAt.loop {w : World} {bw gc c : Nat} {v : Value} {d : Array Int} {lo : Bool} (h : WalkAt w bw gc c v d lo) (h1 : v.cells = #[v]) :
    ∃ w', stv w 1 (.pointer (some ⟨bw, 2, none⟩)) (.bool true) = some w' ∧ WalkAt w' bw gc c v d true ∧ Kept (fun j => j = bw ∨ j = gc) w w' := by
  have hb := blk_lt h.box
  refine ⟨put w bw (.cells #[v, .slice (some ⟨gc, 0, none⟩) d.size c, .bool true] 105 (0, 0)), ?_, ⟨put_same hb, ?_, h.ne⟩, (Kept.refl _ w).put (fun _ => .inl rfl) _⟩
  · rw [stv_of (n := 1) (v := .bool true) h.box rfl (by simp) (.inl (by simp)) (by simp [Value.cells, Value.oneCell'])]
    rfl
  · have hk := (Kept.refl (fun j => j = bw) w).put (b := bw) (fun _ => rfl) (.cells #[v, .slice (some ⟨gc, 0, none⟩) d.size c, .bool true] 105 (0, 0))
    exact h.arr.keep hk (fun e => h.ne e.symm)

theorem slCells {w : World} {v : Value} {xs : List Ins} (h : SlIs w v xs) : v.cells = #[v] := by
  rcases h with ⟨_, rfl⟩ | ⟨b, o, c, rfl, _⟩ <;> rfl
def Tame (xs : List Ins) : Prop := ∀ (i : Nat) (x : Ins), xs[i]? = some x → InAll xs i x ∧ x.wf
def VisAt (xs : List Ins) (k bw gc c : Nat) (v : Value) (ns : List Int) (d1 : Array Int) (lo1 : Bool) (w : World) (i : Nat) : Prop :=
  ∃ (d' : Array Int) (lo' : Bool), d'.size = xs.length ∧ WalkAt w bw gc c v d' lo' ∧ VisitL xs k d' lo' (ns.drop i) d1 lo1
set_option maxHeartbeats 1000000 in
theorem visit_ret {xs : List Ins} (ht : Tame xs) (hn : xs.length ≤ 1000) : ∀ (k : Nat) (w00 w : World) (bw gc c n : Nat) (v : Value) (x : Ins) (d d1 : Array Int) (lo lo1 : Bool), SlIs w00 v xs → Kept none' w00 w → w00.heap.size ≤ bw → w00.heap.size ≤ gc →
    WalkAt w bw gc c v d lo → d.size = xs.length → xs[n]? = some x → VisitL xs k (d.setIfInBounds n 1) lo (behindOf n x) d1 lo1 →
    Ret Tryz.prog 88 [.pointer (some ⟨bw, 0, none⟩), .int .i64 n] w fun r w' => r = .tuple #[] ∧ WalkAt w' bw gc c v (d1.setIfInBounds n 2) lo1 ∧ Kept (fun j => j = bw ∨ j = gc) w w' := by
  intro k
  induction k using Nat.strongRecOn with
  | _ k ih =>
  intro w00 w bw gc c n v x d d1 lo lo1 hsl hk00 hbw hgc hw hd hx hv
  refine ret_of_W Tryz.func88 rfl ok_cfg_walk_visit ?_
  obtain ⟨hl, hvv⟩ := hsl.len
  have hnl : n < xs.length := (List.getElem?_eq_some_iff.1 hx).1
  have hnl' : (n : Int) < d.size := by omega
  have hnd : n < d.size := by omega
  have hne : (0 : Int) ≤ n := by omega
  have f1 : wcell w bw 1 = some (.slice (some ⟨gc, 0, none⟩) d.size c) := by rw [wcell_of hw.box]; rfl
  simp only [c_cfg_walk_visit, W_seq]
  obtain ⟨w1, hs1, hw1, hk1⟩ := hw.color hnd 1
  refine W_store (xv := .pointer (some ⟨gc, n, none⟩)) (vv := .int .i64 1) (by simp [f1, hnl', hne, hnd]) (by simp) hs1 (stab_nil _ _ _) ?_
  have hk01 : Kept none' w00 w1 := hk00.then hk1 fun j hj h => by omega
  have f0 : wcell w1 bw 0 = some v := by rw [wcell_of hw1.box]; rfl
  try simp only [W_seq]
  refine W_calmP (by simp [f0, hvv]) (next_ret w1 (hsl.calm hk01) hx (ht n x hx).2 hn (ht n x hx).1) ?_
  rintro v2 w2 hk2 ⟨hr2, ho2⟩
  have hl2 := row1_len hr2
  rw [List.length_map] at hl2
  have hv2 := rowVar hr2
  have hin := (ht n x hx).1
  unfold InAll at hin
  have hbl := behind_len n x
  generalize behindOf n x = ns at *
  have ho2' : ∀ j, v2.ownBlock = some j → ¬ (j = bw ∨ j = gc) := fun j hj => by
    have := ho2 j hj
    have h1 := hk1.size
    have h2 := blk_lt hw.box
    have h3 := hw.arr.lt
    omega
  simp only [W_seq, W_set]
  refine ok_intro (.int .i64 ns.length) (by simp [hl2, hv2]) ?_
  try simp only [W_seq, W_set]
  refine ok_intro (.int .i64 0) (by simp) ?_
  try simp only [W_seq]
  rw [W_block]
  have hw2 := hw1.calm hk2
  refine W_loop (fun env w' => Kept (fun j => j = bw ∨ j = gc) w2 w' ∧ ∃ i : Nat, i ≤ ns.length ∧ VisAt xs k bw gc c v ns d1 lo1 w' i ∧
    env = [.pointer (some ⟨bw, 0, none⟩), .int .i64 n, v2, .int .i64 i, .int .i64 ns.length, undef, undef, undef, undef]) (fun env _ => ns.length - natAt env 3) ?_ ?_
  · exact ⟨Kept.refl _ _, 0, by omega, ⟨_, lo, by simp [hd], hw2, by simpa using hv⟩, by simp [hv2]⟩
  clear hw2
  rintro env w3 ⟨hk3, i, hi, ⟨d', lo', hd', hw3, hv3⟩, rfl⟩
  have hk02 := hk01.trans hk2
  have hk03 : Kept none' w00 w3 := hk02.then hk3 fun j hj h => by omega
  have hr3 := rowKeep hr2 hk3 ho2'
  have g1 : wcell w3 bw 1 = some (.slice (some ⟨gc, 0, none⟩) d'.size c) := by rw [wcell_of hw3.box]; rfl
  simp only [W_seq]
  by_cases hgo : i < ns.length
  · have hgo' : (i : Int) < ns.length := by omega
    have hge : (0 : Int) ≤ i := by omega
    have e1 := i64_succ (j := i) (by omega)
    have hy : ns[i]? = some ns[i] := List.getElem?_eq_getElem hgo
    have hdr : ns.drop i = ns[i] :: ns.drop (i + 1) := List.drop_eq_getElem_cons hgo
    rw [hdr] at hv3
    have hyin := hin _ (List.mem_of_getElem? hy)
    generalize ns[i] = y at *
    have hyn : y = (y.toNat : Nat) := by omega
    generalize y.toNat = m at *
    subst hyn
    have hm : m < d'.size := by omega
    have hm' : (m : Int) < d'.size := by omega
    have hm0 : (0 : Int) ≤ m := by omega
    obtain ⟨q, cc, e, hc⟩ := row1_get hr3 hy
    subst e
    have gc1 := hw3.arr.get hm
    refine W_yes (by simp [hgo']) ?_
    simp only [W_skip, W_seq, W_block, W_set]
    refine ok_intro (.int .i64 m) (by simp [hge, hgo', hgo, hc]) ?_
    try simp only [W_seq, W_set]
    refine ok_intro (.int .i64 d'[m]!) (by simp [g1, hm', hm0, hm, gc1]) ?_
    try simp only [W_seq, W_block, W_set]
    refine ok_intro (.bool (decide (d'[m]! = 1))) (by simp) ?_
    cases hv3 with
    | opened h hr =>
      rw [Int.toNat_natCast] at h
      obtain ⟨w4, hs4, hw4, hk4⟩ := hw3.loop (slCells hsl)
      refine W_yes (by simp [h]) ?_
      refine W_store (xv := .pointer (some ⟨bw, 2, none⟩)) (vv := .bool true) (by simp) (by simp) hs4 (stab_nil _ _ _) ?_
      simp [e1, -Int.natCast_add]
      exact ⟨⟨hk3.trans hk4, i + 1, by omega, ⟨d', true, hd', hw4, hr⟩, rfl⟩, by simp [natAt]; omega⟩
    | fresh h hxm h1 hr =>
      rename_i k' d2 lo2 xm
      rw [Int.toNat_natCast] at h hxm h1 hr
      have hs2 := h1.size
      rw [Array.size_setIfInBounds] at hs2
      refine W_no (by simp [h]) ?_
      simp only [W_seq, W_set]
      refine ok_intro (.bool (decide (d'[m]! = 0))) (by simp) ?_
      refine W_yes (by simp [h]) ?_
      refine W_call (by simp) (ih k' (by omega) w00 w3 bw gc c m v xm d' d2 lo' lo2 hsl hk03 hbw hgc hw3 hd' hxm h1) ?_
      rintro r w4 ⟨rfl, hw4, hk4⟩
      refine ⟨stab_nil _ _ _, ?_⟩
      simp [e1, -Int.natCast_add]
      exact ⟨⟨hk3.trans hk4, i + 1, by omega, ⟨d2.setIfInBounds m 2, lo2, by simp; omega, hw4, hr⟩, rfl⟩, by simp [natAt]; omega⟩
    | closed h0 h hr =>
      rw [Int.toNat_natCast] at h h0
      refine W_no (by simp [h]) ?_
      simp only [W_seq, W_set]
      refine ok_intro (.bool (decide (d'[m]! = 0))) (by simp) ?_
      refine W_no (by simp [h0]) ?_
      simp [e1, -Int.natCast_add]
      exact ⟨⟨hk3, i + 1, by omega, ⟨d', lo', hd', hw3, hr⟩, rfl⟩, by simp [natAt]; omega⟩
  · have hie : i = ns.length := by omega
    subst hie
    rw [List.drop_length] at hv3
    cases hv3
    refine W_no (by simp [hl2, hv2]) ?_
    have hnd' : n < d1.size := by omega
    have hnl2 : (n : Int) < d1.size := by omega
    obtain ⟨w4, hs4, hw4, hk4⟩ := hw3.color hnd' 2
    simp
    refine W_store (xv := .pointer (some ⟨gc, n, none⟩)) (vv := .int .i64 2) (by simp [g1, hnl2, hne, hnd']) (by simp) hs4 (stab_nil _ _ _) ?_
    simp
    exact ⟨hw4, ((hk1.trans (hk2.any)).trans hk3).trans hk4⟩
end Go.Proofs.YtkgpmjjleemdlaaGreat

set_option linter.unusedSimpArgs false
set_option linter.unusedVariables false
set_option maxRecDepth 8000
namespace Go.Proofs.YtkgpmjjleemdlaaGreat
open Go.Eng Go.Sort
attribute [local irreducible] Go.Eng.W

theorem run_mki (n : Nat) (hn : n ≤ 1000000) (w : World) : ((Tag.mk 26).sem [.int .i64 n, .int .i64 n]).run Tryz.prog w = .ok (.slice (some ⟨w.heap.size, 0, none⟩) n n) (w.alloc (.cells (madeCells #[.int .i64 0] n) 3)) :=
  run_make_row' (P := Tryz.prog) 26 3 (.int .i64 0) 8 Tryz.underlying26 (by kernel_rfl) rfl .i64 .i64 n (by omega) (by omega) w
theorem run_mkbool (n : Nat) (hn : n ≤ 1000000) (w : World) : ((Tag.mk 37).sem [.int .i64 n, .int .i64 n]).run Tryz.prog w = .ok (.slice (some ⟨w.heap.size, 0, none⟩) n n) (w.alloc (.cells (madeCells #[.bool false] n) 4)) :=
  run_make_row' (P := Tryz.prog) 37 4 (.bool false) 1 Tryz.underlying37 (by kernel_rfl) rfl .i64 .i64 n (by omega) (by omega) w
theorem made_arr (w : World) (n : Nat) (hn : n ≤ 1000000) : ArrAt 3 .i64 (w.alloc (.cells (madeCells #[.int .i64 0] n) 3)) w.heap.size n (Array.replicate n 0) := by
  unfold ArrAt
  have ht := toList_madeCells_one (.int .i64 0) n
  refine ⟨by simp [numC], .inr ⟨w.heap.size, n, _, by simp, by simp, hp_new w _, by simp, by unfold maxLen; omega, by simp [size_madeCells], ?_⟩⟩
  rw [ht]
  simp [numC]
theorem made_bools (w : World) (n : Nat) (hn : n ≤ 1000000) : Row1 4 (w.alloc (.cells (madeCells #[.bool false] n) 4)) (.slice (some ⟨w.heap.size, 0, none⟩) n n) ((List.replicate n false).map Value.bool) := by
  have ht := toList_madeCells_one (.bool false) n
  refine ⟨by simp, .inr ⟨w.heap.size, n, _, by simp, by simp, hp_new w _, by simp, by unfold maxLen; omega, by simp [size_madeCells], ?_⟩⟩
  rw [ht]
  simp

/-- What a walk from the first place leaves. -/
def Walks (xs : List Ins) (d : Array Int) (lo : Bool) : Prop := ∃ (k : Nat) (x : Ins) (d1 : Array Int), xs[0]? = some x ∧ VisitL xs k ((Array.replicate xs.length 0).setIfInBounds 0 1) false (behindOf 0 x) d1 lo ∧ d = d1.setIfInBounds 0 2
theorem Walks.size {xs : List Ins} {d : Array Int} {lo : Bool} (h : Walks xs d lo) : d.size = xs.length := by
  obtain ⟨k, x, d1, _, h2, rfl⟩ := h
  have := h2.size
  simp at this ⊢
  omega
theorem walked_ret {xs : List Ins} {d : Array Int} {lo : Bool} (ht : Tame xs) (hn : xs.length ≤ 1000) (hd : Walks xs d lo) {v : Value} (w : World) (h : SlIs w v xs) :
    Ret Tryz.prog 46 [v] w fun r w' => Kept none' w w' ∧ ∃ bw gc c, r = .pointer (some ⟨bw, 0, none⟩) ∧ WalkAt w' bw gc c v d lo ∧ w.heap.size ≤ bw ∧ w.heap.size ≤ gc := by
  refine ret_of_W Tryz.func46 rfl ok_cfg_walked ?_
  obtain ⟨hl, hv⟩ := h.len
  obtain ⟨k, x, d1, hx, hvi, rfl⟩ := hd
  have h0 : 0 < xs.length := (List.getElem?_eq_some_iff.1 hx).1
  have h0' : (0 : Int) < xs.length := by omega
  simp only [c_cfg_walked, W_seq, W_set]
  refine ok_intro (.pointer none) (by simp) ?_
  try simp only [W_seq]
  refine W_sem (vs := [.int .i64 xs.length, .int .i64 xs.length]) (by simp [hl, hv]) (run_mki xs.length (by omega) w) (stab_nil _ _ _) ?_
  have hA := made_arr w xs.length (by omega)
  have hk1 := (Kept.refl none' w).alloc (.cells (madeCells #[.int .i64 0] xs.length) 3)
  generalize hgc : w.heap.size = gc at *
  generalize (w.alloc (.cells (madeCells #[.int .i64 0] xs.length) 3)) = w1 at *
  try simp only [W_seq]
  have hvc := slCells h
  have hvo : v.oneCell' = true := by rcases h with ⟨_, rfl⟩ | ⟨b, o, c, rfl, _⟩ <;> rfl
  refine W_chkIn [.agg #[v, .slice (some ⟨gc, 0, none⟩) xs.length xs.length, .bool false]] (by simp [hv, hvc]; try rfl) ?_
  try simp only [W_seq]
  refine W_new' (v := .agg #[v, .slice (some ⟨gc, 0, none⟩) xs.length xs.length, .bool false]) (cs := #[v, .slice (some ⟨gc, 0, none⟩) xs.length xs.length, .bool false]) (by simp [hv, hvc]; try rfl) rfl ?_
  have hlt := hA.lt
  have hZ := hp_new w1 (.cells #[v, .slice (some ⟨gc, 0, none⟩) xs.length xs.length, .bool false] 105)
  have hk2 := (Kept.refl none' w1).alloc (.cells #[v, .slice (some ⟨gc, 0, none⟩) xs.length xs.length, .bool false] 105)
  have hA2 := hA.calm hk2
  generalize hbw : w1.heap.size = bw at *
  generalize (w1.alloc (.cells #[v, .slice (some ⟨gc, 0, none⟩) xs.length xs.length, .bool false] 105)) = w2 at *
  have hW : WalkAt w2 bw gc xs.length v (Array.replicate xs.length 0) false := ⟨by simpa using hZ, hA2, by omega⟩
  have hk02 := hk1.trans hk2
  simp only [W_seq, W_set]
  refine ok_intro (.pointer (some ⟨bw, 0, none⟩)) (by simp) ?_
  refine W_yes (by simp [hl, hv, h0', h0]) ?_
  have hsz := hk1.size
  refine W_call (vs := [.pointer (some ⟨bw, 0, none⟩), .int .i64 (0 : Nat)]) (by simp) (visit_ret ht hn k w w2 bw gc xs.length 0 v x _ d1 false lo h hk02 (by omega) (by omega) hW (by simp) hx hvi) ?_
  rintro r w3 ⟨rfl, hw3, hk3⟩
  refine ⟨stab_nil _ _ _, ?_⟩
  simp
  exact ⟨hk02.then hk3 fun j hj h => by omega, gc, ⟨xs.length, hw3⟩, by omega, by omega⟩
theorem loops_ret {xs : List Ins} {d : Array Int} {lo : Bool} (ht : Tame xs) (hn : xs.length ≤ 1000) (hd : Walks xs d lo) {v : Value} (w : World) (h : SlIs w v xs) :
    Ret Tryz.prog 32 [v] w fun r w' => r = .bool lo ∧ Kept none' w w' := by
  refine ret_of_W Tryz.func32 rfl ok_cfg_Loops ?_
  obtain ⟨hl, hv⟩ := h.len
  simp only [c_cfg_Loops, W_seq, W_set]
  refine ok_intro (.bool false) (by simp) ?_
  try simp only [W_seq]
  refine W_calmP (by simp [hv]) (walked_ret ht hn hd w h) ?_
  rintro r w1 hk1 ⟨bw, gc, c, rfl, hw, hb, hg⟩
  have f2 : wcell w1 bw 2 = some (.bool lo) := by rw [wcell_of hw.box]; rfl
  simp [f2]
  exact hk1

/-- All are reached: by the walk, or as a wide one's second half. -/
def AllSeen (xs : List Ins) (d : Array Int) : Prop := ∀ (i : Nat) (x : Ins), xs[i]? = some x → d[i]! = 2 ∨ 0 < i ∧ kindOf x = 10 ∧ ∃ y, xs[i - 1]? = some y ∧ kindOf y = 9
def SeenTo (w : World) (go c n i : Nat) : Prop := ∃ bs : List Bool, bs.length = n ∧ Row1 4 w (.slice (some ⟨go, 0, none⟩) n c) (bs.map Value.bool) ∧ ∀ j, j < i → bs[j]? = some true
theorem seen_put {w : World} {go c n i : Nat} (h : SeenTo w go c n i) (hi : i < n) (t : Bool) : ∃ w', stv w 1 (.pointer (some ⟨go, i, none⟩)) (.bool t) = some w' ∧ Kept (fun j => j = go) w w' ∧
    (t = true → SeenTo w' go c n (i + 1)) ∧ SeenTo w' go c n i ∧ wcell w' go i = some (.bool t) := by
  obtain ⟨bs, hl, hr, hb⟩ := h
  have hr' : Row 4 1 w (.slice (some ⟨go, 0, none⟩) n c) n (bs.map Value.bool) := by
    have := hr
    unfold Row1 at this
    rwa [List.length_map, hl] at this
  obtain ⟨w', h1, h2, h3⟩ := row_put hr' (j := i) (by omega) (x := .bool t) rfl rfl
  rw [← List.map_set] at h2
  have h2' : Row1 4 w' (.slice (some ⟨go, 0, none⟩) n c) ((bs.set i t).map Value.bool) := by
    unfold Row1
    rwa [List.length_map, List.length_set, hl]
  refine ⟨w', h1, h3, fun ht => ⟨bs.set i t, by simp [hl], h2', fun j hj => ?_⟩, ⟨bs.set i t, by simp [hl], h2', fun j hj => ?_⟩, ?_⟩
  · subst ht
    by_cases he : i = j
    · subst he; simp [hl, hi]
    · rw [List.getElem?_set_ne he]; exact hb j (by omega)
  · rw [List.getElem?_set_ne (by omega)]; exact hb j hj
  · obtain ⟨g, c', e, hc⟩ := row1_ix h2' (i := i) (x := .bool t) (by simp [hl, hi])
    simp at e
    rw [e.1]; exact hc
end Go.Proofs.YtkgpmjjleemdlaaGreat

set_option linter.unusedSimpArgs false
set_option linter.unusedVariables false
set_option maxRecDepth 8000
namespace Go.Proofs.YtkgpmjjleemdlaaGreat
open Go.Eng Go.Sort
attribute [local irreducible] Go.Eng.W

theorem SeenTo.calm {w w' : World} {go c n i : Nat} (h : SeenTo w go c n i) (hk : Kept none' w w') : SeenTo w' go c n i := by
  obtain ⟨bs, h1, h2, h3⟩ := h
  exact ⟨bs, h1, rowCalm h2 hk, h3⟩
theorem SeenTo.get {w : World} {go c n i : Nat} (h : SeenTo w go c n i) {j : Nat} (hj : j < i) (hi : i ≤ n) : wcell w go j = some (.bool true) := by
  obtain ⟨bs, h1, h2, h3⟩ := h
  obtain ⟨g, c', e, hc⟩ := row1_ix h2 (i := j) (x := .bool true) (by simp [h3 j hj])
  simp at e
  rw [e.1]; exact hc
set_option maxHeartbeats 1000000 in
theorem reach_ret {xs : List Ins} {d : Array Int} {lo : Bool} (ht : Tame xs) (hn : xs.length ≤ 1000) (hd : Walks xs d lo) (hs : AllSeen xs d) {v : Value} (w : World) (h : SlIs w v xs) :
    Ret Tryz.prog 31 [v] w fun r w' => Kept none' w w' ∧ ∃ go c, r = .slice (some ⟨go, 0, none⟩) xs.length c ∧ SeenTo w' go c xs.length xs.length := by
  refine ret_of_W Tryz.func31 rfl ok_cfg_Reach ?_
  obtain ⟨hl, hv⟩ := h.len
  have hsz := hd.size
  simp only [c_cfg_Reach, W_seq, W_set]
  refine ok_intro (.slice none 0 0) (by simp) ?_
  try simp only [W_seq]
  refine W_calmP (by simp [hv]) (walked_ret ht hn hd w h) ?_
  rintro r w1 hk1 ⟨bw, gc, c, rfl, hw, hb, hg⟩
  simp only [W_seq, W_set]
  refine ok_intro (.pointer (some ⟨bw, 0, none⟩)) (by simp) ?_
  try simp only [W_seq]
  refine W_sem (vs := [.int .i64 xs.length, .int .i64 xs.length]) (by simp [hl, hv]) (run_mkbool xs.length (by omega) w1) (stab_nil _ _ _) ?_
  have hB := made_bools w1 xs.length (by omega)
  have hk2 := (Kept.refl none' w1).alloc (.cells (madeCells #[.bool false] xs.length) 4)
  have hlt : w1.heap.size ≠ gc := by have := hw.arr.lt; omega
  have hlt2 : w1.heap.size ≠ bw := by have := blk_lt hw.box; omega
  have hlt3 := hk1.size
  generalize hgo : w1.heap.size = go at *
  generalize (w1.alloc (.cells (madeCells #[.bool false] xs.length) 4)) = w2 at *
  have hw2 := hw.calm hk2
  have hk02 := hk1.trans hk2
  simp only [W_seq, W_set]
  refine ok_intro (.slice (some ⟨go, 0, none⟩) xs.length xs.length) (by simp) ?_
  have f1 : wcell w2 bw 1 = some (.slice (some ⟨gc, 0, none⟩) d.size c) := by rw [wcell_of hw2.box]; rfl
  try simp only [W_seq, W_set]
  refine ok_intro (.slice (some ⟨gc, 0, none⟩) d.size c) (by simp [f1]) ?_
  try simp only [W_seq, W_set]
  refine ok_intro (.int .i64 xs.length) (by simp [hsz]) ?_
  try simp only [W_seq, W_set]
  refine ok_intro (.int .i64 0) (by simp) ?_
  try simp only [W_seq]
  rw [W_block]
  refine W_loop (fun env w' => Kept (fun j => j = go) w2 w' ∧ ∃ i : Nat, i ≤ xs.length ∧ SeenTo w' go xs.length xs.length i ∧
    env = [v, undef, undef, undef, undef, .slice (some ⟨go, 0, none⟩) xs.length xs.length, .int .i64 i, .int .i64 xs.length, .slice (some ⟨gc, 0, none⟩) d.size c, undef, undef, undef, undef]) (fun env _ => xs.length - natAt env 6) ?_ ?_
  · exact ⟨Kept.refl _ _, 0, by omega, ⟨List.replicate xs.length false, by simp, hB, fun j hj => by omega⟩, by simp [hv]⟩
  rintro env w3 ⟨hk3, i, hi, hS, rfl⟩
  have hk03 : Kept none' w w3 := hk02.then hk3 fun j hj h => by omega
  have hA3 : ArrAt 3 .i64 w3 gc c d := hw2.arr.keep hk3 fun e => hlt e.symm
  have hs3 := h.calm hk03
  simp only [W_seq]
  by_cases hgo : i < xs.length
  · have hgo' : (i : Int) < xs.length := by omega
    have hge : (0 : Int) ≤ i := by omega
    have hid : i < d.size := by omega
    have hid' : (i : Int) < d.size := by omega
    have e1 := i64_succ (j := i) (by omega)
    have hx : xs[i]? = some xs[i] := List.getElem?_eq_getElem hgo
    have hsx := hs i _ hx
    generalize xs[i] = x at *
    have hgc := hA3.get hid
    refine W_yes (by simp [hgo']) ?_
    simp only [W_skip, W_seq, W_block]
    refine W_chkIn [.int .i64 d[i]!] (by simp [hid, hid', hge, hgc]) ?_
    simp only [W_seq, W_set]
    refine ok_intro (.int .i64 i) (by simp) ?_
    try simp only [W_seq, W_set]
    refine ok_intro (.int .i64 d[i]!) (by simp [hid, hid', hge, hgc]) ?_
    try simp only [W_seq]
    obtain ⟨w4, hs4, hk4, hS1, hS0, hc4⟩ := seen_put hS hgo (decide (d[i]! = 2))
    refine W_store (xv := .pointer (some ⟨go, i, none⟩)) (vv := .bool (decide (d[i]! = 2))) (by simp [hgo', hgo, hge]) (by simp) hs4 (stab_nil _ _ _) ?_
    have hk04 : Kept none' w w4 := hk03.then hk4 fun j hj h => by omega
    have hs4' := h.calm hk04
    obtain ⟨b, o, cc, rfl, hrow⟩ := hs4'.at hx
    have hxw := (ht i x hx).2
    by_cases h0 : 0 < i
    · have h0' : (0 : Int) < i := by omega
      have hpi : i - 1 < xs.length := by omega
      have hy : xs[i - 1]? = some xs[i - 1] := List.getElem?_eq_getElem hpi
      have hyx : ∀ y, xs[i - 1]? = some y ↔ xs[i - 1] = y := fun y => by rw [hy]; simp
      have hyw := (ht (i - 1) _ hy).2
      generalize xs[i - 1] = y at *
      obtain ⟨b', o', cc', e, hrowp⟩ := hs4'.at hy
      simp at e
      obtain ⟨⟨rfl, rfl⟩, rfl⟩ := e
      have e2 := i64_pred (j := i) (by omega) (by omega)
      have hpl : ((i - 1 : Nat) : Int) < xs.length := by omega
      have hpg : (0 : Int) ≤ ((i - 1 : Nat) : Int) := by omega
      simp only [W_seq]
      refine W_chkIn [x.val] (by simp [h0', h0, hgo', hgo, hge, hrow]) ?_
      simp only [W_seq]
      refine W_yes (by simp [h0', h0]) ?_
      refine W_calm (by simp [hgo', hgo, hge, hrow]) (ret_of_T (ckind_T w4 hxw)) ?_
      intro w5 hk5
      have hk05 := hk04.trans hk5
      obtain ⟨b', o', cc', e, hrowp5⟩ := (hs4'.calm hk5).at hy
      simp at e
      obtain ⟨⟨rfl, rfl⟩, rfl⟩ := e
      by_cases h10 : kindOf x = 10
      · simp only [W_seq]
        refine W_chkIn [y.val] (by simp [h0', h0, h10, e2, hpl, hpg, hpi, hrowp5]) ?_
        try simp only [W_seq]
        refine W_yes (by simp [h0', h0, h10]) ?_
        refine W_calm (by simp [e2, hpl, hpg, hpi, hrowp5]) (ret_of_T (ckind_T w5 hyw)) ?_
        intro w6 hk6
        have hk46 := hk5.trans hk6
        have hS6 := hS0.calm hk46
        refine W_cond (t := decide (kindOf y = 9)) (by simp [h0', h0, h10]) ?_ ?_
        · intro _
          obtain ⟨bs, hbl, hbr, hbt⟩ := hS0
          have hci : wcell w6 go i = some (.bool (decide (d[i]! = 2))) := by
            exact wcell_calm hk46 hc4
          have hcp : wcell w6 go (i - 1) = some (.bool true) := hS6.get (by omega) (by omega)
          obtain ⟨w7, hs7, hk7, hS7, _, _⟩ := seen_put hS6 hgo true
          refine W_store (xv := .pointer (some ⟨go, i, none⟩)) (vv := .bool true) (by simp [hgo', hgo, hge]) (by simp [hgo', hgo, hge, hci, e2, hpl, hpg, hpi, hcp, pickV_bool]) hs7 (stab_nil _ _ _) ?_
          simp [e1, -Int.natCast_add]
          exact ⟨⟨((hk3.trans hk4).trans hk46.any).trans hk7, i + 1, by omega, hS7 rfl, rfl⟩, by simp [natAt]; omega⟩
        · intro h9
          have h9 := of_decide_eq_false h9
          have hd2 : d[i]! = 2 := by
            rcases hsx with h | ⟨_, _, y', hy', hk9⟩
            · exact h
            · rw [hy] at hy'
              cases hy'
              exact absurd hk9 h9
          simp [e1, -Int.natCast_add]
          exact ⟨⟨(hk3.trans hk4).trans hk46.any, i + 1, by omega, (hS1 (decide_eq_true hd2)).calm hk46, rfl⟩, by simp [natAt]; omega⟩
      · have hd2 : d[i]! = 2 := by
          rcases hsx with h | ⟨_, h, _⟩
          · exact h
          · exact absurd h h10
        try simp only [W_seq]
        refine W_chkIn [.bool false] (by simp [h0', h0, h10]) ?_
        try simp only [W_seq]
        refine W_no (by simp [h0', h0, h10]) ?_
        simp
        refine W_no (by simp [h0', h0, h10]) ?_
        simp [e1, -Int.natCast_add]
        exact ⟨⟨(hk3.trans hk4).trans hk5.any, i + 1, by omega, (hS1 (decide_eq_true hd2)).calm hk5, rfl⟩, by simp [natAt]; omega⟩
    · have hi0 : i = 0 := by omega
      subst hi0
      have hd2 : d[0]! = 2 := by
        rcases hsx with h | ⟨h, _⟩
        · exact h
        · omega
      simp only [W_seq]
      refine W_chkIn [.bool false] (by simp) ?_
      simp only [W_seq]
      refine W_no (by simp) ?_
      simp
      refine W_no (by simp) ?_
      simp
      refine W_no (by simp) ?_
      simp at e1
      simp [e1, -Int.natCast_add]
      exact ⟨⟨(hk3.trans hk4), 1, by omega, (hS1 (decide_eq_true hd2)), by simp⟩, by simp [natAt]; omega⟩
  · have hie : i = xs.length := by omega
    subst hie
    refine W_no (by simp) ?_
    simp
    exact ⟨hk03, go, xs.length, ⟨rfl, rfl⟩, hS⟩
theorem indexb_ret {w : World} {go c n : Nat} (hn : n ≤ 1000) (h : SeenTo w go c n n) :
    Ret Tryz.prog 30 [.slice (some ⟨go, 0, none⟩) n c, .bool false] w fun r w' => r = .int .i64 (-1) ∧ Kept none' w w' := by
  refine ret_of_W Tryz.func30 rfl ok_cf_Index ?_
  simp only [c_cf_Index, W_seq, W_set]
  refine ok_intro (.int .i64 0) (by simp) ?_
  try simp only [W_seq, W_set]
  refine ok_intro (.int .i64 n) (by simp) ?_
  try simp only [W_seq, W_set]
  refine ok_intro (.int .i64 0) (by simp) ?_
  try simp only [W_seq]
  rw [W_block]
  refine W_loop (fun env w' => w' = w ∧ ∃ i : Nat, i ≤ n ∧ env = [.slice (some ⟨go, 0, none⟩) n c, .bool false, undef, .int .i64 (i : Nat), .int .i64 n, undef]) (fun env _ => n - natAt env 3) ?_ ?_
  · exact ⟨rfl, 0, by omega, by simp⟩
  rintro env w1 ⟨rfl, i, hi, rfl⟩
  simp only [W_seq]
  by_cases hgo : i < n
  · have hgo' : (i : Int) < n := by omega
    have hge : (0 : Int) ≤ i := by omega
    have e1 := i64_succ (j := i) (by omega)
    have hc := h.get hgo (Nat.le_refl _)
    refine W_yes (by simp [hgo']) ?_
    simp only [W_skip, W_seq, W_block, W_set]
    refine ok_intro (.int .i64 i) (by simp) ?_
    refine W_no (by simp [hge, hgo', hgo, hc]) ?_
    simp [e1, -Int.natCast_add]
    exact ⟨⟨i + 1, by omega, rfl⟩, by simp [natAt]; omega⟩
  · have hie : i = n := by omega
    subst hie
    refine W_no (by simp) ?_
    simp
    exact Kept.refl _ _

/-- What a check of the ways tells: all places reached, and a form that is right. -/
def cfgOf (lo loops : Bool) : Int := if loops = false ∧ lo = true then 22 else 0
theorem cfg_ret {xs : List Ins} {d : Array Int} {lo : Bool} (ht : Tame xs) (hn : xs.length ≤ 256) (hf : checkOf xs = (0, 0)) (hd : Walks xs d lo) (hs : AllSeen xs d) {v : Value} (w : World) (h : SlIs w v xs) (loops : Bool) :
    Ret Tryz.prog 15 [v, .bool loops] w fun r w' => r = .tuple #[.int .i64 0, .int .i64 (cfgOf lo loops)] ∧ Kept none' w w' := by
  refine ret_of_W Tryz.func15 rfl ok_cfg_Check ?_
  obtain ⟨hl, hv⟩ := h.len
  have h0 : 0 < xs.length := by
    obtain ⟨k, x, d1, hx, _⟩ := hd
    exact (List.getElem?_eq_some_iff.1 hx).1
  obtain ⟨b, o, c, rfl, hc, hcode, hb⟩ : ∃ b o c, v = .slice (some ⟨b, o, none⟩) xs.length c ∧ xs.length ≤ c ∧ CodeAt w b o xs ∧ b < w.heap.size := by
    rcases h with ⟨rfl, _⟩ | h
    · simp at h0
    · exact h
  have hw : AllWf xs := fun y hy => by
    obtain ⟨i, hi⟩ := List.mem_iff_getElem?.1 hy
    exact (ht i y hi).2
  simp only [c_cfg_Check, W_seq, W_set]
  refine ok_intro (.int .i64 0) (by simp) ?_
  try simp only [W_seq, W_set]
  refine ok_intro (.int .i64 0) (by simp) ?_
  try simp only [W_seq]
  have tc := check_T hcode hw (by omega) h0 (c := c)
  rw [hf] at tc
  refine W_calm (by simp) (ret_of_T tc) ?_
  intro w1 hk1
  simp only [W_seq]
  refine W_chkIn [.int .i64 0] (by simp) ?_
  simp only [W_seq, W_set]
  refine ok_intro (.int .i64 0) (by simp) ?_
  try simp only [W_seq, W_set]
  refine ok_intro (.int .i64 0) (by simp) ?_
  refine W_no (by simp) ?_
  simp only [W_skip, W_seq]
  refine W_calmP (by simp) (reach_ret ht (by omega) hd hs w1 (h.calm hk1)) ?_
  rintro r w2 hk2 ⟨go, c2, rfl, hS⟩
  try simp only [W_seq]
  refine W_calm (by simp) (indexb_ret (by omega) hS) ?_
  intro w3 hk3
  simp only [W_seq, W_set]
  refine ok_intro (.int .i64 (-1)) (by simp) ?_
  refine W_no (by simp) ?_
  simp only [W_skip, W_seq]
  have hk03 := (hk1.trans hk2).trans hk3
  unfold cfgOf
  cases loops with
  | true =>
    refine W_chkIn [.bool false] (by simp) ?_
    try simp only [W_seq]
    refine W_no (by simp) ?_
    simp
    refine W_no (by simp) ?_
    simp
    exact hk03
  | false =>
    refine W_chkIn [.slice (some ⟨b, o, none⟩) xs.length c] (by simp) ?_
    try simp only [W_seq]
    refine W_yes (by simp) ?_
    refine W_calm (by simp) (loops_ret ht (by omega) hd w3 (h.calm hk03)) ?_
    intro w4 hk4
    cases lo with
    | true =>
      refine W_yes (by simp) ?_
      simp
      exact hk03.trans hk4
    | false =>
      refine W_no (by simp) ?_
      simp
      exact hk03.trans hk4
end Go.Proofs.YtkgpmjjleemdlaaGreat

set_option linter.unusedSimpArgs false
set_option linter.unusedVariables false
set_option maxRecDepth 8000
namespace Go.Proofs.YtkgpmjjleemdlaaGreat
open Go.Eng

/-- What a register may have. -/
structure AReg where
  kind : Int
  bv : Int
  bm : Int
  lo : Int
  hi : Int
  sl : Int
  sh : Int
  slot : Int
  id : Int
  low : Int
  high : Int
def AReg.zero : AReg := ⟨0, 0, 0, 0, 0, 0, 0, 0, 0, 0, 0⟩
def AReg.arr (r : AReg) : Array Value := #[.int .i64 r.kind, .int .u64 r.bv, .int .u64 r.bm, .int .u64 r.lo, .int .u64 r.hi, .int .i64 r.sl, .int .i64 r.sh, .int .i64 r.slot, .int .i64 r.id, .int .i64 r.low, .int .i64 r.high]
def AReg.val (r : AReg) : Value := .agg r.arr
def AReg.at (r : AReg) (j : Nat) : Value := r.arr[j]?.getD (.bool false)
@[simp] theorem areg_size (r : AReg) : r.arr.size = 11 := by simp [AReg.arr]
theorem areg_at (r : AReg) (j : Nat) (h : j < 11) : r.arr[j]? = some (r.at j) := by
  unfold AReg.at
  rw [Array.getElem?_eq_getElem (by simpa using h)]
  rfl
@[simp] theorem areg_one (r : AReg) : r.arr.all (·.oneCell') = true := by simp [AReg.arr, Value.oneCell']
@[simp] theorem areg_ext (n : Nat) (x : AReg) : (∀ y, y ∈ x.arr → Ext n y) = True := eq_true fun y hy => by
  simp [AReg.arr] at hy
  rcases hy with rfl | rfl | rfl | rfl | rfl | rfl | rfl | rfl | rfl | rfl | rfl <;> simp
/-- Registers, what of the stack is written, what is kept in it. -/
structure AState where
  r : Nat → AReg
  what : Nat → Bool
  kept : Nat → AReg
def AState.zero : AState := ⟨fun _ => AReg.zero, fun _ => false, fun _ => AReg.zero⟩
def AState.cell (s : AState) (i : Nat) : Value := if i < 121 then (s.r (i / 11)).at (i % 11) else if i < 185 then .bool (s.what (i - 121)) else (s.kept ((i - 185) / 11)).at ((i - 185) % 11)
def AState.arr (s : AState) : Array Value := Array.ofFn (n := 273) fun i => s.cell i.val
def AState.val (s : AState) : Value := .agg s.arr
/-- A state ahead of a place. -/
def wayArr (p : Int) (s : AState) : Array Value := Array.ofFn (n := 274) fun i => if i.val = 0 then .int .i64 p else s.cell (i.val - 1)
@[simp] theorem astate_size (s : AState) : s.arr.size = 273 := by simp [AState.arr]
@[simp] theorem way_size (p : Int) (s : AState) : (wayArr p s).size = 274 := by simp [wayArr]
theorem astate_at (s : AState) (i : Nat) (h : i < 273) : s.arr[i]? = some (s.cell i) := by simp [AState.arr, h]
theorem way_at (p : Int) (s : AState) (i : Nat) (h : i < 273) : (wayArr p s)[i + 1]? = some (s.cell i) := by
  unfold wayArr
  rw [Array.getElem?_ofFn, dif_pos (by omega)]
  rfl
@[simp] theorem way_pos (p : Int) (s : AState) : (wayArr p s)[0]? = some (.int .i64 p) := by
  unfold wayArr
  simp
theorem cell_reg (s : AState) (i j : Nat) (hi : i < 11) (hj : j < 11) : s.cell (i * 11 + j) = (s.r i).at j := by
  unfold AState.cell
  have h1 : (i * 11 + j) / 11 = i := by omega
  have h2 : (i * 11 + j) % 11 = j := by omega
  rw [if_pos (by omega), h1, h2]
theorem cell_what (s : AState) (i : Nat) (hi : i < 64) : s.cell (121 + i) = .bool (s.what i) := by
  unfold AState.cell
  rw [if_neg (by omega), if_pos (by omega)]
  simp
theorem cell_kept (s : AState) (i j : Nat) (hi : i < 8) (hj : j < 11) : s.cell (185 + i * 11 + j) = (s.kept i).at j := by
  unfold AState.cell
  have h1 : (185 + i * 11 + j - 185) / 11 = i := by omega
  have h2 : (185 + i * 11 + j - 185) % 11 = j := by omega
  rw [if_neg (by omega), if_neg (by omega), h1, h2]
theorem areg_one_at (r : AReg) (j : Nat) : (r.at j).oneCell' = true := by
  unfold AReg.at
  rcases Nat.lt_or_ge j 11 with h | h
  · have : ∀ j : Fin 11, ((r.arr[j.val]?).getD (.bool false)).oneCell' = true := by
      intro j
      match j with
      | 0 | 1 | 2 | 3 | 4 | 5 | 6 | 7 | 8 | 9 | 10 => rfl
    exact this ⟨j, h⟩
  · rw [Array.getElem?_eq_none (by simpa using h)]; rfl
theorem cell_one (s : AState) (i : Nat) : (s.cell i).oneCell' = true := by
  unfold AState.cell
  split
  · exact areg_one_at _ _
  · split
    · rfl
    · exact areg_one_at _ _
@[simp] theorem astate_one (s : AState) : s.arr.all (·.oneCell') = true := by
  rw [Array.all_eq_true]
  intro i hi
  have := astate_at s i (by simpa using hi)
  rw [Array.getElem?_eq_getElem hi] at this
  rw [Option.some.inj this]
  exact cell_one s i
theorem way_cell (p : Int) (s : AState) (i : Nat) (h : i < 274) : (wayArr p s)[i]? = some (if i = 0 then .int .i64 p else s.cell (i - 1)) := by simp [wayArr, h]
@[simp] theorem way_one (p : Int) (s : AState) : (wayArr p s).all (·.oneCell') = true := by
  rw [Array.all_eq_true]
  intro i hi
  have := way_cell p s i (by simpa using hi)
  rw [Array.getElem?_eq_getElem hi] at this
  rw [Option.some.inj this]
  split
  · rfl
  · exact cell_one s _
theorem areg_at_ext (n : Nat) (r : AReg) (j : Nat) : Ext n (r.at j) := by
  unfold AReg.at
  rcases Nat.lt_or_ge j 11 with h | h
  · rw [Array.getElem?_eq_getElem (by simpa using h)]
    exact (areg_ext n r ▸ trivial : ∀ y, y ∈ r.arr → Ext n y) _ (by simp)
  · rw [Array.getElem?_eq_none (by simpa using h)]; simp
theorem cell_ext (n : Nat) (s : AState) (i : Nat) : Ext n (s.cell i) := by
  unfold AState.cell
  split
  · exact areg_at_ext _ _ _
  · split
    · simp
    · exact areg_at_ext _ _ _
@[simp] theorem astate_ext (n : Nat) (s : AState) : (∀ y, y ∈ s.arr → Ext n y) = True := eq_true fun y hy => by
  obtain ⟨i, hi⟩ := Array.mem_iff_getElem?.1 hy
  have h : i < 273 := by have := (Array.getElem?_eq_some_iff.1 hi).1; simpa using this
  rw [astate_at s i h] at hi
  cases hi
  exact cell_ext n s i
@[simp] theorem way_ext (n : Nat) (p : Int) (s : AState) : (∀ y, y ∈ wayArr p s → Ext n y) = True := eq_true fun y hy => by
  obtain ⟨i, hi⟩ := Array.mem_iff_getElem?.1 hy
  have h : i < 274 := by have := (Array.getElem?_eq_some_iff.1 hi).1; simpa using this
  rw [way_cell p s i h] at hi
  cases hi
  split
  · simp
  · exact cell_ext n s _

/-- A state is its cells. -/
theorem astate_ext' {s : AState} {c : Array Value} (hs : c.size = 273) (h : ∀ i, i < 273 → c[i]? = some (s.cell i)) : c = s.arr := by
  apply Array.ext_getElem?
  intro j
  by_cases hj : j < 273
  · rw [astate_at _ _ hj, h j hj]
  · rw [Array.getElem?_eq_none (by omega), Array.getElem?_eq_none (by simp; omega)]
theorem way_ext' {p : Int} {s : AState} {c : Array Value} (hs : c.size = 274) (h0 : c[0]? = some (.int .i64 p)) (h : ∀ i, i < 273 → c[i + 1]? = some (s.cell i)) : c = wayArr p s := by
  apply Array.ext_getElem?
  intro j
  by_cases hj : j < 274
  · cases j with
    | zero => rw [h0, way_pos]
    | succ j => rw [way_at _ _ _ (by omega), h j (by omega)]
  · rw [Array.getElem?_eq_none (by omega), Array.getElem?_eq_none (by simp; omega)]
theorem areg_ext' {r : AReg} {c : Array Value} (hs : c.size = 11) (h : ∀ i, i < 11 → c[i]? = some (r.at i)) : c = r.arr := by
  apply Array.ext_getElem?
  intro j
  by_cases hj : j < 11
  · rw [areg_at _ _ hj, h j hj]
  · rw [Array.getElem?_eq_none (by omega), Array.getElem?_eq_none (by simp; omega)]
/-- Parts of them. -/
theorem way_state (p : Int) (s : AState) : (wayArr p s).extract 1 274 = s.arr := by
  refine astate_ext' (by simp) fun i hi => ?_
  rw [Array.getElem?_extract, if_pos (by simp; omega), Nat.add_comm, way_at _ _ _ hi]
theorem state_reg (s : AState) (d : Nat) (h : d < 11) : s.arr.extract (d * 11) (d * 11 + 11) = (s.r d).arr := by
  refine areg_ext' (by simp; omega) fun i hi => ?_
  rw [Array.getElem?_extract, if_pos (by simp; omega), astate_at _ _ (by omega), cell_reg _ _ _ h hi]
theorem way_reg (p : Int) (s : AState) (d : Nat) (h : d < 11) : (wayArr p s).extract (1 + d * 11) (1 + d * 11 + 11) = (s.r d).arr := by
  refine areg_ext' (by simp; omega) fun i hi => ?_
  rw [Array.getElem?_extract, if_pos (by simp; omega), show 1 + d * 11 + i = (d * 11 + i) + 1 by omega, way_at _ _ _ (by omega), cell_reg _ _ _ h hi]
theorem state_kept (s : AState) (d : Nat) (h : d < 8) : s.arr.extract (185 + d * 11) (185 + d * 11 + 11) = (s.kept d).arr := by
  refine areg_ext' (by simp; omega) fun i hi => ?_
  rw [Array.getElem?_extract, if_pos (by simp; omega), astate_at _ _ (by omega), cell_kept _ _ _ h hi]
def fsetR (f : Nat → AReg) (i : Nat) (v : AReg) : Nat → AReg := fun j => if j = i then v else f j
def AState.setR (s : AState) (d : Nat) (v : AReg) : AState := { s with r := fsetR s.r d v }
theorem setR_cell (s : AState) (d : Nat) (v : AReg) (i : Nat) (hd : d < 11) : (s.setR d v).cell i = if d * 11 ≤ i ∧ i < d * 11 + 11 then v.at (i - d * 11) else s.cell i := by
  unfold AState.cell AState.setR fsetR
  by_cases h1 : i < 121
  · rw [if_pos h1, if_pos h1]
    by_cases h2 : d * 11 ≤ i ∧ i < d * 11 + 11
    · rw [if_pos h2]
      have e1 : i / 11 = d := by omega
      have e2 : i % 11 = i - d * 11 := by omega
      simp only [e1, e2, if_true]
    · rw [if_neg h2]
      have e1 : i / 11 ≠ d := by omega
      simp only [e1, if_false]
  · rw [if_neg h1, if_neg h1]
    by_cases h3 : d * 11 ≤ i ∧ i < d * 11 + 11
    · omega
    · rw [if_neg h3]
theorem way_setreg (p : Int) (s : AState) (d : Nat) (v : AReg) (h : d < 11) : setRow (wayArr p s) (1 + d * 11) v.arr.toList = wayArr p (s.setR d v) := by
  refine way_ext' (by rw [Go.Eng.setRow_size]; simp) ?_ fun i hi => ?_
  · rw [setRow_eq, if_neg (by omega), way_pos]
  · rw [setRow_eq, setR_cell _ _ _ _ h]
    have hl : v.arr.toList.length = 11 := rfl
    rw [hl, way_size]
    by_cases h2 : d * 11 ≤ i ∧ i < d * 11 + 11
    · rw [if_pos h2, if_pos (by omega), Array.getElem?_toList, show i + 1 - (1 + d * 11) = i - d * 11 by omega, areg_at _ _ (by omega)]
    · rw [if_neg h2, if_neg (by omega), way_at _ _ _ hi]
theorem state_setreg (s : AState) (d : Nat) (v : AReg) (h : d < 11) : setRow s.arr (d * 11) v.arr.toList = (s.setR d v).arr := by
  refine astate_ext' (by rw [Go.Eng.setRow_size]; simp) fun i hi => ?_
  rw [setRow_eq, setR_cell _ _ _ _ h]
  have hl : v.arr.toList.length = 11 := rfl
  rw [hl, astate_size]
  by_cases h2 : d * 11 ≤ i ∧ i < d * 11 + 11
  · rw [if_pos h2, if_pos (by omega), Array.getElem?_toList, areg_at _ _ (by omega)]
  · rw [if_neg h2, if_neg (by omega), astate_at _ _ hi]
theorem way_setpos (p q : Int) (s : AState) : (wayArr p s).setIfInBounds 0 (.int .i64 q) = wayArr q s := by
  refine way_ext' (by simp) (by simp) fun i hi => ?_
  rw [Array.getElem?_setIfInBounds_ne (by omega), way_at _ _ _ hi]
theorem way_setstate (p : Int) (s t : AState) : setRow (wayArr p s) 1 t.arr.toList = wayArr p t := by
  refine way_ext' (by rw [Go.Eng.setRow_size]; simp) ?_ fun i hi => ?_
  · rw [setRow_eq, if_neg (by omega), way_pos]
  · rw [setRow_eq, if_pos (by simp; omega), Array.getElem?_toList, show i + 1 - 1 = i by omega, astate_at _ _ hi]
theorem way_all (p q : Int) (s t : AState) : setRow (wayArr p s) 0 (wayArr q t).toList = wayArr q t := by
  rw [setRow_all (by simp)]
end Go.Proofs.YtkgpmjjleemdlaaGreat

