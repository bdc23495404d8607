/- Layer 18: maps' specs are checked; verify.Check with maps. -/
import Derived.Test.YtkgpmjjleemdlaaGreatVh5
import Derived.Test.YtkgpmjjleemdlaaGreatCmdsVx
import Derived.Test.YtkgpmjjleemdlaaGreatVf2
set_option linter.unusedSimpArgs false
set_option linter.unusedVariables false
set_option maxRecDepth 8000
namespace Go.Proofs.YtkgpmjjleemdlaaGreat
open Go.Eng Go.Sort
attribute [local irreducible] Go.Eng.W

def inB (x a b : Int) : Bool := decide (a ≤ x) && decide (x ≤ b)
theorem inB_T (w0 : World) (x a b : Int) : T Tryz.prog w0 34 [.int .i64 x, .int .i64 a, .int .i64 b] = some (.bool (inB x a b)) :=
  T_of (by kernel_rfl) Tryz.func34 rfl ok_bmap_within (by simp) (by simp) fun B hB => by
    simp [c_bmap_within, inB, pickV_bool]
def keyOk (x : Sp) : Bool := if x.ty = 0 then decide (x.key = 4) else if x.ty = 1 ∨ x.ty = 2 then inB x.key 1 16 else if x.ty = 3 ∨ x.ty = 4 then decide (x.key = 0) else if x.ty = 5 then inB x.key 5 16 else false
def spOk (x : Sp) : Bool := inB x.val 1 64 && inB x.ent 1 64 && keyOk x
set_option maxHeartbeats 8000000 in
theorem spec_check_T (w0 : World) (x : Sp) : T Tryz.prog w0 18 [.agg x.arr] = some (.int .i64 (if spOk x = true then 0 else 22)) :=
  T_of (by kernel_rfl) Tryz.func18 rfl ok_bmap_Check (by simp [Sp.arr]) (by simp) fun B hB => by
    have e1 := inB_T w0 x.val 1 64
    have e2 := inB_T w0 x.ent 1 64
    have e3 := inB_T w0 x.key 1 16
    have e4 := inB_T w0 x.key 5 16
    unfold spOk keyOk
    generalize inB x.val 1 64 = b1 at *
    generalize inB x.ent 1 64 = b2 at *
    generalize inB x.key 1 16 = b3 at *
    generalize inB x.key 5 16 = b4 at *
    by_cases h0 : x.ty = 0
    · cases b1 <;> cases b2 <;> cases hk : decide (x.key = 4) <;> simp [c_bmap_Check, C_cond_eq, Sp.arr, pickV_bool, e1, e2, h0, hk]
    by_cases h1 : x.ty = 1
    · cases b1 <;> cases b2 <;> cases b3 <;> simp [c_bmap_Check, C_cond_eq, Sp.arr, pickV_bool, e1, e2, e3, h1]
    by_cases h2 : x.ty = 2
    · cases b1 <;> cases b2 <;> cases b3 <;> simp [c_bmap_Check, C_cond_eq, Sp.arr, pickV_bool, e1, e2, e3, h2]
    by_cases h3 : x.ty = 3
    · cases b1 <;> cases b2 <;> cases hk : decide (x.key = 0) <;> simp [c_bmap_Check, C_cond_eq, Sp.arr, pickV_bool, e1, e2, h3, hk]
    by_cases h4 : x.ty = 4
    · cases b1 <;> cases b2 <;> cases hk : decide (x.key = 0) <;> simp [c_bmap_Check, C_cond_eq, Sp.arr, pickV_bool, e1, e2, h4, hk]
    by_cases h5 : x.ty = 5
    · cases b1 <;> cases b2 <;> cases b4 <;> simp [c_bmap_Check, C_cond_eq, Sp.arr, pickV_bool, e1, e2, e4, h5]
    cases b1 <;> cases b2 <;> simp [c_bmap_Check, C_cond_eq, Sp.arr, pickV_bool, e1, e2, h0, h1, h2, h3, h4, h5]
theorem spec_bad_T (w0 : World) (x : Sp) : T Tryz.prog w0 17 [.agg x.arr] = some (.bool (!spOk x)) :=
  T_of (by kernel_rfl) Tryz.func17 rfl ok_verify_Check_1 (by simp [Sp.arr]) (by simp) fun B hB => by
    have e := spec_check_T w0 x
    simp only [Sp.arr] at e
    cases h : spOk x <;> rw [h] at e <;> simp at e <;> simp [c_verify_Check_1, C_cond_eq, Sp.arr, e]
theorem SpecsAt.var {w : World} {v : Value} {xs : List Sp} (h : SpecsAt w v xs) : varV v = some v ∧ lenV false v = some (.int .i64 xs.length) ∧ v.cells = #[v] := by
  rcases h with ⟨rfl, rfl⟩ | ⟨b, o, c, rfl, _⟩
  · exact ⟨rfl, rfl, rfl⟩
  · exact ⟨rfl, rfl, rfl⟩
theorem FrozAt.var {w : World} {v : Value} {xs : List Bool} (h : FrozAt w v xs) : varV v = some v ∧ v.cells = #[v] := by
  rcases h with ⟨rfl, rfl⟩ | ⟨b, o, c, rfl, _⟩
  · exact ⟨rfl, rfl⟩
  · exact ⟨rfl, rfl⟩
theorem indexP_any {v : Value} {xs : List Sp} (w : World) (h : SpecsAt w v xs) (hn : xs.length ≤ 100000) :
    Ret Tryz.prog 33 [v, .func (.func 17) #[] #[]] w fun r w' => (∃ i : Int, r = .int .i64 i ∧ decide (0 ≤ i) = xs.any fun x => !spOk x) ∧ Kept none' w w' := by
  refine ret_of_W Tryz.func33 rfl ok_vf_IndexFunc ?_
  obtain ⟨hv, hl, _⟩ := h.var
  simp only [c_vf_IndexFunc, W_seq, W_set]
  refine ok_intro (.int .i64 0) (by simp) ?_
  try simp only [W_seq, W_set]
  refine ok_intro (.int .i64 xs.length) (by simp [hl, hv]) ?_
  try simp only [W_seq, W_set]
  refine ok_intro (.int .i64 0) (by simp) ?_
  try simp only [W_seq]
  rw [W_block]
  refine W_loop (fun env w' => Kept none' w w' ∧ ∃ i : Nat, i ≤ xs.length ∧ (∀ (j : Nat) (s : Sp), j < i → xs[j]? = some s → spOk s = true) ∧ env = [v, .func (.func 17) #[] #[], undef, .int .i64 (i : Nat), .int .i64 xs.length, undef, undef]) (fun env _ => xs.length - natAt env 3) ?_ ?_
  · exact ⟨Kept.refl _ _, 0, by omega, fun j s hj => by omega, by simp [hv]⟩
  rintro env w1 ⟨hk1, i, hi, hall, rfl⟩
  simp only [W_seq]
  by_cases hgo : i < xs.length
  · have hgo' : (i : Int) < xs.length := by omega
    have hge : (0 : Int) ≤ i := by omega
    have e1 := i64_succ (j := i) (by omega)
    have hx : xs[i]? = some xs[i] := List.getElem?_eq_getElem hgo
    have hm := List.mem_of_getElem? hx
    generalize xs[i] = y at *
    have h1 := h.calm hk1
    obtain ⟨q, o, c, rfl, hrow, hlt⟩ : ∃ b o c, v = .slice (some ⟨b, o, none⟩) xs.length c ∧ wrow w1 b (o + i * 4) 4 = some y.arr ∧ b < w1.heap.size := by
      rcases h1 with ⟨rfl, _⟩ | ⟨b, o, c, e, hr, hlt⟩
      · simp at hgo
      · exact ⟨b, o, c, e, hr i y hx, hlt⟩
    refine W_yes (by simp [hgo']) ?_
    simp only [W_skip, W_seq, W_block, W_set]
    refine ok_intro (.int .i64 i) (by simp) ?_
    try simp only [W_seq]
    refine W_dyn (g := 17) (first := #[]) (cap := #[]) (by simp) (vs := [.agg y.arr]) (by simp [hge, hgo', hgo, hrow]) (by kernel_rfl) (by simpa using (ret_of_T (spec_bad_T w1 y))) ?_
    rintro r w2 ⟨rfl, hk2⟩
    refine ⟨stab_nil _ _ _, ?_⟩
    cases hF : spOk y with
    | false =>
      refine W_yes (by simp) ?_
      simp
      refine ⟨?_, hk1.trans hk2⟩
      exact ⟨y, hm, hF⟩
    | true =>
      refine W_no (by simp) ?_
      simp [e1, -Int.natCast_add]
      refine ⟨⟨hk1.trans hk2, i + 1, by omega, ?_, rfl⟩, by simp [natAt]; omega⟩
      intro j s hj hjs
      by_cases e : j = i
      · subst e
        rw [hx] at hjs
        cases hjs
        exact hF
      · exact hall j s (by omega) hjs
  · have hie : i = xs.length := by omega
    subst hie
    refine W_no (by simp [hl, hv]) ?_
    simp
    refine ⟨?_, hk1⟩
    intro s hs
    obtain ⟨j, hj⟩ := List.mem_iff_getElem?.1 hs
    exact hall j s (List.getElem?_eq_some_iff.1 hj).1 hj
theorem specs_any {v : Value} {xs : List Sp} (w : World) (h : SpecsAt w v xs) (hn : xs.length ≤ 100000) :
    Ret Tryz.prog 16 [v, .func (.func 17) #[] #[]] w fun r w' => r = .bool (xs.any fun x => !spOk x) ∧ Kept none' w w' := by
  refine ret_of_W Tryz.func16 rfl ok_vf_ContainsFunc ?_
  obtain ⟨hv, hl, _⟩ := h.var
  simp only [c_vf_ContainsFunc, W_seq, W_set]
  refine ok_intro (.bool false) (by simp) ?_
  try simp only [W_seq]
  refine W_call (by simp [hv]) (indexP_any w h hn) ?_
  rintro r w1 ⟨⟨i, rfl, hi⟩, hk1⟩
  refine ⟨stab_nil _ _ _, ?_⟩
  simp [hi]
  exact hk1
end Go.Proofs.YtkgpmjjleemdlaaGreat

set_option linter.unusedSimpArgs false
set_option linter.unusedVariables false
set_option maxRecDepth 8000
namespace Go.Proofs.YtkgpmjjleemdlaaGreat
open Go.Eng Go.Sort
attribute [local irreducible] Go.Eng.W

set_option maxHeartbeats 2000000 in
theorem vcheckM_ret {sv fv : Value} {sp : List Sp} {fz : List Bool} {xs : List Ins} {d : Array Int} {lo : Bool} (ht : Tame xs) (hn : xs.length ≤ 256) (hf : checkOf xs = (0, 0)) (hd : Walks xs d lo) (hs : AllSeen xs d) {v : Value} (w : World) (h : SlIs w v xs) (hsp : SpecsAt w sv sp) (hfr : FrozAt w fv fz) (hok : ∀ x ∈ sp, spOk x = true) (hspl : sp.length ≤ 100000) (priv : Bool) (hcfg : cfgOf lo priv = 0) {a e : Int} {m : Nat}
    (hX : ∀ p x, xs[p]? = some x → XOk x ∧ (kindOf x = 9 → ∃ y, xs[p + 1]? = some y))
    (hg : ∀ J : Jb, J.xs = xs → J.sp = sp → J.fz = fz → J.priv = priv → Runs J (mostOf priv) (fun _ => []) 0 0 [(0, AState.start)] a m e) :
    Ret Tryz.prog 8 [v, .agg #[sv, fv, .bool priv]] w fun r w' => r = .tuple #[.agg #[.int .i64 a, .int .i64 m], .int .i64 e] ∧ Kept none' w w' := by
  refine ret_of_W Tryz.func8 rfl ok_verify_Check ?_
  obtain ⟨hl, hv⟩ := h.len
  have hvc := slCells h
  obtain ⟨hsv, _, hsc⟩ := hsp.var
  obtain ⟨hfv, hfc⟩ := hfr.var
  have hnb : (sp.any fun x => !spOk x) = false := by
    rw [List.any_eq_false]
    intro x hx
    rw [hok x hx]
    simp
  have hval : ∀ y ∈ sp, 0 ≤ y.val ∧ y.val ≤ 1000000 := fun y hy => by
    have := hok y hy
    simp only [spOk, inB, Bool.and_eq_true, decide_eq_true_eq] at this
    omega
  simp only [c_verify_Check, W_seq, W_set]
  refine W_new' (v := .agg #[sv, fv, .bool priv]) (cs := #[sv, fv, .bool priv]) (by simp [hsv, hfv]) rfl ?_
  have h4 := hp_new w (.cells #[sv, fv, .bool priv] 39)
  have hk1 := (Kept.refl none' w).alloc (.cells #[sv, fv, .bool priv] 39)
  generalize hb4 : w.heap.size = b4 at *
  generalize (w.alloc (.cells #[sv, fv, .bool priv] 39)) = w1 at *
  try simp only [W_seq]
  refine W_new' (v := .agg #[.int .i64 0, .int .i64 0]) (cs := #[.int .i64 0, .int .i64 0]) (by simp) rfl ?_
  have h2 : RepBox _ w1.heap.size := hp_new w1 (.cells #[.int .i64 0, .int .i64 0] 32)
  have hk2 := (Kept.refl none' w1).alloc (.cells #[.int .i64 0, .int .i64 0] 32)
  have h42 := hk2.has h4 fun h => h
  have hb2 : w.heap.size ≤ w1.heap.size := hk1.size
  generalize (w1.alloc (.cells #[.int .i64 0, .int .i64 0] 32)) = w2 at *
  generalize w1.heap.size = b2 at *
  have hk02 := hk1.trans hk2
  simp only [W_seq, W_set]
  refine ok_intro (.int .i64 0) (by simp) ?_
  have g42 : wcell w2 b4 2 = some (.bool priv) := by rw [wcell_of h42]; rfl
  try simp only [W_seq]
  refine W_calm (by simp [hv, g42]) (cfg_ret ht hn hf hd hs w2 (h.calm hk02) priv) ?_
  intro w3 hk3
  rw [hcfg]
  simp only [W_seq]
  refine W_chkIn [.int .i64 0] (by simp) ?_
  simp only [W_seq, W_set]
  refine ok_intro (.int .i64 0) (by simp) ?_
  try simp only [W_seq, W_set]
  refine ok_intro (.int .i64 0) (by simp) ?_
  refine W_no (by simp) ?_
  simp only [W_skip, W_seq]
  have hk03 := hk02.trans hk3
  have h43 := hk3.has h42 fun h => h
  have h23 : RepBox w3 b2 := hk3.has h2 fun h => h
  have g40 : wcell w3 b4 0 = some sv := by rw [wcell_of h43]; rfl
  refine W_calm (vs := [sv, .func (.func 17) #[] #[]]) (by simp [g40, hsv]) (specs_any w3 (hsp.calm hk03) hspl) ?_
  intro w4 hk4
  rw [hnb]
  refine W_no (by simp) ?_
  simp only [W_skip, W_seq, W_set]
  refine ok_intro (.int .i64 512) (by simp) ?_
  have hk04 := hk03.trans hk4
  have h44 := hk4.has h43 fun h => h
  have h24 : RepBox w4 b2 := hk4.has h23 fun h => h
  have g44 : wcell w4 b4 2 = some (.bool priv) := by rw [wcell_of h44]; rfl
  have g4r : wrow w4 b4 0 3 = some #[sv, fv, .bool priv] := wrow_box h44 rfl
  refine W_cut (fun env' w' => w' = w4 ∧ env' = [v, .agg #[sv, fv, .bool priv], .pointer (some ⟨b2, 0, none⟩), .int .i64 0, .pointer (some ⟨b4, 0, none⟩), .tuple #[.int .i64 0, .int .i64 0], .int .i64 0, .int .i64 0, .bool false, .int .i64 (mostOf priv), undef, undef, undef, undef, undef, undef, undef]) ?_ ?_
  · unfold mostOf
    cases priv with
    | true =>
      refine W_yes (by simp [g44]) ?_
      simp
    | false =>
      refine W_no (by simp [g44]) ?_
      simp
  rintro env' w' ⟨rfl, rfl⟩
  clear hk4 hk3 h43 h23 h42 h2 hk2 hk1
  simp only [W_seq]
  refine W_chkIn [v] (by simp [hv]) ?_
  simp only [W_seq, W_set]
  refine ok_intro (.agg #[sv, fv, .bool priv]) (by simp [g4r]) ?_
  try simp only [W_seq]
  refine W_sem (vs := []) (by simp) (run_mkm w') (stab_nil _ _ _) ?_
  have hm5 := mapN_new w'
  have hk5 := (Kept.refl none' w').alloc (.map #[] 0)
  generalize hmb : w'.heap.size = mb at *
  have hmb0 : w.heap.size ≤ mb := by have := hk04.size; omega
  generalize (w'.alloc (.map #[] 0)) = w5 at *
  have hk05 := hk04.trans hk5
  have hmc : (Value.map (some mb)).cells = #[.map (some mb)] := rfl
  simp only [W_seq]
  refine W_chkIn [.agg #[v, sv, fv, .bool priv, .slice none 0 0, .map (some mb), .int .i64 0]] (by simp [hv, hvc, hmc, hsv, hfv, hsc, hfc]) ?_
  simp only [W_seq]
  refine W_new' (v := .agg #[v, sv, fv, .bool priv, .slice none 0 0, .map (some mb), .int .i64 0]) (cs := #[v, sv, fv, .bool priv, .slice none 0 0, .map (some mb), .int .i64 0]) (by simp [hv, hvc, hmc, hsv, hfv, hsc, hfc]) rfl ?_
  have hcb := hp_new w5 (.cells #[v, sv, fv, .bool priv, .slice none 0 0, .map (some mb), .int .i64 0] 62)
  have hk6 := (Kept.refl none' w5).alloc (.cells #[v, sv, fv, .bool priv, .slice none 0 0, .map (some mb), .int .i64 0] 62)
  have hm6 := hm5.calm hk6
  generalize hcbe : w5.heap.size = cb at *
  have hcb0 : w.heap.size ≤ cb := by have := hk05.size; omega
  generalize (w5.alloc (.cells #[v, sv, fv, .bool priv, .slice none 0 0, .map (some mb), .int .i64 0] 62)) = w6 at *
  have hk06 := hk05.trans hk6
  simp only [W_seq, W_set]
  refine ok_intro (.pointer (some ⟨cb, 0, none⟩)) (by simp) ?_
  try simp only [W_seq]
  refine W_chkIn [.pointer (some ⟨cb, 0, none⟩)] (by simp) ?_
  try simp only [W_seq]
  have tst := start_T w6
  refine W_calm (by simp) (ret_of_T tst) ?_
  intro w7 hk7
  have hwp := way_setpos 0 0 AState.zero
  have hws := way_setstate 0 AState.zero AState.start
  have hwa := way_all 0 0 AState.zero AState.start
  simp only [W_seq]
  refine W_chkIn [.agg (wayArr 0 AState.start)] (by simp [AState.val, hwp, hws]) ?_
  simp only [W_seq]
  refine W_row' (v := .agg (wayArr 0 AState.start)) (cs := wayArr 0 AState.start) (by simp [AState.val, hwp, hws, hwa]) rfl ?_
  have hk07 := hk06.trans hk7
  have hcb7 := hk7.has hcb fun h => h
  have hm7 := hm6.calm hk7
  have hk8 := (Kept.refl none' w7).alloc (.cells (wayArr 0 AState.start) 76)
  have hL : WaysAt (w7.alloc (.cells (wayArr 0 AState.start) 76)) (.slice (some ⟨w7.heap.size, 0, none⟩) 1 1) 1 (wayArr 0 AState.start).toList :=
    ⟨by simp, .inr ⟨w7.heap.size, 1, wayArr 0 AState.start, rfl, by omega, hp_new w7 _, by omega, by unfold maxLen; omega, by simp, by rw [List.take_of_length_le (by simp)]⟩⟩
  have hcb8 := hk8.has hcb7 fun h => h
  have hm8 := hm7.calm hk8
  have hk08 := hk07.trans hk8
  have hL0 : w.heap.size ≤ w7.heap.size := hk07.size
  generalize (w7.alloc (.cells (wayArr 0 AState.start) 76)) = w8 at *
  generalize w7.heap.size = lb at *
  have hR8 : RepBox w8 b2 := ((hk5.trans hk6).trans (hk7.trans hk8)).has h24 fun h => h
  let J : Jb := ⟨cb, mb, v, sv, fv, priv, xs, sp, fz⟩
  have h8 : RunInv (J.job 0) w w8 (fun _ => none) (fun _ => []) (.slice none 0 0) := ⟨hk08, ⟨hcb8⟩, hm8, fun p => states_nil _, fun p v b hf => (by cases hf), fun p q v v' b _ hf => (by cases hf), fun b hb => (by simp [Value.ownBlock] at hb), hcb0, hmb0⟩
  obtain ⟨w9, hs9, h9, hk9⟩ := h8.setleft (v := .slice (some ⟨lb, 0, none⟩) 1 1) rfl rfl (fun b hb => by simp [Value.ownBlock] at hb; omega)
  have hL9 : WaysAt w9 (.slice (some ⟨lb, 0, none⟩) 1 1) 1 (wayArr 0 AState.start).toList := rowKeep hL hk9 fun i hi => by
    obtain ⟨cc, hcc⟩ := row_block hL hi
    exact blk_ne hcc hcb8 (by decide)
  have hR9 : RepBox w9 b2 := hk9.has hR8 (blk_ne hR8 hcb8 (by decide))
  try simp only [W_seq]
  refine W_store (xv := .pointer (some ⟨cb, 4, none⟩)) (vv := .slice (some ⟨lb, 0, none⟩) 1 1) (by simp) (by simp) hs9 (stab_nil _ _ _) ?_
  try simp only [W_seq]
  refine W_call (vs := [.pointer (some ⟨cb, 0, none⟩), .int .i64 (mostOf priv)]) (by simp) (runs_ret J ⟨hX, hn, hval⟩ w w9 (mostOf priv) (by unfold mostOf; split <;> omega) h hsp hfr h9 (L := [(0, AState.start)]) (by simpa [LeftAt, backCells] using hL9) (by simp) (hg J rfl rfl rfl rfl) hR9) ?_
  rintro r w10 ⟨rfl, hk10, hR10⟩
  refine ⟨stab_nil _ _ _, ?_⟩
  simp only [W_seq]
  refine W_chkIn [.int .i64 e] (by simp) ?_
  have hs7 := box_store (v := .agg #[.int .i64 a, .int .i64 m]) hR10 (n := 2) rfl rfl (by simp [Value.cells, Value.oneCell'])
  simp only [W_seq]
  refine W_store (vv := .agg #[.int .i64 a, .int .i64 m]) (by simp) (by simp) hs7 (stab_nil _ _ _) ?_
  have hrr : wrow (Eng.put w10 b2 (.cells #[.int .i64 a, .int .i64 m] 32 (0, 0))) b2 0 2 = some #[.int .i64 a, .int .i64 m] := wrow_box (put_same (blk_lt hR10)) rfl
  have hcc : (Value.agg #[.int .i64 a, .int .i64 ((m : Nat) : Int)]).cells = #[.int .i64 a, .int .i64 m] := rfl
  rw [hcc]
  simp [hrr]
  exact hk10.putNew (by omega) _
end Go.Proofs.YtkgpmjjleemdlaaGreat

set_option linter.unusedSimpArgs false
set_option linter.unusedVariables false
set_option maxRecDepth 8000
namespace Go.Proofs.YtkgpmjjleemdlaaGreat
open Go.Eng Go.Sort
attribute [local irreducible] Go.Eng.W

def rngB (a : Rng) : Bool := inB a.b.v 0 18446744073709551615 && inB a.b.m 0 18446744073709551615 && inB a.lo 0 18446744073709551615 && inB a.hi 0 18446744073709551615 && inB a.sl (-9223372036854775808) 9223372036854775807 && inB a.sh (-9223372036854775808) 9223372036854775807
theorem rngB_wf {a : Rng} (h : rngB a = true) : a.wf := by
  simp only [rngB, inB, Bool.and_eq_true, decide_eq_true_eq] at h
  unfold Rng.wf Num.wf In64 InS
  omega
def wfR (r : AReg) : Bool := rngB r.rng && inB r.id 0 1000000 && inB r.low (-1000000) 1000000 && inB r.high (-1000000) 1000000
theorem wfR_wf {r : AReg} (h : wfR r = true) : r.wf := by
  simp only [wfR, Bool.and_eq_true] at h
  obtain ⟨⟨⟨h1, h2⟩, h3⟩, h4⟩ := h
  simp only [inB, Bool.and_eq_true, decide_eq_true_eq] at h2 h3 h4
  exact ⟨rngB_wf h1, h2.1, h2.2, h3, h4⟩
def wfS (s : AState) : Bool := ((List.range 11).all fun i => wfR (s.r i)) && (List.range 8).all fun i => wfR (s.kept i)
theorem wfS_wf {s : AState} (h : wfS s = true) : s.wf := by
  simp only [wfS, Bool.and_eq_true, List.all_eq_true, List.mem_range] at h
  exact ⟨fun i hi => wfR_wf (h.1 i hi), fun i hi => wfR_wf (h.2 i hi)⟩
def vrun (J : Jb) (most : Nat) : Nat → (Nat → List AState) → Int → Nat → Ways → Option (Int × Nat × Int)
  | 0, _, _, _, _ => none
  | _ + 1, _, _, n, [] => some (0, n, 0)
  | k + 1, seen, ids, n, (p, s) :: left =>
    if p < 0 then none
    else if ((seen p.toNat).any fun t => coversS t s) = true then vrun J most k seen ids n left
    else if n = most then some (p, n, 7)
    else if most < n then none
    else if wfS s = false then none
    else match J.xs[p.toNat]? with
      | none => none
      | some x => match (stepV J ids p.toNat s x).1 with
        | none => some (p, n + 1, 13)
        | some L => if L.length ≤ 2 then vrun J most k (seenPut seen p.toNat s) (stepV J ids p.toNat s x).2 (n + 1) (L.reverse ++ left) else none
theorem vrun_runs {J : Jb} {most : Nat} : ∀ (k : Nat) (seen : Nat → List AState) (ids : Int) (n : Nat) (left : Ways) (a : Int) (m : Nat) (e : Int), vrun J most k seen ids n left = some (a, m, e) → Runs J most seen ids n left a m e := by
  intro k
  induction k with
  | zero => intro seen ids n left a m e h; simp [vrun] at h
  | succ k ih =>
    intro seen ids n left a m e h
    cases left with
    | nil =>
      simp only [vrun, Option.some.injEq, Prod.mk.injEq] at h
      obtain ⟨rfl, rfl, rfl⟩ := h
      exact .fin
    | cons ps left =>
      obtain ⟨p, s⟩ := ps
      simp only [vrun] at h
      split at h
      · cases h
      rename_i hp
      obtain ⟨p, rfl⟩ := Int.eq_ofNat_of_zero_le (show 0 ≤ p by omega)
      simp only [Int.toNat_natCast] at h
      split at h
      · rename_i hc
        exact .gone hc (ih _ _ _ _ _ _ _ h)
      rename_i hc
      have hc' : ((seen p).any fun t => coversS t s) = false := by simpa using hc
      split at h
      · rename_i hn
        simp only [Option.some.injEq, Prod.mk.injEq] at h
        obtain ⟨rfl, rfl, rfl⟩ := h
        exact .big hn hc'
      rename_i hn
      split at h
      · cases h
      rename_i hn2
      split at h
      · cases h
      rename_i hw
      have hw' : s.wf := wfS_wf (by simpa using hw)
      split at h
      · cases h
      rename_i x hx
      split at h
      · rename_i hs
        simp only [Option.some.injEq, Prod.mk.injEq] at h
        obtain ⟨rfl, rfl, rfl⟩ := h
        exact .bad (by omega) hc' hw' hx hs
      · rename_i L hs
        split at h
        · rename_i hL
          exact .on (by omega) hc' hw' hx hs hL (ih _ _ _ _ _ _ _ h)
        · cases h
/-- Which instructions are reached, by evaluation. -/
def visitF (xs : List Ins) : Nat → Nat → Array Int → Bool → List Int → Option (Array Int × Bool)
  | 0, _, _, _, _ => none
  | _ + 1, _, d, lo, [] => some (d, lo)
  | f + 1, k, d, lo, n :: ns =>
    if d[n.toNat]! = 1 then visitF xs f k d true ns
    else if d[n.toNat]! = 0 then match k, xs[n.toNat]? with
      | k + 1, some x => match visitF xs f k (d.setIfInBounds n.toNat 1) lo (behindOf n.toNat x) with
        | some (d1, lo1) => visitF xs f (k + 1) (d1.setIfInBounds n.toNat 2) lo1 ns
        | none => none
      | _, _ => none
    else visitF xs f k d lo ns
theorem visitF_l {xs : List Ins} : ∀ (f k : Nat) (d : Array Int) (lo : Bool) (ns : List Int) (d' : Array Int) (lo' : Bool), visitF xs f k d lo ns = some (d', lo') → VisitL xs k d lo ns d' lo' := by
  intro f
  induction f with
  | zero => intro k d lo ns d' lo' h; simp [visitF] at h
  | succ f ih =>
    intro k d lo ns d' lo' h
    cases ns with
    | nil =>
      simp only [visitF, Option.some.injEq, Prod.mk.injEq] at h
      obtain ⟨rfl, rfl⟩ := h
      exact .nil _ _ _
    | cons n ns =>
      simp only [visitF] at h
      split at h
      · rename_i h1
        exact .opened h1 (ih _ _ _ _ _ _ h)
      rename_i h1
      split at h
      · rename_i h0
        split at h
        · rename_i k' x hx
          split at h
          · rename_i d1 lo1 hv
            exact .fresh h0 hx (ih _ _ _ _ _ _ hv) (ih _ _ _ _ _ _ h)
          · cases h
        · cases h
      · rename_i h0
        exact .closed h0 h1 (ih _ _ _ _ _ _ h)
def insB (x : Ins) : Bool := inB x.op 0 255 && inB x.dst 0 10 && inB x.src 0 10 && inB x.off (-32768) 32767 && inB x.imm (-2147483648) 2147483647
def inAllB (xs : List Ins) (i : Nat) (x : Ins) : Bool := (behindOf i x).all fun n => decide (0 ≤ n) && decide (n < xs.length)
/-- All that is asked of a given program's form. -/
def formB (xs : List Ins) (d : Array Int) (lo : Bool) : Bool :=
  decide (xs.length ≤ 256) && decide (checkOf xs = (0, 0)) && ((List.range xs.length).all fun i => match xs[i]? with
    | none => false
    | some x => insB x && inAllB xs i x && (!decide (kindOf x = 9) || decide (i + 1 < xs.length)) && (decide (d[i]! = 2) || (decide (0 < i) && decide (kindOf x = 10) && (match xs[i - 1]? with
      | none => false
      | some y => decide (kindOf y = 9))))) &&
  (match xs[0]? with
    | none => false
    | some x => match visitF xs 1000 xs.length ((Array.replicate xs.length 0).setIfInBounds 0 1) false (behindOf 0 x) with
      | none => false
      | some (d1, lo1) => decide (d1.setIfInBounds 0 2 = d) && (lo1 == lo))
structure Formed (xs : List Ins) (d : Array Int) (lo : Bool) : Prop where
  len : xs.length ≤ 256
  chk : checkOf xs = (0, 0)
  tame : Tame xs
  xok : ∀ p x, xs[p]? = some x → XOk x ∧ (kindOf x = 9 → ∃ y, xs[p + 1]? = some y)
  walks : Walks xs d lo
  seen : AllSeen xs d
theorem insB_ok {x : Ins} (h : insB x = true) : XOk x := by
  simp only [insB, inB, Bool.and_eq_true, decide_eq_true_eq] at h
  exact ⟨⟨by omega, by omega, by omega, by omega, by omega⟩, by omega, by omega⟩
theorem formed {xs : List Ins} {d : Array Int} {lo : Bool} (h : formB xs d lo = true) : Formed xs d lo := by
  simp only [formB, Bool.and_eq_true, decide_eq_true_eq, List.all_eq_true, List.mem_range] at h
  obtain ⟨⟨⟨h1, h2⟩, h3⟩, h4⟩ := h
  have key : ∀ i x, xs[i]? = some x → insB x = true ∧ inAllB xs i x = true ∧ (kindOf x = 9 → i + 1 < xs.length) ∧ (d[i]! = 2 ∨ 0 < i ∧ kindOf x = 10 ∧ ∃ y, xs[i - 1]? = some y ∧ kindOf y = 9) := by
    intro i x hx
    have := h3 i (List.getElem?_eq_some_iff.1 hx).1
    rw [hx] at this
    simp only [Bool.and_eq_true, Bool.or_eq_true, Bool.not_eq_true', decide_eq_true_eq, decide_eq_false_iff_not] at this
    obtain ⟨⟨⟨a, b⟩, c⟩, e⟩ := this
    refine ⟨a, b, fun hk => by rcases c with c | c; exact absurd hk c; exact c, ?_⟩
    rcases e with e | ⟨⟨e1, e2⟩, e3⟩
    · exact .inl e
    · right
      refine ⟨e1, e2, ?_⟩
      split at e3
      · cases e3
      · rename_i y hy
        exact ⟨y, hy, by simpa using e3⟩
  refine ⟨h1, h2, fun i x hx => ?_, fun i x hx => ?_, ?_, fun i x hx => (key i x hx).2.2.2⟩
  · obtain ⟨a, b, _, _⟩ := key i x hx
    refine ⟨fun n hn => ?_, (insB_ok a).wf⟩
    have := List.all_eq_true.1 b n hn
    simpa using this
  · obtain ⟨a, _, c, _⟩ := key i x hx
    refine ⟨insB_ok a, fun hk => ?_⟩
    have := c hk
    exact ⟨_, List.getElem?_eq_getElem this⟩
  · split at h4
    · cases h4
    · rename_i x hx
      split at h4
      · cases h4
      · rename_i d1 lo1 hv
        simp only [Bool.and_eq_true, decide_eq_true_eq, beq_iff_eq] at h4
        obtain ⟨h5, rfl⟩ := h4
        exact ⟨_, x, d1, hx, visitF_l _ _ _ _ _ _ _ hv, h5.symm⟩
end Go.Proofs.YtkgpmjjleemdlaaGreat

set_option linter.unusedSimpArgs false
set_option linter.unusedVariables false
set_option maxRecDepth 100000
namespace Go.Proofs.YtkgpmjjleemdlaaGreat
open Go.Eng Go.Sort
attribute [local irreducible] Go.Eng.W

def keyL (slot key : Int) : List Ins := [⟨98, 10, 0, -8, key⟩, ⟨24, 1, 1, 0, slot⟩, ⟨0, 0, 0, 0, 0⟩, ⟨191, 2, 10, 0, 0⟩, ⟨7, 2, 0, 0, -8⟩, ⟨133, 0, 0, 0, 1⟩]
def foundL : List Ins := [⟨85, 0, 0, 2, 0⟩, ⟨183, 0, 0, 0, 0⟩, ⟨149, 0, 0, 0, 0⟩]
def ldI : Ins := ⟨113, 6, 0, 0, 0⟩
def endL (n : Int) : List Ins := [movI 0 n, exitI]
def progC : List Ins := keyL 0 1 ++ ((foundL ++ [ldI]) ++ endL 1)
def progD : List Ins := keyL 0 1 ++ ([ldI] ++ endL 1)
def arrS : Sp := ⟨0, 4, 8, 2⟩
theorem endL_form : formB (endL 7) #[2, 2] false = true := by kernel_rfl
theorem exit_form : formB [exitI] #[2] false = true := by kernel_rfl
theorem progC_form : formB progC #[2, 2, 0, 2, 2, 2, 2, 2, 2, 2, 2, 2] false = true := by kernel_rfl
theorem progD_form : formB progD #[2, 2, 0, 2, 2, 2, 2, 2, 2] false = true := by kernel_rfl
theorem endL_run (J : Jb) (h1 : J.xs = endL 7) (h2 : J.sp = []) (h3 : J.fz = []) (h4 : J.priv = false) : Runs J 512 (fun _ => []) 0 0 [(0, AState.start)] 0 2 0 := by
  obtain ⟨cb, mb, l, specs, frozen, priv, xs, sp, fz⟩ := J
  simp only at h1 h2 h3 h4
  subst h1 h2 h3 h4
  exact vrun_runs 50 _ _ _ _ _ _ _ (by kernel_rfl)
theorem exit_run (J : Jb) (h1 : J.xs = [exitI]) (h2 : J.sp = []) (h3 : J.fz = []) (h4 : J.priv = false) : Runs J 512 (fun _ => []) 0 0 [(0, AState.start)] 0 1 13 := by
  obtain ⟨cb, mb, l, specs, frozen, priv, xs, sp, fz⟩ := J
  simp only at h1 h2 h3 h4
  subst h1 h2 h3 h4
  exact vrun_runs 50 _ _ _ _ _ _ _ (by kernel_rfl)
theorem progC_run (J : Jb) (h1 : J.xs = progC) (h2 : J.sp = [arrS]) (h3 : J.fz = [false]) (h4 : J.priv = false) : Runs J 512 (fun _ => []) 0 0 [(0, AState.start)] 0 11 0 := by
  obtain ⟨cb, mb, l, specs, frozen, priv, xs, sp, fz⟩ := J
  simp only at h1 h2 h3 h4
  subst h1 h2 h3 h4
  exact vrun_runs 50 _ _ _ _ _ _ _ (by kernel_rfl)
theorem progD_run (J : Jb) (h1 : J.xs = progD) (h2 : J.sp = [arrS]) (h3 : J.fz = [false]) (h4 : J.priv = false) : Runs J 512 (fun _ => []) 0 0 [(0, AState.start)] 6 6 13 := by
  obtain ⟨cb, mb, l, specs, frozen, priv, xs, sp, fz⟩ := J
  simp only at h1 h2 h3 h4
  subst h1 h2 h3 h4
  exact vrun_runs 50 _ _ _ _ _ _ _ (by kernel_rfl)
theorem endL_check {v : Value} (w : World) (h : SlIs w v (endL 7)) : Ret Tryz.prog 8 [v, .agg #[.slice none 0 0, .slice none 0 0, .bool false]] w fun r w' => r = .tuple #[.agg #[.int .i64 0, .int .i64 ((2 : Nat) : Int)], .int .i64 0] ∧ Kept none' w w' :=
  have F := formed endL_form
  vcheckV_ret F.tame F.len F.chk F.walks F.seen w h false (by simp [cfgOf]) F.xok endL_run
theorem exit_check {v : Value} (w : World) (h : SlIs w v [exitI]) : Ret Tryz.prog 8 [v, .agg #[.slice none 0 0, .slice none 0 0, .bool false]] w fun r w' => r = .tuple #[.agg #[.int .i64 0, .int .i64 ((1 : Nat) : Int)], .int .i64 13] ∧ Kept none' w w' :=
  have F := formed exit_form
  vcheckV_ret F.tame F.len F.chk F.walks F.seen w h false (by simp [cfgOf]) F.xok exit_run
theorem arrS_ok : ∀ x ∈ [arrS], spOk x = true := by
  intro x hx
  rw [List.mem_singleton] at hx
  subst hx
  rfl
theorem progC_check {v sv fv : Value} (w : World) (h : SlIs w v progC) (hs : SpecsAt w sv [arrS]) (hf : FrozAt w fv [false]) : Ret Tryz.prog 8 [v, .agg #[sv, fv, .bool false]] w fun r w' => r = .tuple #[.agg #[.int .i64 0, .int .i64 ((11 : Nat) : Int)], .int .i64 0] ∧ Kept none' w w' :=
  have F := formed progC_form
  vcheckM_ret F.tame F.len F.chk F.walks F.seen w h hs hf arrS_ok (by simp) false (by simp [cfgOf]) F.xok progC_run
theorem progD_check {v sv fv : Value} (w : World) (h : SlIs w v progD) (hs : SpecsAt w sv [arrS]) (hf : FrozAt w fv [false]) : Ret Tryz.prog 8 [v, .agg #[sv, fv, .bool false]] w fun r w' => r = .tuple #[.agg #[.int .i64 6, .int .i64 ((6 : Nat) : Int)], .int .i64 13] ∧ Kept none' w w' :=
  have F := formed progD_form
  vcheckM_ret F.tame F.len F.chk F.walks F.seen w h hs hf arrS_ok (by simp) false (by simp [cfgOf]) F.xok progD_run
end Go.Proofs.YtkgpmjjleemdlaaGreat

set_option linter.unusedSimpArgs false
set_option linter.unusedVariables false
set_option maxRecDepth 8000
namespace Go.Proofs.YtkgpmjjleemdlaaGreat
open Go.Eng Go.Sort
attribute [local irreducible] Go.Eng.W

theorem ins_new {w : World} {b n : Nat} {xs : List Ins} (h : w.heap[b]? = some (.cells (insCells xs).toArray 28 (0, 0))) (hn : xs.length = n) (h0 : 0 < n) (h1 : n ≤ 1000) : InsRow w (.slice (some ⟨b, 0, none⟩) n n) xs := by
  subst hn
  exact ⟨insCells_len xs, .inr ⟨b, xs.length, (insCells xs).toArray, rfl, by omega, h, by omega, by unfold maxLen; omega, by simp [insCells_len], by rw [List.take_of_length_le (by simp [insCells_len])]⟩⟩
theorem ins_code {w : World} {v : Value} {xs : List Ins} (h : InsRow w v xs) (h0 : 0 < xs.length) : ∃ g c, v = .slice (some ⟨g, 0, none⟩) xs.length c ∧ CodeAt w g 0 xs := by
  rcases h.2 with ⟨rfl, h0'⟩ | ⟨g, cap, cur, rfl, hb, h2, h3, h4, h5, h6⟩
  · omega
  · refine ⟨g, cap, rfl, code_of_cells fun j y hy => ?_⟩
    rw [Nat.zero_add, wcell_of h2]
    rw [← h6, List.getElem?_take] at hy
    split at hy
    · simpa using hy
    · cases hy
set_option maxHeartbeats 4000000 in
theorem key_ret (w : World) (slot key : Int) : Ret Tryz.prog 21 [.int .i32 slot, .int .i32 key] w fun r w' => Kept none' w w' ∧ ∃ b, r = .slice (some ⟨b, 0, none⟩) 6 6 ∧ InsRow w' r (keyL slot key) ∧ w.heap.size ≤ b := by
  refine ret_of_W Tryz.func21 rfl ok_tipstaffref18_Key ?_
  simp only [c_tipstaffref18_Key, W_seq, W_set]
  refine ok_intro (.slice none 0 0) (by simp) ?_
  try simp only [W_seq]
  refine W_chkIn [(⟨133, 0, 0, 0, 1⟩ : Ins).val, (⟨7, 2, 0, 0, -8⟩ : Ins).val, (⟨191, 2, 10, 0, 0⟩ : Ins).val, (⟨24, 1, 1, 0, slot⟩ : Ins).val, (⟨98, 10, 0, -8, key⟩ : Ins).val] (by simp; exact ⟨rfl, rfl, rfl, rfl, rfl⟩) ?_
  try simp only [W_seq]
  refine W_row' (v := .agg (insCells (keyL slot key)).toArray) (cs := (insCells (keyL slot key)).toArray) (by simp [insCells, keyL]; kernel_rfl) rfl ?_
  simp
  exact ⟨(Kept.refl none' w).alloc _, ins_new (hp_new w _) rfl (by omega) (by omega)⟩
theorem found_ret (w : World) {b : Nat} {x : Ins} (h : CodeAt w b 0 [x]) : Ret Tryz.prog 22 [.slice (some ⟨b, 0, none⟩) 1 1] w fun r w' => Kept none' w w' ∧ InsRow w' r (foundL ++ [x]) ∧ ∀ g, r.ownBlock = some g → w.heap.size ≤ g := by
  refine ret_of_W Tryz.func22 rfl ok_tipstaffref18_Found ?_
  simp only [c_tipstaffref18_Found, W_seq, W_set]
  refine ok_intro (.slice none 0 0) (by simp) ?_
  try simp only [W_seq]
  refine W_chkIn [(⟨149, 0, 0, 0, 0⟩ : Ins).val, (⟨183, 0, 0, 0, 0⟩ : Ins).val, (⟨85, 0, 0, 2, 0⟩ : Ins).val] (by simp; exact ⟨rfl, rfl, rfl⟩) ?_
  try simp only [W_seq]
  refine W_row' (v := .agg (insCells foundL).toArray) (cs := (insCells foundL).toArray) (by simp [insCells, foundL]; exact rfl) rfl ?_
  have hrow := ins_new (xs := foundL) (n := 3) (hp_new w (.cells (insCells foundL).toArray 28)) rfl (by omega) (by omega)
  have hk1 := (Kept.refl none' w).alloc (.cells (insCells foundL).toArray 28)
  have hcode := h.calm hk1
  generalize (w.alloc (.cells (insCells foundL).toArray 28)) = w1 at *
  have hsz : w.heap.size ≤ w.heap.size := Nat.le_refl _
  generalize hb2 : w.heap.size = b2 at *
  simp only [W_seq, W_set]
  refine ok_intro (.slice (some ⟨b2, 0, none⟩) 3 3) (by simp) ?_
  try simp only [W_seq]
  obtain ⟨v', w2, hrun, hrow2, hk2, hown⟩ := ins_append (c := 1) hrow (by simp [foundL]) hcode
  refine W_bi (vs := [.slice (some ⟨b2, 0, none⟩) 3 3, .slice (some ⟨b, 0, none⟩) 1 1]) (by simp) hrun (stab_nil _ _ _) ?_
  have hvv := rowVar hrow2
  have hk02 : Kept none' w w2 := hk1.then hk2 (fun j hj e => by simp [Value.ownBlock] at e; omega)
  simp [hvv]
  refine ⟨hk02, hrow2, fun g hg => ?_⟩
  rcases hown with e | e
  · rw [e] at hg; simp [Value.ownBlock] at hg; omega
  · rw [e] at hg; injection hg with hg; have := hk1.size; omega
theorem array_ret (w : World) : Ret Tryz.prog 23 [.int .i64 8, .bool false, .bool false] w fun r w' => Kept none' w w' ∧ ∃ sv fv, r = .agg #[sv, fv, .bool false] ∧ SpecsAt w' sv [arrS] ∧ FrozAt w' fv [false] := by
  refine ret_of_W Tryz.func23 rfl ok_tipstafflaw18_array ?_
  simp only [c_tipstafflaw18_array, W_seq, W_set]
  refine W_new' (v := .agg #[.slice none 0 0, .slice none 0 0, .bool false]) (cs := #[.slice none 0 0, .slice none 0 0, .bool false]) (by simp) rfl ?_
  have h3 := hp_new w (.cells #[.slice none 0 0, .slice none 0 0, .bool false] 39)
  have hk1 := (Kept.refl none' w).alloc (.cells #[.slice none 0 0, .slice none 0 0, .bool false] 39)
  generalize hb3 : w.heap.size = b3 at *
  generalize (w.alloc (.cells #[.slice none 0 0, .slice none 0 0, .bool false] 39)) = w1 at *
  simp only [W_seq]
  refine W_chkIn [.agg arrS.arr] (by simp [repSp]; rfl) ?_
  try simp only [W_seq]
  refine W_row' (v := .agg arrS.arr) (cs := arrS.arr) (by simp [repSp]; exact rfl) rfl ?_
  have h4 := hp_new w1 (.cells arrS.arr 55)
  have hk2 := (Kept.refl none' w1).alloc (.cells arrS.arr 55)
  have h32 := hk2.has h3 fun h => h
  generalize hb4 : w1.heap.size = b4 at *
  generalize (w1.alloc (.cells arrS.arr 55)) = w2 at *
  try simp only [W_seq]
  refine W_row' (v := .agg #[.bool false]) (cs := #[.bool false]) (by simp) rfl ?_
  have h5 := hp_new w2 (.cells #[.bool false] 4)
  have hk3 := (Kept.refl none' w2).alloc (.cells #[.bool false] 4)
  have h33 := hk3.has h32 fun h => h
  have h43 := hk3.has h4 fun h => h
  generalize hb5 : w2.heap.size = b5 at *
  generalize (w2.alloc (.cells #[.bool false] 4)) = w3 at *
  try simp only [W_seq]
  refine W_chkIn [.agg #[.slice (some ⟨b4, 0, none⟩) 1 1, .slice (some ⟨b5, 0, none⟩) 1 1, .bool false]] (by simp) ?_
  have hs := box_store (v := .agg #[.slice (some ⟨b4, 0, none⟩) 1 1, .slice (some ⟨b5, 0, none⟩) 1 1, .bool false]) h33 (n := 3) rfl rfl (by simp [Value.cells, Value.oneCell'])
  have hcc : (Value.agg #[.slice (some ⟨b4, 0, none⟩) 1 1, .slice (some ⟨b5, 0, none⟩) 1 1, .bool false]).cells = #[.slice (some ⟨b4, 0, none⟩) 1 1, .slice (some ⟨b5, 0, none⟩) 1 1, .bool false] := rfl
  rw [hcc] at hs
  try simp only [W_seq]
  refine W_store (xv := .pointer (some ⟨b3, 0, none⟩)) (vv := .agg #[.slice (some ⟨b4, 0, none⟩) 1 1, .slice (some ⟨b5, 0, none⟩) 1 1, .bool false]) (by simp) (by simp) hs (stab_nil _ _ _) ?_
  have hl3 := blk_lt h3
  have hl4 := blk_lt h4
  have n4 : b4 ≠ b3 := by omega
  have n5 : b5 ≠ b3 := by have := hk2.size; omega
  have g3 := put_same (o := .cells #[.slice (some ⟨b4, 0, none⟩) 1 1, .slice (some ⟨b5, 0, none⟩) 1 1, .bool false] 39) (blk_lt h33)
  have g4 := (put_other (o := .cells #[.slice (some ⟨b4, 0, none⟩) 1 1, .slice (some ⟨b5, 0, none⟩) 1 1, .bool false] 39) (w := w3) n4).trans h43
  have g5 := (put_other (o := .cells #[.slice (some ⟨b4, 0, none⟩) 1 1, .slice (some ⟨b5, 0, none⟩) 1 1, .bool false] 39) (w := w3) n5).trans h5
  have hk03 := (hk1.trans hk2).trans hk3
  have hk04 := hk03.putNew (b := b3) (Nat.le_of_eq hb3) (.cells #[.slice (some ⟨b4, 0, none⟩) 1 1, .slice (some ⟨b5, 0, none⟩) 1 1, .bool false] 39 (0, 0))
  generalize Eng.put w3 b3 (.cells #[.slice (some ⟨b4, 0, none⟩) 1 1, .slice (some ⟨b5, 0, none⟩) 1 1, .bool false] 39 (0, 0)) = w4 at *
  have hr : wrow w4 b3 0 3 = some #[.slice (some ⟨b4, 0, none⟩) 1 1, .slice (some ⟨b5, 0, none⟩) 1 1, .bool false] := wrow_box g3 rfl
  simp [hr]
  refine ⟨hk04, _, _, ⟨rfl, rfl⟩, .inr ⟨b4, 0, 1, rfl, ?_, blk_lt g4⟩, .inr ⟨b5, 0, 1, rfl, ?_, blk_lt g5⟩⟩
  · intro i x hx
    have : i < 1 := by have := (List.getElem?_eq_some_iff.1 hx).1; simpa using this
    have : i = 0 := by omega
    subst this
    simp at hx
    subst hx
    exact wrow_box g4 rfl
  · intro i x hx
    have : i < 1 := by have := (List.getElem?_eq_some_iff.1 hx).1; simpa using this
    have : i = 0 := by omega
    subst this
    simp at hx
    subst hx
    rw [wcell_of g5]
    rfl
end Go.Proofs.YtkgpmjjleemdlaaGreat

set_option linter.unusedSimpArgs false
set_option linter.unusedVariables false
set_option maxRecDepth 8000
namespace Go.Proofs.YtkgpmjjleemdlaaGreat
open Go.Eng Go.Sort
attribute [local irreducible] Go.Eng.W

theorem wrow_lt {w : World} {b off n : Nat} {v : Array Value} (h : wrow w b off n = some v) : b < w.heap.size := by
  unfold wrow at h
  cases hc : w.heap[b]? with
  | none => rw [hc] at h; cases h
  | some o => exact (Array.getElem?_eq_some_iff.1 hc).1
set_option maxHeartbeats 1000000 in
theorem checks_ret (w : World) : Ret Tryz.prog 9 [] w fun r w' => r = .bool true ∧ Kept none' w w' := by
  refine ret_of_W Tryz.func9 rfl ok_tipstafflaw18_checks ?_
  simp only [c_tipstafflaw18_checks, W_seq, W_set]
  refine ok_intro (.bool false) (by simp) ?_
  try simp only [W_seq]
  refine W_calmP (by simp) (end_ret w 7) ?_
  rintro r w1 hk1 ⟨b1, rfl, hcode1, hb1⟩
  have hl1 : b1 < w1.heap.size := by
    have := hcode1 0 _ rfl
    exact wrow_lt this
  have hsl1 : SlIs w1 (.slice (some ⟨b1, 0, none⟩) 2 2) (endL 7) := .inr ⟨b1, 0, 2, rfl, by simp [endL], hcode1, hl1⟩
  try simp only [W_seq]
  refine W_calm (vs := [.slice (some ⟨b1, 0, none⟩) 2 2, .agg #[.slice none 0 0, .slice none 0 0, .bool false]]) (by simp) (endL_check w1 hsl1) ?_
  intro w2 hk2
  try simp only [W_seq]
  refine W_chkIn [.int .i64 (0), .agg #[.int .i64 (0), .int .i64 ((2 : Nat) : Int)]] (by simp) ?_
  try simp only [W_seq]
  refine W_new' (v := .agg #[.int .i64 0, .int .i64 0]) (cs := #[.int .i64 0, .int .i64 0]) (by simp) rfl ?_
  have hR1 := hp_new w2 (.cells #[.int .i64 0, .int .i64 0] 32)
  have hka1 := (Kept.refl none' w2).alloc (.cells #[.int .i64 0, .int .i64 0] 32)
  generalize hb1 : w2.heap.size = r1 at *
  generalize (w2.alloc (.cells #[.int .i64 0, .int .i64 0] 32)) = w2a at *
  have hs1 := box_store (v := .agg #[.int .i64 (0), .int .i64 ((2 : Nat) : Int)]) hR1 (n := 2) rfl rfl (by simp [Value.cells, Value.oneCell'])
  have hc1 : (Value.agg #[.int .i64 (0), .int .i64 ((2 : Nat) : Int)]).cells = #[.int .i64 (0), .int .i64 ((2 : Nat) : Int)] := rfl
  rw [hc1] at hs1
  try simp only [W_seq]
  refine W_store (xv := .pointer (some ⟨r1, 0, none⟩)) (vv := .agg #[.int .i64 (0), .int .i64 ((2 : Nat) : Int)]) (by simp) (by simp) hs1 (stab_nil _ _ _) ?_
  have hP1 := put_same (o := .cells #[.int .i64 (0), .int .i64 ((2 : Nat) : Int)] 32) (blk_lt hR1)
  have hkb1 := hka1.putNew (b := r1) (Nat.le_of_eq hb1) (.cells #[.int .i64 (0), .int .i64 ((2 : Nat) : Int)] 32 (0, 0))
  generalize Eng.put w2a r1 (.cells #[.int .i64 (0), .int .i64 ((2 : Nat) : Int)] 32 (0, 0)) = w3 at *
  clear hs1 hR1 hka1
  simp only [W_seq, W_set]
  refine ok_intro (.int .i64 (0)) (by simp) ?_

  have hk03 := (hk1.trans hk2).trans hkb1
  try simp only [W_seq]
  refine W_chkIn [exitI.val] (by simp; exact rfl) ?_
  try simp only [W_seq]
  refine W_row' (v := .agg (insCells [exitI]).toArray) (cs := (insCells [exitI]).toArray) (by simp [insCells]; exact rfl) rfl ?_
  have hi4 := ins_new (xs := [exitI]) (n := 1) (hp_new w3 (.cells (insCells [exitI]).toArray 28)) rfl (by omega) (by omega)
  have hk4 := (Kept.refl none' w3).alloc (.cells (insCells [exitI]).toArray 28)
  generalize (w3.alloc (.cells (insCells [exitI]).toArray 28)) = w4 at *
  generalize w3.heap.size = b4 at *
  try simp only [W_seq]
  refine W_calm (vs := [.slice (some ⟨b4, 0, none⟩) 1 1, .agg #[.slice none 0 0, .slice none 0 0, .bool false]]) (by simp) (exit_check w4 (ins_sl hi4)) ?_
  intro w5 hk5
  try simp only [W_seq]
  refine W_chkIn [.int .i64 (13), .agg #[.int .i64 (0), .int .i64 ((1 : Nat) : Int)]] (by simp) ?_
  try simp only [W_seq]
  refine W_new' (v := .agg #[.int .i64 0, .int .i64 0]) (cs := #[.int .i64 0, .int .i64 0]) (by simp) rfl ?_
  have hR2 := hp_new w5 (.cells #[.int .i64 0, .int .i64 0] 32)
  have hka2 := (Kept.refl none' w5).alloc (.cells #[.int .i64 0, .int .i64 0] 32)
  generalize hb2 : w5.heap.size = r2 at *
  generalize (w5.alloc (.cells #[.int .i64 0, .int .i64 0] 32)) = w5a at *
  have hs2 := box_store (v := .agg #[.int .i64 (0), .int .i64 ((1 : Nat) : Int)]) hR2 (n := 2) rfl rfl (by simp [Value.cells, Value.oneCell'])
  have hc2 : (Value.agg #[.int .i64 (0), .int .i64 ((1 : Nat) : Int)]).cells = #[.int .i64 (0), .int .i64 ((1 : Nat) : Int)] := rfl
  rw [hc2] at hs2
  try simp only [W_seq]
  refine W_store (xv := .pointer (some ⟨r2, 0, none⟩)) (vv := .agg #[.int .i64 (0), .int .i64 ((1 : Nat) : Int)]) (by simp) (by simp) hs2 (stab_nil _ _ _) ?_
  have hP2 := put_same (o := .cells #[.int .i64 (0), .int .i64 ((1 : Nat) : Int)] 32) (blk_lt hR2)
  have hkb2 := hka2.putNew (b := r2) (Nat.le_of_eq hb2) (.cells #[.int .i64 (0), .int .i64 ((1 : Nat) : Int)] 32 (0, 0))
  generalize Eng.put w5a r2 (.cells #[.int .i64 (0), .int .i64 ((1 : Nat) : Int)] 32 (0, 0)) = w6 at *
  clear hs2 hR2 hka2
  try simp only [W_seq]
  refine W_cut (fun env' w' => w' = w6 ∧ env' = [.bool false, .slice (some ⟨b1, 0, none⟩) 2 2, .tuple #[.agg #[.int .i64 (0), .int .i64 ((2 : Nat) : Int)], .int .i64 (0)], .pointer (some ⟨r1, 0, none⟩), .int .i64 0, .slice (some ⟨b4, 0, none⟩) 1 1, .tuple #[.agg #[.int .i64 (0), .int .i64 ((1 : Nat) : Int)], .int .i64 (13)], .pointer (some ⟨r2, 0, none⟩), .int .i64 13, undef, undef, undef, undef, undef, undef, undef, undef, undef, undef, undef, undef, undef, undef, undef, undef, undef, undef, undef]) ?_ ?_
  · rw [W_set]
    refine ok_intro (.int .i64 (13)) (by simp) ?_
    simp
  rintro env' w' ⟨hw'2, rfl⟩
  rw [hw'2]

  have hk06 := ((hk03.trans hk4).trans hk5).trans hkb2
  try simp only [W_seq]
  refine W_calmP (by simp) (key_ret w6 0 1) ?_
  rintro r w7 hk7 ⟨b7, rfl, hi7, hb7⟩
  try simp only [W_seq]
  refine W_chkIn [ldI.val] (by simp; exact rfl) ?_
  try simp only [W_seq]
  refine W_row' (v := .agg (insCells [ldI]).toArray) (cs := (insCells [ldI]).toArray) (by simp [insCells]; exact rfl) rfl ?_
  have hi8 := ins_new (xs := [ldI]) (n := 1) (hp_new w7 (.cells (insCells [ldI]).toArray 28)) rfl (by omega) (by omega)
  have hk8 := (Kept.refl none' w7).alloc (.cells (insCells [ldI]).toArray 28)
  generalize (w7.alloc (.cells (insCells [ldI]).toArray 28)) = w8 at *
  generalize w7.heap.size = b8 at *
  obtain ⟨g8, c8, e8, hcode8⟩ := ins_code hi8 (by simp)
  cases e8
  try simp only [W_seq]
  refine W_calmP (by simp) (found_ret w8 hcode8) ?_
  rintro v9 w9 hk9 ⟨hi9, ho9⟩
  have hv9 := rowVar hi9
  try simp only [W_seq]
  refine W_calmP (by simp) (end_ret w9 1) ?_
  rintro r w10 hk10 ⟨b10, rfl, hcode10, hb10⟩
  obtain ⟨v11, w11, hrun11, hi11, hk11, ho11⟩ := ins_append (c := 2) (rowCalm hi9 hk10) (by simp [foundL]) hcode10
  try simp only [W_seq]
  refine W_bi (vs := [v9, .slice (some ⟨b10, 0, none⟩) 2 2]) (by simp [hv9]) hrun11 (stab_nil _ _ _) ?_
  have hv11 := rowVar hi11
  have hk811 : Kept none' w8 w11 := (hk9.trans hk10).then hk11 (fun j hj e => by have := ho9 j e; omega)
  obtain ⟨g11, c11, e11, hcode11⟩ := ins_code hi11 (by simp [foundL])
  have hi7' := rowCalm hi7 (hk8.trans hk811)
  have hw8 : w7.heap.size ≤ w8.heap.size := hk8.size
  obtain ⟨v12, w12, hrun12, hi12, hk12, ho12⟩ := ins_append (c := c11) hi7' (by simp [keyL, foundL]) hcode11
  try simp only [W_seq]
  refine W_bi (vs := [.slice (some ⟨b7, 0, none⟩) 6 6, v11]) (by simp [hv11]) (by rw [e11]; exact hrun12) (stab_nil _ _ _) ?_
  have hv12 := rowVar hi12
  have hk612 : Kept none' w6 w12 := ((hk7.trans hk8).trans hk811).then hk12 (fun j hj e => by simp [Value.ownBlock] at e; omega)
  try simp only [W_seq]
  refine W_calmP (by simp) (array_ret w12) ?_
  rintro r w13 hk13 ⟨sv, fv, rfl, hsp13, hfr13⟩
  obtain ⟨hsv, _, _⟩ := hsp13.var
  obtain ⟨hfv, _⟩ := hfr13.var
  try simp only [W_seq]
  refine W_calm (vs := [v12, .agg #[sv, fv, .bool false]]) (by simp [hv12]) (progC_check w13 (ins_sl (rowCalm hi12 hk13)) hsp13 hfr13) ?_
  intro w14 hk14
  have hk614 := (hk612.trans hk13).trans hk14
  clear hi12 hi11 hi9 hi8 hi7 hi7' hcode11 hcode10 hcode8 hrun12 hrun11 hk12 hk11 ho12 ho11 ho9 hsp13 hfr13 hk14 hk13 hk612 hk811 hk10 hk9 hk8 hk7 hi4 hcode1 hsl1
  try simp only [W_seq]
  refine W_chkIn [.int .i64 (0), .agg #[.int .i64 (0), .int .i64 ((11 : Nat) : Int)]] (by simp) ?_
  try simp only [W_seq]
  refine W_new' (v := .agg #[.int .i64 0, .int .i64 0]) (cs := #[.int .i64 0, .int .i64 0]) (by simp) rfl ?_
  have hR3 := hp_new w14 (.cells #[.int .i64 0, .int .i64 0] 32)
  have hka3 := (Kept.refl none' w14).alloc (.cells #[.int .i64 0, .int .i64 0] 32)
  generalize hb3 : w14.heap.size = r3 at *
  generalize (w14.alloc (.cells #[.int .i64 0, .int .i64 0] 32)) = w14a at *
  have hs3 := box_store (v := .agg #[.int .i64 (0), .int .i64 ((11 : Nat) : Int)]) hR3 (n := 2) rfl rfl (by simp [Value.cells, Value.oneCell'])
  have hc3 : (Value.agg #[.int .i64 (0), .int .i64 ((11 : Nat) : Int)]).cells = #[.int .i64 (0), .int .i64 ((11 : Nat) : Int)] := rfl
  rw [hc3] at hs3
  try simp only [W_seq]
  refine W_store (xv := .pointer (some ⟨r3, 0, none⟩)) (vv := .agg #[.int .i64 (0), .int .i64 ((11 : Nat) : Int)]) (by simp) (by simp) hs3 (stab_nil _ _ _) ?_
  have hP3 := put_same (o := .cells #[.int .i64 (0), .int .i64 ((11 : Nat) : Int)] 32) (blk_lt hR3)
  have hkb3 := hka3.putNew (b := r3) (Nat.le_of_eq hb3) (.cells #[.int .i64 (0), .int .i64 ((11 : Nat) : Int)] 32 (0, 0))
  generalize Eng.put w14a r3 (.cells #[.int .i64 (0), .int .i64 ((11 : Nat) : Int)] 32 (0, 0)) = w15 at *
  clear hs3 hR3 hka3
  try simp only [W_seq]
  refine W_cut (fun env' w' => w' = w15 ∧ env' = [.bool false, .slice (some ⟨b1, 0, none⟩) 2 2, .tuple #[.agg #[.int .i64 (0), .int .i64 ((2 : Nat) : Int)], .int .i64 (0)], .pointer (some ⟨r1, 0, none⟩), .int .i64 0, .slice (some ⟨b4, 0, none⟩) 1 1, .tuple #[.agg #[.int .i64 (0), .int .i64 ((1 : Nat) : Int)], .int .i64 (13)], .pointer (some ⟨r2, 0, none⟩), .int .i64 13, .slice (some ⟨b7, 0, none⟩) 6 6, .slice (some ⟨b8, 0, none⟩) 1 1, v9, .slice (some ⟨b10, 0, none⟩) 2 2, v11, v12, .agg #[sv, fv, .bool false], .tuple #[.agg #[.int .i64 (0), .int .i64 ((11 : Nat) : Int)], .int .i64 (0)], .pointer (some ⟨r3, 0, none⟩), .int .i64 0, undef, undef, undef, undef, undef, undef, undef, undef, undef]) ?_ ?_
  · rw [W_set]
    refine ok_intro (.int .i64 (0)) (by simp) ?_
    simp
  rintro env' w' ⟨hw'3, rfl⟩
  rw [hw'3]

  have hk615 := hk614.trans hkb3
  have hk015 := hk06.trans hk615
  have hP2' := hk615.has hP2 fun h => h
  try simp only [W_seq]
  refine W_calmP (by simp) (key_ret w15 0 1) ?_
  rintro r w17 hk17 ⟨b17, rfl, hi17, hb17⟩
  have hlt17 : b17 < w17.heap.size := by
    obtain ⟨cc, hcc⟩ := row_block (b := b17) hi17 rfl
    exact blk_lt hcc
  try simp only [W_seq]
  refine W_chkIn [ldI.val] (by simp; exact rfl) ?_
  try simp only [W_seq]
  refine W_row' (v := .agg (insCells [ldI]).toArray) (cs := (insCells [ldI]).toArray) (by simp [insCells]; exact rfl) rfl ?_
  have hi18 := ins_new (xs := [ldI]) (n := 1) (hp_new w17 (.cells (insCells [ldI]).toArray 28)) rfl (by omega) (by omega)
  have hk18 := (Kept.refl none' w17).alloc (.cells (insCells [ldI]).toArray 28)
  have hb18 : w15.heap.size ≤ w17.heap.size := hk17.size
  generalize (w17.alloc (.cells (insCells [ldI]).toArray 28)) = w18 at *
  generalize w17.heap.size = b18 at *
  try simp only [W_seq]
  refine W_calmP (by simp) (end_ret w18 1) ?_
  rintro r w20 hk20 ⟨b20, rfl, hcode20, hb20⟩
  obtain ⟨v21, w21, hrun21, hi21, hk21, ho21⟩ := ins_append (c := 2) (rowCalm hi18 hk20) (by simp) hcode20
  try simp only [W_seq]
  refine W_bi (vs := [.slice (some ⟨b18, 0, none⟩) 1 1, .slice (some ⟨b20, 0, none⟩) 2 2]) (by simp) hrun21 (stab_nil _ _ _) ?_
  have hv21 := rowVar hi21
  have hk1521 : Kept none' w15 w21 := ((hk17.trans hk18).trans hk20).then hk21 (fun j hj e => by simp [Value.ownBlock] at e; omega)
  obtain ⟨g21, c21, e21, hcode21⟩ := ins_code hi21 (by simp)
  have hne : b17 ≠ b18 := by omega
  have hi17' := rowKeep (rowCalm hi17 (hk18.trans hk20)) hk21 (fun i hi e => by simp [Value.ownBlock] at hi e; omega)
  obtain ⟨v22, w22, hrun22, hi22, hk22, ho22⟩ := ins_append (c := c21) hi17' (by simp [keyL]) hcode21
  try simp only [W_seq]
  refine W_bi (vs := [.slice (some ⟨b17, 0, none⟩) 6 6, v21]) (by simp [hv21]) (by rw [e21]; exact hrun22) (stab_nil _ _ _) ?_
  have hv22 := rowVar hi22
  have hk1522 : Kept none' w15 w22 := hk1521.then hk22 (fun j hj e => by simp [Value.ownBlock] at e; omega)
  try simp only [W_seq]
  refine W_calmP (by simp) (array_ret w22) ?_
  rintro r w23 hk23 ⟨sv2, fv2, rfl, hsp23, hfr23⟩
  obtain ⟨hsv2, _, _⟩ := hsp23.var
  obtain ⟨hfv2, _⟩ := hfr23.var
  try simp only [W_seq]
  refine W_calm (vs := [v22, .agg #[sv2, fv2, .bool false]]) (by simp [hv22]) (progD_check w23 (ins_sl (rowCalm hi22 hk23)) hsp23 hfr23) ?_
  intro w24 hk24
  have hk1524 := (hk1522.trans hk23).trans hk24
  clear hi22 hi21 hi18 hi17 hi17' hcode21 hcode20 hrun22 hrun21 hk22 hk21 ho22 ho21 hsp23 hfr23 hk24 hk23 hk1522 hk1521 hk20 hk18 hk17
  try simp only [W_seq]
  refine W_chkIn [.int .i64 (13), .agg #[.int .i64 (6), .int .i64 ((6 : Nat) : Int)]] (by simp) ?_
  try simp only [W_seq]
  refine W_new' (v := .agg #[.int .i64 0, .int .i64 0]) (cs := #[.int .i64 0, .int .i64 0]) (by simp) rfl ?_
  have hR4 := hp_new w24 (.cells #[.int .i64 0, .int .i64 0] 32)
  have hka4 := (Kept.refl none' w24).alloc (.cells #[.int .i64 0, .int .i64 0] 32)
  generalize hb4 : w24.heap.size = r4 at *
  generalize (w24.alloc (.cells #[.int .i64 0, .int .i64 0] 32)) = w24a at *
  have hs4 := box_store (v := .agg #[.int .i64 (6), .int .i64 ((6 : Nat) : Int)]) hR4 (n := 2) rfl rfl (by simp [Value.cells, Value.oneCell'])
  have hc4 : (Value.agg #[.int .i64 (6), .int .i64 ((6 : Nat) : Int)]).cells = #[.int .i64 (6), .int .i64 ((6 : Nat) : Int)] := rfl
  rw [hc4] at hs4
  try simp only [W_seq]
  refine W_store (xv := .pointer (some ⟨r4, 0, none⟩)) (vv := .agg #[.int .i64 (6), .int .i64 ((6 : Nat) : Int)]) (by simp) (by simp) hs4 (stab_nil _ _ _) ?_
  have hP4 := put_same (o := .cells #[.int .i64 (6), .int .i64 ((6 : Nat) : Int)] 32) (blk_lt hR4)
  have hkb4 := hka4.putNew (b := r4) (Nat.le_of_eq hb4) (.cells #[.int .i64 (6), .int .i64 ((6 : Nat) : Int)] 32 (0, 0))
  generalize Eng.put w24a r4 (.cells #[.int .i64 (6), .int .i64 ((6 : Nat) : Int)] 32 (0, 0)) = w25 at *
  clear hs4 hR4 hka4
  simp only [W_seq, W_set]
  refine ok_intro (.int .i64 (13)) (by simp) ?_

  have hk1525 := hk1524.trans hkb4
  have hP2'' := hk1525.has hP2' fun h => h
  have c7 : wcell w25 r2 0 = some (.int .i64 0) := by rw [wcell_of hP2'']; rfl
  simp [c7]
  exact hk015.trans hk1525
end Go.Proofs.YtkgpmjjleemdlaaGreat

