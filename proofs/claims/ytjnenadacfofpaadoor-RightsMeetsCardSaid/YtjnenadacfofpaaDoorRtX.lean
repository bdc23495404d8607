/- RightsWithin, RightsMeets: the walks. -/
import Derived.Test.YtjnenadacfofpaaDoorRtT
import Derived.Test.YtjnenadacfofpaaDoorRtW
set_option linter.unusedSimpArgs false
set_option linter.unusedVariables false
set_option maxRecDepth 8000
namespace Go.Proofs.YtjnenadacfofpaaDoor
open Go.Eng

theorem and_left {x y : Nat} : (x &&& y) &&& x = x &&& y := by rw [Nat.and_comm (x &&& y) x, ← Nat.and_assoc, Nat.and_self]
theorem and_right {x y : Nat} : (x &&& y) &&& y = x &&& y := by rw [Nat.and_assoc, Nat.and_self]
theorem common_ab_a (a b : Rt) : common (common a b) a = common a b := by
  simp only [common, Rt.mk.injEq, and_left, true_and]
  cases a.v <;> cases a.s <;> cases b.v <;> cases b.s <;> simp
theorem common_ab_b (a b : Rt) : common (common a b) b = common a b := by
  simp only [common, Rt.mk.injEq, and_right, true_and]
  cases a.v <;> cases a.s <;> cases b.v <;> cases b.s <;> simp
theorem common_assoc (a b c : Rt) : common (common a b) c = common a (common b c) := by
  simp only [common, Rt.mk.injEq, Nat.and_assoc, Bool.and_assoc, Bool.or_assoc, and_self]
theorem common_trans {a b c : Rt} (h : common a b = a) (g : common b c = b) : common a c = a := by
  have := common_assoc a b c
  rw [h, g, h] at this
  exact this
theorem common_both (a b c : Rt) : (common c (common a b) = c) = (common c a = c ∧ common c b = c) := by
  refine propext ⟨fun h => ⟨?_, ?_⟩, fun ⟨h1, h2⟩ => ?_⟩
  · exact common_trans h (common_ab_a a b)
  · exact common_trans h (common_ab_b a b)
  · rw [← common_assoc, h1, h2]

def KX (rest : Env) (B : World) (a b c : Rt) (env : Env) (l : Own) : Prop := ∃ i j k : Nat, env = [.agg a.arr, .agg b.arr, .agg c.arr, .bool false, .pointer (some ⟨B.heap.size, 0, none⟩), .pointer (some ⟨B.heap.size + 1, 0, none⟩), .pointer (some ⟨B.heap.size + 2, 0, none⟩), .agg a.arr, .agg b.arr, .agg b.arr, .agg c.arr, .agg c.arr,
  .pointer (some ⟨B.heap.size + i, 0, none⟩), .pointer (some ⟨B.heap.size + j, 0, none⟩), .pointer (some ⟨B.heap.size + k, 0, none⟩), .agg a.arr] ++ rest ∧
  ∃ t u : TypeId, l[0]? = some (a.arr, t) ∧ l[1]? = some (b.arr, t) ∧ l[2]? = some (c.arr, t) ∧ l[i]? = some (a.arr, u) ∧ l[j]? = some (b.arr, u) ∧ l[k]? = some (c.arr, u) ∧ l.length = 6

set_option maxHeartbeats 4000000 in
theorem rwithin_T {w0 : World} (hg : Glob w0) {a b c : Rt} (ha : a.wf) (hb : b.wf) (hc : c.wf) : T Tryd.prog w0 3 [a.val, b.val, c.val] = some (.bool true) :=
  T_of (by kernel_rfl) Tryd.func3 rfl ok_tipstafflaw11_RightsWithin (by simp) (by simp) fun B hB => by
    have t1 := to_T w0 a
    have t2 := to_T w0 b
    have t3 := to_T w0 c
    simp only [Rt.val] at t1 t2 t3
    unfold c_tipstafflaw11_RightsWithin
    rw [C_seq, C_seq]
    simp only [C_seq, C_new, C_set, Ok_some, Ex.ev, env0]
    simp
    refine C_cut (KX [undef, undef, undef, undef, undef, undef, undef, undef, undef, undef, undef, undef, undef, undef, undef, undef, undef, undef, undef, undef, undef, undef, undef, undef, undef, undef] B a b c) ?_ ?_
    · simp (maxSteps := 10000000) [C_alt, t1, t2, t3]
      refine ⟨⟨?_, ?_⟩, ⟨?_, ?_⟩, ?_, ?_⟩
      · exact ⟨3, 4, 5, rfl, _, _, rfl, rfl, rfl, rfl, rfl, rfl, rfl⟩
      · exact ⟨3, 5, 4, rfl, _, _, rfl, rfl, rfl, rfl, rfl, rfl, rfl⟩
      · exact ⟨4, 3, 5, rfl, _, _, rfl, rfl, rfl, rfl, rfl, rfl, rfl⟩
      · exact ⟨5, 3, 4, rfl, _, _, rfl, rfl, rfl, rfl, rfl, rfl, rfl⟩
      · exact ⟨4, 5, 3, rfl, _, _, rfl, rfl, rfl, rfl, rfl, rfl, rfl⟩
      · exact ⟨5, 4, 3, rfl, _, _, rfl, rfl, rfl, rfl, rfl, rfl, rfl⟩
    · rintro env l ⟨i, j, k, rfl, t, u, h0, h1, h2, hi, hj, hk, hl⟩
      have e1 := common_T w0 ha hb
      simp only [Rt.val] at e1
      rw [C_seq]
      refine C_cut (fun env l => ∃ (u : TypeId), env = [.agg a.arr, .agg b.arr, .agg c.arr, .bool false, .pointer (some ⟨B.heap.size, 0, none⟩), .pointer (some ⟨B.heap.size + 1, 0, none⟩), .pointer (some ⟨B.heap.size + 2, 0, none⟩), .agg a.arr, .agg b.arr, .agg b.arr, .agg c.arr, .agg c.arr,
        .pointer (some ⟨B.heap.size + i, 0, none⟩), .pointer (some ⟨B.heap.size + j, 0, none⟩), .pointer (some ⟨B.heap.size + k, 0, none⟩), .agg a.arr, .agg (common a b).arr, .pointer (some ⟨B.heap.size + 6, 0, none⟩), undef, undef, undef, undef, undef, undef, undef, undef, undef, undef, undef, undef, undef, undef, undef, undef, undef, undef, undef, undef, undef, undef, undef, undef] ∧
        l[0]? = some (a.arr, t) ∧ l[1]? = some (b.arr, t) ∧ l[2]? = some (c.arr, t) ∧ l[i]? = some (a.arr, u) ∧ l[j]? = some (b.arr, u) ∧ l[k]? = some (c.arr, u) ∧ ∃ u, l[6]? = some ((common a b).arr, u)) ?_ ?_
      · have grow : ∀ {n : Nat} {x y : Array Value × TypeId}, l[n]? = some x → (l ++ [y])[n]? = some x := fun h => by
          rw [List.getElem?_append_left (List.getElem?_eq_some_iff.1 h).1]; exact h
        have at' : ∀ {n : Nat} {x : Array Value × TypeId} (h : n < l.length), l[n]? = some x → l[n] = x := fun h g => by rw [List.getElem?_eq_getElem h] at g; exact Option.some.inj g
        simp [h0, h1, h2, hi, hj, hk, hl, e1]
        exact ⟨at' _ h0, at' _ h1, at' _ h2, u, grow hi, grow hj, grow hk⟩
      · rintro env l ⟨u, rfl, h0, h1, h2, hi, hj, hk, v, h6⟩
        have hw := whole_T hg
        have e2 := within_T w0 ha hb
        have e3 := refWithin_T w0 ha hb
        have e4 := from_T w0 (common a b)
        have e5 := refCommon_T w0 ha hb
        have hab := common_wf (b := b) ha
        have e6 := within_T w0 hab ha
        have e7 := within_T w0 hab hb
        have e8 := within_T w0 ha ha
        have e9 := within_T w0 hb hc
        have e10 := within_T w0 ha hc
        have e11 := within_T w0 hc hab
        have e12 := within_T w0 hc ha
        have e13 := within_T w0 hc hb
        rw [decide_eq_true (common_ab_a a b)] at e6
        rw [decide_eq_true (common_ab_b a b)] at e7
        rw [decide_eq_true (common_self a)] at e8
        simp only [Rt.val] at e2 e3 e4 e5 e6 e7 e8 e9 e10 e11 e12 e13
        have hfin : (decide (common c (common a b) = c) == (decide (common c a = c) && decide (common c b = c))) = true := by
          simp [common_both a b c]
        have htr := common_trans (a := a) (b := b) (c := c)
        have cb := common_both a b c
        have hxyz : decide (common c (common a b) = c) = (decide (common c a = c) && decide (common c b = c)) := by simp [cb]
        have hpqr : decide (common a b = a) = true → decide (common b c = b) = true → decide (common a c = a) = true := fun h1 h2 => by simp at h1 h2 ⊢; exact htr h1 h2
        clear htr hfin cb
        generalize decide (common a b = a) = p at e2 e3 hpqr
        generalize decide (common b c = b) = q at e9 hpqr
        generalize decide (common a c = a) = r at e10 hpqr
        generalize decide (common c a = c) = x at e12 hxyz
        generalize decide (common c b = c) = y at e13 hxyz
        generalize decide (common c (common a b) = c) = z at e11 hxyz
        cases p <;> cases q <;> cases x <;> cases y <;> (try (simp at hxyz)) <;> (try (simp at hpqr)) <;> (try subst hxyz) <;> (try subst hpqr) <;> (repeat' first
            | simp only [C_seq, C_skip, C_draw, C_clr, List.foldl_cons, List.foldl_nil, List.set_cons_succ, List.set_cons_zero]
            | (apply C_setI; · simp [h0, h1, h2, hi, hj, hk, h6] <;> rfl
               simp only [List.set_cons_succ, List.set_cons_zero])
            | (apply C_chkI; · simp [h0, h1, h2, hi, hj, hk, h6] <;> rfl)
            | (apply C_callI; · simp [h0, h1, h2, hi, hj, hk, h6] <;> rfl
               · first | exact hw | exact e2 | exact e3 | exact e4 | exact e5 | exact e6 | exact e7 | exact e8 | exact e9 | exact e10 | exact e11 | exact e12 | exact e13
               simp only [setO, List.set_cons_succ, List.set_cons_zero])
            | (refine C_yes ?_ ?_; · simp [h0, h1, h2, hi, hj, hk, h6])
            | (refine C_no ?_ ?_; · simp [h0, h1, h2, hi, hj, hk, h6])
            | (rw [C_ret]; simp; done)
            | fail)

set_option maxHeartbeats 4000000 in
theorem rmeets_T {w0 : World} (hg : Glob w0) {a b c : Rt} (ha : a.wf) (hb : b.wf) (hc : c.wf) : T Tryd.prog w0 6 [a.val, b.val, c.val] = some (.bool true) :=
  T_of (by kernel_rfl) Tryd.func6 rfl ok_tipstafflaw11_RightsMeets (by simp) (by simp) fun B hB => by
    have t1 := to_T w0 a
    have t2 := to_T w0 b
    have t3 := to_T w0 c
    simp only [Rt.val] at t1 t2 t3
    unfold c_tipstafflaw11_RightsMeets
    rw [C_seq, C_seq]
    simp only [C_seq, C_new, C_set, Ok_some, Ex.ev, env0]
    simp
    refine C_cut (KX [undef, undef, undef, undef, undef, undef, undef, undef, undef, undef, undef, undef, undef, undef, undef, undef, undef, undef, undef, undef, undef, undef, undef, undef, undef, undef, undef, undef] B a b c) ?_ ?_
    · simp (maxSteps := 10000000) [C_alt, t1, t2, t3]
      refine ⟨⟨?_, ?_⟩, ⟨?_, ?_⟩, ?_, ?_⟩
      · exact ⟨3, 4, 5, rfl, _, _, rfl, rfl, rfl, rfl, rfl, rfl, rfl⟩
      · exact ⟨3, 5, 4, rfl, _, _, rfl, rfl, rfl, rfl, rfl, rfl, rfl⟩
      · exact ⟨4, 3, 5, rfl, _, _, rfl, rfl, rfl, rfl, rfl, rfl, rfl⟩
      · exact ⟨5, 3, 4, rfl, _, _, rfl, rfl, rfl, rfl, rfl, rfl, rfl⟩
      · exact ⟨4, 5, 3, rfl, _, _, rfl, rfl, rfl, rfl, rfl, rfl, rfl⟩
      · exact ⟨5, 4, 3, rfl, _, _, rfl, rfl, rfl, rfl, rfl, rfl, rfl⟩
    · rintro env l ⟨i, j, k, rfl, t, u, h0, h1, h2, hi, hj, hk, hl⟩
      simp only [List.cons_append, List.nil_append]
      have hab := common_wf (b := b) ha
      have e1 := common_T w0 ha hb
      have e2 := common_T w0 hab hc
      simp only [Rt.val] at e1 e2
      have grow : ∀ {l : Own} {n : Nat} {x y : Array Value × TypeId}, l[n]? = some x → (l ++ [y])[n]? = some x := fun h => by
        rw [List.getElem?_append_left (List.getElem?_eq_some_iff.1 h).1]; exact h
      have at' : ∀ {l : Own} {n : Nat} {x : Array Value × TypeId} (h : n < l.length), l[n]? = some x → l[n] = x := fun h g => by rw [List.getElem?_eq_getElem h] at g; exact Option.some.inj g
      rw [C_seq]
      refine C_cut (fun env l => env = [.agg a.arr, .agg b.arr, .agg c.arr, .bool false, .pointer (some ⟨B.heap.size, 0, none⟩), .pointer (some ⟨B.heap.size + 1, 0, none⟩), .pointer (some ⟨B.heap.size + 2, 0, none⟩), .agg a.arr, .agg b.arr, .agg b.arr, .agg c.arr, .agg c.arr,
        .pointer (some ⟨B.heap.size + i, 0, none⟩), .pointer (some ⟨B.heap.size + j, 0, none⟩), .pointer (some ⟨B.heap.size + k, 0, none⟩), .agg a.arr, .agg (common a b).arr, .agg c.arr, .agg (common (common a b) c).arr, .pointer (some ⟨B.heap.size + 6, 0, none⟩), .agg a.arr, .agg b.arr, undef, undef, undef, undef, undef, undef, undef, undef, undef, undef, undef, undef, undef, undef, undef, undef, undef, undef, undef, undef, undef, undef] ∧ l.length = 7 ∧
        ∃ (t u v : TypeId), l[0]? = some (a.arr, t) ∧ l[1]? = some (b.arr, t) ∧ l[2]? = some (c.arr, t) ∧ l[i]? = some (a.arr, u) ∧ l[j]? = some (b.arr, u) ∧ l[k]? = some (c.arr, u) ∧ l[6]? = some ((common (common a b) c).arr, v)) ?_ ?_
      · simp [C_alt, h0, h1, h2, hi, hj, hk, hl, e1, e2]
        exact ⟨t, at' _ h0, at' _ h1, at' _ h2, u, grow hi, grow hj, grow hk⟩
      · rintro env l ⟨rfl, hl, t, u, v, h0, h1, h2, hi, hj, hk, h6⟩
        have ea := all_T w0
        simp only [Rt.val] at ea
        rw [C_seq]
        refine C_cut (fun env l => env = [.agg a.arr, .agg b.arr, .agg c.arr, .bool false, .pointer (some ⟨B.heap.size, 0, none⟩), .pointer (some ⟨B.heap.size + 1, 0, none⟩), .pointer (some ⟨B.heap.size + 2, 0, none⟩), .agg a.arr, .agg b.arr, .agg b.arr, .agg c.arr, .agg c.arr,
          .pointer (some ⟨B.heap.size + i, 0, none⟩), .pointer (some ⟨B.heap.size + j, 0, none⟩), .pointer (some ⟨B.heap.size + k, 0, none⟩), .agg a.arr, .agg (common a b).arr, .agg c.arr, .agg (common (common a b) c).arr, .pointer (some ⟨B.heap.size + 6, 0, none⟩), .agg a.arr, .agg b.arr, .agg Rt.all.arr, .pointer (some ⟨B.heap.size + 7, 0, none⟩), undef, undef, undef, undef, undef, undef, undef, undef, undef, undef, undef, undef, undef, undef, undef, undef, undef, undef, undef, undef] ∧
          ∃ (t u v z : TypeId), l[0]? = some (a.arr, t) ∧ l[1]? = some (b.arr, t) ∧ l[2]? = some (c.arr, t) ∧ l[i]? = some (a.arr, u) ∧ l[j]? = some (b.arr, u) ∧ l[k]? = some (c.arr, u) ∧ l[6]? = some ((common (common a b) c).arr, v) ∧ l[7]? = some (Rt.all.arr, z)) ?_ ?_
        · simp [h0, h1, h2, hi, hj, hk, hl, h6, ea]
          exact ⟨t, at' _ h0, at' _ h1, at' _ h2, u, grow hi, grow hj, grow hk, v, at' _ h6⟩
        · rintro env l ⟨rfl, t, u, v, z, h0, h1, h2, hi, hj, hk, h6, h7⟩
          have hq1 : common (common a b) c = common a (common c b) := by rw [common_assoc, common_comm b c]
          have hq2 : common b a = common a b := common_comm b a
          have hcb := common_wf (b := b) hc
          have e3 := whole_T hg
          have e4 := common_T w0 hc hb
          have e5 := common_T w0 ha hcb
          have e6 := common_T w0 hb ha
          have e7 := common_T w0 ha ha
          have e8 := common_T w0 ha all_wf
          have e9 := within_T w0 ha all_wf
          simp only [Rt.val] at e4 e5 e6 e7 e8 e9
          repeat' first
            | simp only [C_seq, C_skip, C_draw, C_clr, List.foldl_cons, List.foldl_nil, List.set_cons_succ, List.set_cons_zero]
            | (apply C_setI; · simp [h0, h1, h2, hi, hj, hk, h6, h7, hq1, hq2, common_self] <;> rfl
               simp only [List.set_cons_succ, List.set_cons_zero])
            | (apply C_chkI; · simp [h0, h1, h2, hi, hj, hk, h6, h7, hq1, hq2, common_self] <;> rfl)
            | (apply C_callI; · simp [h0, h1, h2, hi, hj, hk, h6, h7, hq1, hq2, common_self] <;> rfl
               · first | exact e1 | exact e3 | exact e4 | exact e5 | exact e6 | exact e7 | exact e8 | exact e9
               simp only [setO, List.set_cons_succ, List.set_cons_zero])
            | (refine C_yes ?_ ?_; · simp [h0, h1, h2, hi, hj, hk, h6, h7, hq1, hq2, common_self])
            | (refine C_no ?_ ?_; · simp [h0, h1, h2, hi, hj, hk, h6, h7, hq1, hq2, common_self])
            | (rw [C_ret]; simp; done)
            | fail
end Go.Proofs.YtjnenadacfofpaaDoor
