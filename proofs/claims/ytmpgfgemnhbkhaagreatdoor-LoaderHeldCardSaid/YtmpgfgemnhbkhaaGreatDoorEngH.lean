/- Engine, part H: a region that draws its order: an operation that only reads may be taken first, if what it reads stays behind whatever need not wait for it. -/
import Derived.Test.YtmpgfgemnhbkhaaGreatDoorEngG
import Derived.Orders
set_option linter.unusedSimpArgs false
set_option linter.unusedVariables false
namespace Go.Eng
section
variable {P : Program} {ops : Array Oper} {Q : Exit → Act → World → Prop}

abbrev Cls := List (Nat × (World → Prop))

/-- What holds behind operation i: the readers that it does not wait for read as they did. -/
def Keep (ops : Array Oper) (Cs : Cls) (i : Nat) (w : World) : Prop := ∀ x ∈ Cs, waitsT ops ops.size i x.1 = false → x.2 w

/-- What holds behind operation i: a reader leaves the world; behind an effect the readers that it does not wait for read as they did. -/
def After (P : Program) (ops : Array Oper) (Cs : Cls) (i : Nat) (w w' : World) : Prop := if stillAt P ops i then w' = w else Keep ops Cs i w'

def wpAnyX (P : Program) (ops : Array Oper) (Q : Exit → Act → World → Prop) (Cs : Cls) : Nat → Array Bool → Act → World → Prop
  | 0, listed, a, w => Region.ready .any ops listed = [] ∧ Q .normal a w
  | fuel + 1, listed, a, w =>
    (Region.ready .any ops listed = [] → Q .normal a w) ∧
    ∀ i ∈ Region.ready .any ops listed, wpOp P ops Q i (fun a' w' => After P ops Cs i w w' ∧ wpAnyX P ops Q Cs fuel (listed.setIfInBounds i true) a' w') a w

theorem wpAny_of_X {Cs : Cls} : ∀ (fuel : Nat) (listed : Array Bool) (a : Act) (w : World), wpAnyX P ops Q Cs fuel listed a w → wpAny P .any ops Q fuel listed a w
  | 0, _, _, _, h => h
  | fuel + 1, _, _, _, h => ⟨h.1, fun i hi => wpOp_mono (fun a' w' h' => wpAny_of_X fuel _ a' w' h'.2) (h.2 i hi)⟩

theorem After.tail {c : Nat × (World → Prop)} {Cs : Cls} {i : Nat} {w w' : World} (h : After P ops (c :: Cs) i w w') : After P ops Cs i w w' := by
  unfold After at *
  split
  · rename_i hs; simpa [hs] using h
  · rename_i hs; simp only [hs] at h; exact fun x hx => h x (by simp [hx])

theorem wpAnyX_tail {c : Nat × (World → Prop)} {Cs : Cls} : ∀ (fuel : Nat) (listed : Array Bool) (a : Act) (w : World), wpAnyX P ops Q (c :: Cs) fuel listed a w → wpAnyX P ops Q Cs fuel listed a w
  | 0, _, _, _, h => h
  | fuel + 1, _, _, _, h => ⟨h.1, fun i hi => wpOp_mono (fun a' w' h' => ⟨After.tail h'.1, wpAnyX_tail fuel _ a' w' h'.2⟩) (h.2 i hi)⟩

/-- What has come up is closed. -/
def Closed (ops : Array Oper) (listed : Array Bool) : Prop :=
  ∀ (j : Nat) (oj : Oper), ops[j]? = some oj → listed.getD j true = true → ∀ e ∈ oj.after, Region.binds .any e = true → listed.getD e.on false = true

theorem getD_false_true {listed : Array Bool} {i : Nat} (h : listed.getD i false = true) : listed.getD i true = true := by
  rw [Array.getD_eq_getD_getElem?] at *
  cases hq : listed[i]? <;> simp_all

theorem Closed.set {listed : Array Bool} (h : Closed ops listed) {i : Nat} (hi : i ∈ Region.ready .any ops listed) : Closed ops (listed.setIfInBounds i true) := by
  obtain ⟨h0, oi, hoi, hall⟩ := mem_ready.1 hi
  have mono : ∀ k, listed.getD k false = true → (listed.setIfInBounds i true).getD k false = true := by
    intro k hk
    by_cases hik : i = k
    · subst hik
      have := getD_false_true hk
      rw [h0] at this; cases this
    · rw [getD_set_ne false hik]; exact hk
  intro j oj hj hl e he hb
  by_cases hij : i = j
  · subst hij
    have : oj = oi := Option.some.inj (hj.symm.trans hoi)
    subst this
    exact mono _ (hall e he hb)
  · rw [getD_set_ne true hij] at hl
    exact mono _ (h j oj hj hl e he hb)

theorem masksTo_length (ops : Array Oper) : ∀ k, (masksTo ops k).length = k
  | 0 => rfl
  | k + 1 => by simp [masksTo, masksTo_length ops k]
theorem fold_bit (l : List Nat) (j : Nat) : ∀ (es : List Edge) (m : Nat), (es.foldl (fun m e => if Region.binds .any e then m ||| (2 ^ e.on ||| l.getD e.on 0) else m) m).testBit j = true →
    m.testBit j = true ∨ ∃ e ∈ es, Region.binds .any e = true ∧ (e.on = j ∨ (l.getD e.on 0).testBit j = true)
  | [], m, h => .inl h
  | e :: es, m, h => by
    rw [List.foldl_cons] at h
    rcases fold_bit l j es _ h with h | ⟨e', he, h⟩
    · by_cases hb : Region.binds .any e = true
      · rw [if_pos hb, Nat.testBit_or, Nat.testBit_or, Nat.testBit_two_pow] at h
        simp only [Bool.or_eq_true, decide_eq_true_eq] at h
        rcases h with h | h
        · exact .inl h
        · exact .inr ⟨e, List.mem_cons_self, hb, h⟩
      · rw [if_neg hb] at h
        exact .inl h
    · exact .inr ⟨e', List.mem_cons_of_mem _ he, h⟩
theorem waits_listed {listed : Array Bool} (hc : Closed ops listed) : ∀ (n i j : Nat) (oi : Oper), ops[i]? = some oi →
    (∀ e ∈ oi.after, Region.binds .any e = true → listed.getD e.on false = true) → waitsT ops n i j = true → listed.getD j false = true
  | 0, i, j, oi, _, _, h => by simp [waitsT, masksTo] at h
  | n + 1, i, j, oi, hi, hall, h => by
    unfold waitsT masksTo at h
    have hlen := masksTo_length ops n
    rw [List.getD_eq_getElem?_getD] at h
    by_cases hin : i < n
    · rw [List.getElem?_append_left (by omega), ← List.getD_eq_getElem?_getD] at h
      exact waits_listed hc n i j oi hi hall h
    · rw [List.getElem?_append_right (by omega), hlen] at h
      by_cases hie : i = n
      · subst hie
        rw [Nat.sub_self, hi] at h
        simp only [List.getElem?_cons_zero, Option.getD_some, maskOf] at h
        rcases fold_bit _ j _ _ h with h | ⟨e, he, hb, h⟩
        · simp at h
        · have hl := hall e (Array.mem_toList_iff.1 he) hb
          rcases h with h | h
          · subst h; exact hl
          · have hlt : e.on < i := by
              rcases Nat.lt_or_ge e.on i with h' | h'
              · exact h'
              · rw [List.getD_eq_getElem?_getD, List.getElem?_eq_none (by omega)] at h; simp at h
            have hsz : i < ops.size := (Array.getElem?_eq_some_iff.1 hi).1
            have ho : ops[e.on]? = some (ops[e.on]'(by omega)) := Array.getElem?_eq_getElem (by omega)
            exact waits_listed hc i e.on j _ ho (hc e.on _ ho (getD_false_true hl)) h
      · rw [List.getElem?_eq_none (by simp; omega)] at h
        simp at h

/-- In state 'a', IN EVERY WORLD THAT MEETS 'C', the operation leaves v in its temporary. -/
def YieldsC (P : Program) (ops : Array Oper) (C : World → Prop) (o : Oper) (v : Value) (a : Act) : Prop :=
  (Region.wanted o (yielded ops a.tmps) = true ∧ ∀ w, C w → (execOp a.eval o).run P w = .ok (.value v) w) ∨
  (Region.wanted o (yielded ops a.tmps) = false ∧ v = undef)

theorem YieldsC.wpOp {C : World → Prop} {i : Nat} {o : Oper} {v : Value} {a : Act} (hi : ops[i]? = some o) (hy : YieldsC P ops C o v a)
    {K : Act → World → Prop} {w : World} (hC : C w) (h : K (a.put o.dst v) w) : wpOp P ops Q i K a w := by
  unfold Go.wpOp
  simp only [hi]
  rcases hy with ⟨hw, hv⟩ | ⟨hw, rfl⟩
  · simp only [hw, if_true, Oper.wp, hv w hC, Oper.upon]; exact .inl h
  · simp only [hw, Bool.false_eq_true, if_false]; exact h

theorem YieldsC.of_same {C : World → Prop} {o : Oper} {v : Value} {a a' : Act} (hy : YieldsC P ops C o v a) (he : execOp a'.eval o = execOp a.eval o)
    (hw : Region.wanted o (yielded ops a'.tmps) = Region.wanted o (yielded ops a.tmps)) : YieldsC P ops C o v a' := by
  unfold YieldsC at *
  rw [he, hw]
  exact hy

theorem wpOp_putC {C : World → Prop} {j : Nat} {oi oj : Oper} {v : Value} (hj : ops[j]? = some oj) (hap : oi.apart ops oj = true)
    (hsi : ∀ cs b, oi.op ≠ .select cs b) (hsj : ∀ cs b, oj.op ≠ .select cs b)
    (hQ : ∀ c a w, Q (.panic c) (a.put oi.dst v) w → Q (.panic c) a w) {K : Act → World → Prop} {a : Act} {w : World}
    (hy : YieldsC P ops C oi v a) (h : wpOp P ops Q j K (a.put oi.dst v) w) :
    wpOp P ops Q j (fun a' w' => YieldsC P ops C oi v a' ∧ K (a'.put oi.dst v) w') a w := by
  obtain ⟨h1, h2, h3⟩ := Oper.apart_spec hap
  have keep : ∀ (a : Act), YieldsC P ops C oi v a → ∀ u, YieldsC P ops C oi v (a.put oj.dst u) := fun a hy u =>
    hy.of_same (execOp_put oi hsi a oj.dst u h3) (wanted_put oi a oj.dst u h3)
  have keepD : ∀ d, YieldsC P ops C oi v { a with defers := d :: a.defers } := fun d => hy.of_same rfl rfl
  unfold wpOp at *
  simp only [hj] at *
  rw [wanted_put oj a oi.dst v h1] at h
  split
  · rename_i hw
    simp only [hw, if_true] at h
    rcases h with h | ⟨hasks, hlets⟩
    case inr => exact .inr ⟨by unfold Oper.asks at *; rw [execOp_put oj hsj a oi.dst v h1] at hasks; exact hasks, hlets⟩
    refine .inl ?_
    unfold Oper.wp at *
    rw [execOp_put oj hsj a oi.dst v h1] at h
    generalize (execOp a.eval oj).run P w = r at *
    cases r with
    | ok n w' =>
      cases n <;> simp only [Oper.upon] at h ⊢
      case value u => exact ⟨keep a hy u, by rw [← Act.put_comm a v u h2]; exact h⟩
      case skip => exact ⟨keep a hy _, by rw [← Act.put_comm a v undef h2]; exact h⟩
      case defer d =>
        refine ⟨keep _ (keepD d) _, ?_⟩
        rw [← Act.put_comm _ v undef h2, ← Act.put_defers]
        exact h
      case enter f args =>
        refine Calls.mono h fun e w'' he => ?_
        cases e with
        | returned u => exact ⟨keep a hy u, by rw [← Act.put_comm a v u h2]; exact he⟩
        | panicked c => exact hQ _ _ _ he
        | outgrown => exact he
      case row row args => exact Rows.mono h fun u w'' he => ⟨keep a hy u, by rw [← Act.put_comm a v u h2]; exact he⟩
    | halt x w' =>
      cases x <;> simp only [Oper.upon] at h ⊢
      case panic u => exact hQ _ _ _ h
  · rename_i hw
    simp only [hw] at h
    exact ⟨keep a hy _, by rw [← Act.put_comm a v undef h2]; exact h⟩

theorem wpAnyX_first {Cs : Cls} {C : World → Prop} {i : Nat} {oi : Oper} {v : Value} (hi : ops[i]? = some oi) (hsel : ∀ (j : Nat) (o : Oper) cs b, ops[j]? = some o → o.op ≠ .select cs b)
    (hQ : ∀ c a w, Q (.panic c) (a.put oi.dst v) w → Q (.panic c) a w) (hst : stillAt P ops i = true) :
    ∀ (fuel : Nat) (listed : Array Bool) (a : Act) (w : World), Closed ops listed →
      (∀ j oj, ops[j]? = some oj → j ≠ i → listed.getD j true = false → (∀ e ∈ oj.after, Region.binds .any e = true → e.on ≠ i) → oi.apart ops oj = true) →
      i ∈ Region.ready .any ops listed → YieldsC P ops C oi v a → C w →
      wpAnyX P ops Q ((i, C) :: Cs) fuel (listed.setIfInBounds i true) (a.put oi.dst v) w → wpAnyX P ops Q Cs (fuel + 1) listed a w := by
  have hself : ∀ w, After P ops Cs i w w := fun w => by unfold After; rw [if_pos hst]
  intro fuel
  induction fuel with
  | zero =>
    intro listed a w _ _ hr hy hC H
    refine ⟨fun h => (by rw [h] at hr; cases hr), fun j hj => ?_⟩
    by_cases hji : j = i
    · subst hji; exact hy.wpOp hi hC ⟨hself w, wpAnyX_tail _ _ _ _ H⟩
    · have := ready_mono hj hji
      rw [H.1] at this
      cases this
  | succ fuel ih =>
    intro listed a w hcl hfree hr hy hC H
    refine ⟨fun h => (by rw [h] at hr; cases hr), fun j hj => ?_⟩
    by_cases hji : j = i
    · subst hji; exact hy.wpOp hi hC ⟨hself w, wpAnyX_tail _ _ _ _ H⟩
    · have h1 := H.2 j (ready_mono hj hji)
      obtain ⟨hjun, oj, hoj, hall⟩ := mem_ready.1 hj
      have hiun : listed.getD i false = false := by
        have h0 := (mem_ready.1 hr).1
        rw [Array.getD_eq_getD_getElem?] at *
        cases hq : listed[i]? <;> simp_all
      have hnot : ∀ e ∈ oj.after, Region.binds .any e = true → e.on ≠ i := fun e he hb heq => by
        have h1 := hall e he hb
        rw [heq, hiun] at h1; cases h1
      have hnw : waitsT ops ops.size j i = false := by
        cases hq : waitsT ops ops.size j i with
        | false => rfl
        | true => have := waits_listed hcl _ _ _ oj hoj hall hq; rw [hiun] at this; cases this
      have h2 := wpOp_putC hoj (hfree j oj hoj hji hjun hnot) (fun cs b => hsel i oi cs b hi) (fun cs b => hsel j oj cs b hoj) hQ hy h1
      have hfree' : ∀ k ok, ops[k]? = some ok → k ≠ i → (listed.setIfInBounds j true).getD k true = false →
          (∀ e ∈ ok.after, Region.binds .any e = true → e.on ≠ i) → oi.apart ops ok = true := fun k ok hk hki hun hno => by
        refine hfree k ok hk hki ?_ hno
        by_cases hjk : j = k
        · subst hjk; exact hjun
        · rw [getD_set_ne true hjk] at hun; exact hun
      refine wpOp_mono (fun a' w' h3 => ?_) h2
      obtain ⟨hy', hk', hx'⟩ := h3
      have hC' : C w' := by
        unfold After at hk'
        split at hk'
        · rw [hk']; exact hC
        · exact hk' (i, C) (by simp) hnw
      refine ⟨After.tail hk', ih (listed.setIfInBounds j true) a' w' (hcl.set hj) hfree' (ready_mono hr (Ne.symm hji)) hy' hC' ?_⟩
      rw [Array.setIfInBounds_comm _ _ hji]
      exact hx'

theorem wp_region_X {id : Nat} {a : Act} {w : World} (hm : P.follows .mixedOrders = true)
    (h : wpAnyX P ops Q [] ops.size (Array.replicate ops.size false) a w.drew) : (Code.region id ops true).wp P Q a w :=
  wp_region_any hm (wpAny_of_X _ _ _ _ h)

theorem closed_start : Closed ops (Array.replicate ops.size false) := by
  intro j oj hj hl
  have hlt : j < ops.size := (Array.getElem?_eq_some_iff.1 hj).1
  simp [Array.getD_eq_getD_getElem?, hlt] at hl
end
end Go.Eng
