/- Layer 18: a step, by what its instruction's function tells. -/
import Derived.Test.YtkgpmjjleemdlaaGreatVf1
import Derived.Test.YtkgpmjjleemdlaaGreatCf1
set_option linter.unusedSimpArgs false
set_option linter.unusedVariables false
set_option maxRecDepth 8000
namespace Go.Proofs.YtkgpmjjleemdlaaGreat
open Go.Eng
attribute [local irreducible] Go.Eng.W

/-- What comes of a step: one state further on, none any more, or it can't be done. -/
inductive Out where
  | on (p : Nat) (s : AState)
  | done
  | bad
def Tells (w : World) (o : Out) (r : Value) (w' : World) : Prop :=
  match o with
  | .on p s => ∃ v, r = .tuple #[v, .bool true] ∧ OneWay w w' v p s
  | .done => r = .tuple #[.slice none 0 0, .bool true] ∧ Kept none' w w'
  | .bad => ∃ v, r = .tuple #[v, .bool false] ∧ varV v = some v ∧ Kept none' w w'
theorem Tells.before {w0 w w' : World} {o : Out} {r : Value} (h : Tells w o r w') (hk : Kept none' w0 w) : Tells w0 o r w' := by
  cases o with
  | on p s => obtain ⟨v, h1, h2⟩ := h; exact ⟨v, h1, h2.before hk⟩
  | done => exact ⟨h.1, hk.trans h.2⟩
  | bad => obtain ⟨v, h1, h2, h3⟩ := h; exact ⟨v, h1, h2, hk.trans h3⟩
theorem OneWay.var {w w' : World} {v : Value} {p : Int} {s : AState} (h : OneWay w w' v p s) : varV v = some v := by
  obtain ⟨h1, b, rfl, _⟩ := h; rfl
/-- Its two parts, as values. -/
theorem Tells.two {w w' : World} {o : Out} {r : Value} (h : Tells w o r w') : ∃ v t, r = .tuple #[v, .bool t] ∧ varV v = some v := by
  cases o with
  | on p s => obtain ⟨v, h1, h2⟩ := h; exact ⟨v, true, h1, h2.var⟩
  | done => exact ⟨_, _, h.1, rfl⟩
  | bad => obtain ⟨v, h1, h2, h3⟩ := h; exact ⟨v, false, h1, h2⟩
theorem Tells.kept {w w' : World} {o : Out} {r : Value} (h : Tells w o r w') : Kept none' w w' := by
  cases o with
  | on p s => obtain ⟨v, h1, h2⟩ := h; exact h2.1
  | done => exact h.2
  | bad => obtain ⟨v, h1, h2, h3⟩ := h; exact h3

theorem WayBox.kind0 {w : World} {b : Nat} {p : Int} {s : AState} (h : WayBox w b p s) : wcell w b 1 = some (.int .i64 (s.r 0).kind) := by
  have h1 : s.cell 0 = (s.r 0).at 0 := cell_reg s 0 0 (by omega) (by omega)
  have h2 := way_at p s 0 (by omega)
  rw [wcell_of h, h2, h1]
  rfl
end Go.Proofs.YtkgpmjjleemdlaaGreat

set_option linter.unusedSimpArgs false
set_option linter.unusedVariables false
set_option maxRecDepth 8000
namespace Go.Proofs.YtkgpmjjleemdlaaGreat
open Go.Eng
attribute [local irreducible] Go.Eng.W

/-- The checker's program and environment, which stay as they are. -/
structure Job where
  cb : Nat
  mb : Nat
  l : Value
  specs : Value
  frozen : Value
  priv : Bool
  ids : Int
  xs : List Ins
def StepOk (J : Job) (p : Nat) (s : AState) (o : Out) : Prop := ∀ w left, ChkAt w J.cb J.l J.specs J.frozen J.priv left J.mb J.ids → SlIs w J.l J.xs → Ret Tryz.prog 36 [.pointer (some ⟨J.cb, 0, none⟩), .agg (wayArr p s)] w (Tells w o)
def NotCov (p : Nat) (t s : AState) : Prop := ∀ w b, WayBox w b p s → Ret Tryz.prog 49 [.agg t.arr, .pointer (some ⟨b, 0, none⟩)] w fun r w' => r = .bool false ∧ Kept none' w w'
def seenPut (f : Nat → List AState) (p : Nat) (s : AState) : Nat → List AState := fun q => if q = p then f p ++ [s] else f q
/-- A run that goes one way, and what it tells: the place, the steps, the error. -/
inductive Goes (J : Job) (most : Nat) : (Nat → List AState) → Nat → Nat → AState → Int → Nat → Int → Prop
  | big {seen : Nat → List AState} {n p : Nat} {s : AState} (hn : n = most) (hc : ∀ t ∈ seen p, NotCov p t s) : Goes J most seen n p s p n 7
  | bad {seen : Nat → List AState} {n p : Nat} {s : AState} (hn : n < most) (hc : ∀ t ∈ seen p, NotCov p t s) (hs : StepOk J p s .bad) : Goes J most seen n p s p (n + 1) 13
  | done {seen : Nat → List AState} {n p : Nat} {s : AState} (hn : n < most) (hc : ∀ t ∈ seen p, NotCov p t s) (hs : StepOk J p s .done) : Goes J most seen n p s 0 (n + 1) 0
  | on {seen : Nat → List AState} {n p p' : Nat} {s s' : AState} {a e : Int} {m : Nat} (hn : n < most) (hc : ∀ t ∈ seen p, NotCov p t s) (hs : StepOk J p s (.on p' s')) (hr : Goes J most (seenPut seen p s) (n + 1) p' s' a m e) : Goes J most seen n p s a m e
theorem Goes.cov {J : Job} {most : Nat} {seen : Nat → List AState} {n p : Nat} {s : AState} {a e : Int} {m : Nat} (h : Goes J most seen n p s a m e) : ∀ t ∈ seen p, NotCov p t s := by
  cases h <;> assumption

def WaysAt (w : World) (v : Value) (n : Nat) (l : List Value) : Prop := Row 76 274 w v n l
structure RunInv (J : Job) (w0 w : World) (f : Nat → Option Value) (seen : Nat → List AState) (left : Value) : Prop where
  kept : Kept none' w0 w
  chk : ChkAt w J.cb J.l J.specs J.frozen J.priv left J.mb J.ids
  map : MapN w J.mb f
  seen : ∀ p, StatesAt w ((f p).getD (.slice none 0 0)) (seen p)
  own : ∀ p v b, f p = some v → v.ownBlock = some b → w0.heap.size ≤ b
  apart : ∀ p q v v' b, p ≠ q → f p = some v → f q = some v' → v.ownBlock = some b → v'.ownBlock ≠ some b
  lown : ∀ b, left.ownBlock = some b → w0.heap.size ≤ b
  cb : w0.heap.size ≤ J.cb
  mb : w0.heap.size ≤ J.mb
theorem RunInv.calm {J : Job} {w0 w w' : World} {f : Nat → Option Value} {seen : Nat → List AState} {left : Value} (h : RunInv J w0 w f seen left) (hk : Kept none' w w') : RunInv J w0 w' f seen left :=
  ⟨h.kept.trans hk, h.chk.calm hk, h.map.calm hk, fun p => rowCalm (h.seen p) hk, h.own, h.apart, h.lown, h.cb, h.mb⟩
theorem row_block {T : TypeId} {k n : Nat} {w : World} {v : Value} {xs : List Value} (h : Row T k w v n xs) {b : Nat} (hb : v.ownBlock = some b) : ∃ c, w.heap[b]? = some (.cells c T (0, 0)) := by
  rcases h.2 with ⟨rfl, _⟩ | ⟨g, cap, cur, rfl, _, h2, _⟩
  · simp [Value.ownBlock] at hb
  · simp [Value.ownBlock] at hb; subst hb; exact ⟨_, h2⟩
/-- The checker's field of ways is written. -/
theorem RunInv.setleft {J : Job} {w0 w : World} {f : Nat → Option Value} {seen : Nat → List AState} {left : Value} (h : RunInv J w0 w f seen left) {v : Value} (hv : v.cells = #[v]) (h1 : v.oneCell' = true) (ho : ∀ b, v.ownBlock = some b → w0.heap.size ≤ b) :
    ∃ w', stv w 1 (.pointer (some ⟨J.cb, 4, none⟩)) v = some w' ∧ RunInv J w0 w' f seen v ∧ Kept (fun j => j = J.cb) w w' := by
  have hb := blk_lt h.chk.box
  have hk := (Kept.refl (fun j => j = J.cb) w).put (b := J.cb) (fun _ => rfl) (.cells #[J.l, J.specs, J.frozen, .bool J.priv, v, .map (some J.mb), .int .i64 J.ids] 62 (0, 0))
  refine ⟨_, ?_, ⟨h.kept.then hk fun j hj e => by have := h.cb; omega, ⟨put_same hb⟩, h.map.keep hk ?_, fun p => rowKeep (h.seen p) hk ?_, h.own, h.apart, ho, h.cb, h.mb⟩, hk⟩
  · rw [stv_of (n := 1) (v := v) h.chk.box (by rw [hv]; rfl) (by simp) (.inl (by simp)) (by rw [hv]; simpa using h1), hv]
    rfl
  · intro e
    obtain ⟨en, cl, h2, _⟩ := h.map
    rw [e, h.chk.box] at h2
    cases h2
  · intro i hi e
    obtain ⟨c, h2⟩ := row_block (h.seen p) hi
    rw [e, h.chk.box] at h2
    injection h2 with h2
    injection h2 with _ h2
    exact absurd h2 (by decide)
theorem map_ne {w : World} {b : Nat} {f : Nat → Option Value} (h : MapN w b f) {c : Array Value} {T : TypeId} {fz : Nat × Nat} {j : Nat} (hj : w.heap[j]? = some (.cells c T fz)) : j ≠ b := by
  intro e
  obtain ⟨en, cl, h2, _⟩ := h
  rw [← e, hj] at h2
  cases h2
theorem states_push {ss : List AState} {s : AState} : (stCells (ss ++ [s])).flatten = (stCells ss).flatten ++ s.arr.toList := by simp [stCells]
/-- A state is noted with its place. -/
theorem RunInv.note {J : Job} {w0 w : World} {f : Nat → Option Value} {seen : Nat → List AState} {left : Value} (h : RunInv J w0 w f seen left) (p : Nat) (s : AState) (hn : (seen p).length + 1 ≤ 1000000) :
    ∃ v' w2 w3, (builtin .append #[94, 94] 94 #[] #[(f p).getD (.slice none 0 0), .slice (some ⟨w.heap.size, 0, none⟩) 1 1]).run Tryz.prog (w.alloc (.cells s.arr 73)) = .ok (.value v') w2 ∧
      ((Tag.upd 59).sem [.map (some J.mb), .int .i64 p, v']).run Tryz.prog w2 = .ok undef w3 ∧ RunInv J w0 w3 (fput f p v') (seenPut seen p s) left ∧ varV v' = some v' ∧ Kept (fun j => j = J.mb ∨ ∃ v, f p = some v ∧ v.ownBlock = some j) w w3 ∧ Kept (fun j => ∃ v, f p = some v ∧ v.ownBlock = some j) (w.alloc (.cells s.arr 73)) w2 := by
  have hk1 := (Kept.refl none' w).alloc (.cells s.arr 73)
  have hnew := hp_new w (.cells s.arr 73)
  have h1 := h.calm hk1
  have hsz : (w.alloc (.cells s.arr 73)).heap.size = w.heap.size + 1 := by simp
  have hw0 := h.kept.size
  generalize (w.alloc (.cells s.arr 73)) = w1 at *
  obtain ⟨v', w2, hrun, hrow, hk2, hat⟩ := row_append (P := Tryz.prog) (t := 94) (k := 273) Tryz.underlying94 (by kernel_rfl) (by omega) (sb := w.heap.size) (so := 0) (c := 1) (m := 1) (ys := s.arr.toList) (h1.seen p) (by omega) (by simp)
    (fun j y hj => by rw [Nat.zero_add, wcell_of hnew]; simpa using hj) (fun y hy => by
      have := astate_one s
      rw [← Array.all_toList] at this
      exact List.all_eq_true.1 this y hy)
  have hown9 : ∀ j, ((f p).getD (.slice none 0 0)).ownBlock = some j → ∃ v, f p = some v ∧ v.ownBlock = some j := by
    intro j hj
    cases hf : f p with
    | none => rw [hf] at hj; simp [Value.ownBlock] at hj
    | some v => rw [hf] at hj; exact ⟨v, rfl, hj⟩
  have hS : ∀ j, ((f p).getD (.slice none 0 0)).ownBlock = some j → j ≠ J.mb ∧ j ≠ J.cb ∧ w0.heap.size ≤ j := by
    intro j hj
    obtain ⟨c, hc⟩ := row_block (h1.seen p) hj
    obtain ⟨v, hf, hv⟩ := hown9 j hj
    refine ⟨map_ne h1.map hc, ?_, h.own p v j hf hv⟩
    intro e
    rw [e, h1.chk.box] at hc
    injection hc with hc
    injection hc with _ hc
    exact absurd hc (by decide)
  have hm2 : MapN w2 J.mb f := h1.map.keep hk2 fun e => (hS _ e).1 rfl
  obtain ⟨w3, hupd, hm3, hk3⟩ := run_mapupd (v := v') (n := p) Tryz.underlying59 Tryz.underlying3 hm2
  have hk13 : Kept (fun j => j = J.mb ∨ ∃ v, f p = some v ∧ v.ownBlock = some j) w1 w3 := (hk2.mono fun j _ e => .inr (hown9 j e)).trans (hk3.mono fun j _ e => .inl e)
  have hrow' : StatesAt w2 v' (seen p ++ [s]) := by
    unfold StatesAt
    rw [states_push, List.length_append]
    exact hrow
  have hlt : ∀ j, v'.ownBlock = some j → (∃ v, f p = some v ∧ v.ownBlock = some j) ∨ j = w1.heap.size := by
    intro j hj
    rcases hat with e | e
    · rw [e] at hj; exact .inl (hown9 j hj)
    · rw [e] at hj; injection hj with hj; exact .inr hj.symm
  have hchk3 : ChkAt w3 J.cb J.l J.specs J.frozen J.priv left J.mb J.ids := by
    refine (h1.chk.keep hk2 fun e => (hS _ e).2.1 rfl).keep hk3 ?_
    exact map_ne h1.map h1.chk.box
  refine ⟨v', w2, w3, hrun, hupd, ⟨?_, hchk3, hm3, ?_, ?_, ?_, h.lown, h.cb, h.mb⟩, rowVar hrow, ?_, hk2.mono fun j _ e => hown9 j e⟩
  · exact h1.kept.then hk13 fun j hj e => by
      rcases e with e | ⟨v, hf, hv⟩
      · have := h.mb; omega
      · have := h.own p v j hf hv; omega
  · intro q
    unfold fput seenPut
    by_cases hq : q = p
    · subst hq
      simp only [if_true]
      refine rowKeep hrow' hk3 fun i hi => ?_
      obtain ⟨c, hc⟩ := row_block hrow' hi
      exact map_ne hm2 hc
    · rw [if_neg hq, if_neg hq]
      refine rowKeep (rowKeep (h1.seen q) hk2 fun i hi e => ?_) hk3 fun i hi => ?_
      · cases hf : f q with
        | none => rw [hf] at hi; simp [Value.ownBlock] at hi
        | some v =>
          rw [hf] at hi
          obtain ⟨v2, hf2, hv2⟩ := hown9 i e
          exact h.apart q p v v2 i hq hf hf2 hi hv2
      · obtain ⟨c, hc⟩ := row_block (h1.seen q) hi
        exact map_ne h1.map hc
  · intro q v b hf hb
    unfold fput at hf
    by_cases hq : q = p
    · rw [if_pos hq] at hf
      injection hf with hf
      subst hf
      rcases hlt b hb with ⟨v2, h3, h4⟩ | h3
      · exact h.own p v2 b h3 h4
      · omega
    · rw [if_neg hq] at hf
      exact h.own q v b hf hb
  · have key : ∀ q v2 b, q ≠ p → f q = some v2 → v2.ownBlock = some b → v'.ownBlock ≠ some b := by
      intro q v2 b hq hf hb hb'
      rcases hlt b hb' with ⟨v3, h3, h4⟩ | h3
      · exact h.apart q p v2 v3 b hq hf h3 hb h4
      · have hr := h1.seen q
        rw [hf] at hr
        have := rowLt hr hb
        omega
    intro q r v v2 b hqr hf hf2 hb
    unfold fput at hf hf2
    by_cases hq : q = p
    · rw [if_pos hq] at hf
      injection hf with hf
      subst hf
      have hr : r ≠ p := fun e => hqr (by rw [hq, e])
      rw [if_neg hr] at hf2
      exact fun e => key r v2 b hr hf2 e hb
    · rw [if_neg hq] at hf
      by_cases hr : r = p
      · rw [if_pos hr] at hf2
        injection hf2 with hf2
        subst hf2
        exact key q v b hq hf hb
      · rw [if_neg hr] at hf2
        exact h.apart q r v v2 b hqr hf hf2 hb
  · exact hk1.any.trans hk13
end Go.Proofs.YtkgpmjjleemdlaaGreat

set_option linter.unusedSimpArgs false
set_option linter.unusedVariables false
set_option maxRecDepth 8000
namespace Go.Proofs.YtkgpmjjleemdlaaGreat
open Go.Eng
attribute [local irreducible] Go.Eng.W

def RepBox (w : World) (b : Nat) : Prop := w.heap[b]? = some (.cells #[.int .i64 0, .int .i64 0] 32 (0, 0))
def Reps (w : World) (b b' : Nat) : Prop := RepBox w b ∧ RepBox w b'
theorem Reps.keep {S : Nat → Prop} {w w' : World} {b b' : Nat} (h : Reps w b b') (hk : Kept S w w') (hS : ∀ j, RepBox w j → ¬ S j) : Reps w' b b' := ⟨hk.has h.1 (hS _ h.1), hk.has h.2 (hS _ h.2)⟩
def Live (J : Job) (most : Nat) (a : Int) (m : Nat) (e : Int) (w : World) (left : Value) (seen : Nat → List AState) (n : Nat) : Prop :=
  (∃ p s, WaysAt w left 1 (wayArr (p : Nat) s).toList ∧ Goes J most seen n p s a m e) ∨ (WaysAt w left 0 [] ∧ a = 0 ∧ m = n ∧ e = 0)
theorem blk_ne {w : World} {b b' : Nat} {c c' : Array Value} {T T' : TypeId} {fz fz' : Nat × Nat} (h : w.heap[b]? = some (.cells c T fz)) (h' : w.heap[b']? = some (.cells c' T' fz')) (hT : T ≠ T') : b ≠ b' := by
  intro e
  subst e
  rw [h] at h'
  injection h' with h'
  injection h' with _ h'
  exact hT h'
end Go.Proofs.YtkgpmjjleemdlaaGreat

set_option linter.unusedSimpArgs false
set_option linter.unusedVariables false
set_option maxRecDepth 8000
namespace Go.Proofs.YtkgpmjjleemdlaaGreat
open Go.Eng
attribute [local irreducible] Go.Eng.W

def mostOf (priv : Bool) : Nat := if priv = true then 2048 else 512
end Go.Proofs.YtkgpmjjleemdlaaGreat

set_option linter.unusedSimpArgs false
set_option linter.unusedVariables false
set_option maxRecDepth 8000
namespace Go.Proofs.YtkgpmjjleemdlaaGreat
open Go.Eng

structure IsLine (xs : List Ins) : Prop where
  pos : 0 < xs.length
  le : xs.length ≤ 256
  wf : ∀ (i : Nat) (x : Ins), xs[i]? = some x → x.wf
  one : ∀ (i : Nat) (x : Ins), xs[i]? = some x → oneOk xs i x = true
  mid : ∀ (i : Nat) (x : Ins), xs[i]? = some x → i + 1 < xs.length → kindOf x = 1 ∨ kindOf x = 6 ∨ kindOf x = 7
  last : ∀ (i : Nat) (x : Ins), xs[i]? = some x → i + 1 = xs.length → kindOf x = 5
theorem IsLine.kinds {xs : List Ins} (h : IsLine xs) {i : Nat} {x : Ins} (hx : xs[i]? = some x) : kindOf x = 1 ∨ kindOf x = 6 ∨ kindOf x = 7 ∨ kindOf x = 5 := by
  have hi := (List.getElem?_eq_some_iff.1 hx).1
  by_cases h1 : i + 1 = xs.length
  · have := h.last i x hx h1; omega
  · have := h.mid i x hx (by omega); omega
theorem IsLine.behind {xs : List Ins} (h : IsLine xs) {i : Nat} {x : Ins} (hx : xs[i]? = some x) : behindOf i x = if i + 1 = xs.length then [] else [(i : Int) + 1] := by
  have hi := (List.getElem?_eq_some_iff.1 hx).1
  unfold behindOf
  by_cases h1 : i + 1 = xs.length
  · have := h.last i x hx h1
    rw [if_pos (by omega), if_pos h1]
  · have := h.mid i x hx (by omega)
    rw [if_neg (by omega), if_neg (by omega), if_neg (by omega), if_neg (by omega), if_neg h1]
theorem IsLine.tame {xs : List Ins} (h : IsLine xs) : Tame xs := by
  intro i x hx
  refine ⟨?_, h.wf i x hx⟩
  intro n hn
  have hi := (List.getElem?_eq_some_iff.1 hx).1
  rw [h.behind hx] at hn
  split at hn
  · cases hn
  · simp at hn; omega
theorem firstBad_none {f : Nat → Ins → Bool} : ∀ (l : List Ins) (i : Nat), (∀ j x, l[j]? = some x → f (i + j) x = true) → firstBad f i l = none
  | [], _, _ => rfl
  | x :: l, i, h => by
    show (if f i x then firstBad f (i + 1) l else some i) = none
    have h0 := h 0 x rfl
    rw [Nat.add_zero] at h0
    rw [if_pos h0]
    exact firstBad_none l (i + 1) fun j y hy => by
      have := h (j + 1) y (by simpa using hy)
      rwa [show i + (j + 1) = i + 1 + j by omega] at this
theorem IsLine.check {xs : List Ins} (h : IsLine xs) : checkOf xs = (0, 0) := by
  have h0 := h.pos
  have h1 := h.le
  unfold checkOf
  rw [if_neg (by omega), if_neg (by omega), firstBad_none xs 0 fun j x hx => by rw [Nat.zero_add]; exact h.one j x hx]
  simp only
  rw [firstBad_none xs 0 fun j x hx => by
    have := h.kinds hx
    unfold landsOk
    rw [if_neg (by omega)]]
  simp only
  have hl : xs[xs.length - 1]? = some xs[xs.length - 1] := List.getElem?_eq_getElem (by omega)
  have hk := h.last _ _ hl (by omega)
  have : lastOk xs = true := by
    unfold lastOk
    rw [hl]
    simp [hk]
  rw [if_pos this]

def colr (n i : Nat) (z : Int) : Array Int := Array.ofFn (n := n) fun j => if j.val ≤ i then 1 else z
@[simp] theorem colr_size (n i : Nat) (z : Int) : (colr n i z).size = n := by simp [colr]
theorem colr_get (n i : Nat) (z : Int) (j : Nat) (h : j < n) : (colr n i z)[j]! = if j ≤ i then 1 else z := by simp [colr, h]
theorem colr_ext {n i : Nat} {z : Int} {c : Array Int} (hs : c.size = n) (h : ∀ j, j < n → c[j]! = if j ≤ i then 1 else z) : c = colr n i z := by
  apply Array.ext (by simp [hs])
  intro j h1 h2
  have e1 := h j (by omega)
  have e2 := colr_get n i z j (by omega)
  rw [← e1] at e2
  rw [getElem!_pos c j h1, getElem!_pos (colr n i z) j h2] at e2
  exact e2.symm
theorem set_get (c : Array Int) (i : Nat) (x : Int) (j : Nat) (hj : j < c.size) : (c.setIfInBounds i x)[j]! = if i = j then x else c[j]! := by
  by_cases h : i = j
  · subst h; simp [hj]
  · have : (c.setIfInBounds i x)[j]? = c[j]? := Array.getElem?_setIfInBounds_ne h
    simp [getElem!_def, this, h]
theorem line_visit {xs : List Ins} (h : IsLine xs) : ∀ (r i : Nat) (x : Ins), r + i + 1 = xs.length → xs[i]? = some x → VisitL xs r (colr xs.length i 0) false (behindOf i x) (colr xs.length i 2) false := by
  intro r
  induction r with
  | zero =>
    intro i x hr hx
    rw [h.behind hx, if_pos (by omega)]
    have : colr xs.length i 2 = colr xs.length i 0 := by
      refine colr_ext (by simp) fun j hj => ?_
      rw [colr_get _ _ _ _ hj, if_pos (by omega), if_pos (by omega)]
    rw [this]
    exact .nil _ _ _
  | succ r ih =>
    intro i x hr hx
    rw [h.behind hx, if_neg (by omega)]
    have hy : xs[i + 1]? = some xs[i + 1] := List.getElem?_eq_getElem (by omega)
    have e : ((i : Int) + 1).toNat = i + 1 := by omega
    have hi := ih (i + 1) _ (by omega) hy
    have s1 : (colr xs.length i 0).setIfInBounds (i + 1) 1 = colr xs.length (i + 1) 0 := by
      refine colr_ext (by simp) fun j hj => ?_
      rw [set_get _ _ _ _ (by simpa using hj), colr_get _ _ _ _ hj]
      split <;> split <;> (try split) <;> omega
    have s2 : (colr xs.length (i + 1) 2).setIfInBounds (i + 1) 2 = colr xs.length i 2 := by
      refine colr_ext (by simp) fun j hj => ?_
      rw [set_get _ _ _ _ (by simpa using hj), colr_get _ _ _ _ hj]
      split <;> split <;> (try split) <;> omega
    refine .fresh (x := xs[i + 1]) (d1 := colr xs.length (i + 1) 2) (lo1 := false) ?_ (by rw [e]; exact hy) ?_ ?_
    · rw [e, colr_get _ _ _ _ (by omega), if_neg (by omega)]
    · rw [e, s1]; exact hi
    · rw [e, s2]; exact .nil _ _ _
theorem IsLine.walks {xs : List Ins} (h : IsLine xs) : ∃ d, Walks xs d false ∧ AllSeen xs d := by
  have h0 := h.pos
  have hx : xs[0]? = some xs[0] := List.getElem?_eq_getElem h0
  have s0 : (Array.replicate xs.length (0 : Int)).setIfInBounds 0 1 = colr xs.length 0 0 := by
    refine colr_ext (by simp) fun j hj => ?_
    rw [set_get _ _ _ _ (by simpa using hj)]
    by_cases h : 0 = j
    · rw [if_pos h, if_pos (by omega)]
    · rw [if_neg h, if_neg (by omega)]; simp [hj]
  refine ⟨(colr xs.length 0 2).setIfInBounds 0 2, ⟨xs.length - 1, xs[0], colr xs.length 0 2, hx, ?_, rfl⟩, ?_⟩
  · rw [s0]
    exact line_visit h (xs.length - 1) 0 _ (by omega) hx
  · intro i x hi
    have hlt := (List.getElem?_eq_some_iff.1 hi).1
    left
    rw [set_get _ _ _ _ (by simpa using hlt), colr_get _ _ _ _ hlt]
    split
    · rfl
    · rw [if_neg (by omega)]
end Go.Proofs.YtkgpmjjleemdlaaGreat

set_option linter.unusedSimpArgs false
set_option linter.unusedVariables false
set_option maxRecDepth 8000
namespace Go.Proofs.YtkgpmjjleemdlaaGreat
open Go.Eng

def movI (d : Nat) (n : Int) : Ins := ⟨183, d, 0, 0, n⟩
theorem parts_mov : partsOf 183 = ⟨1, 11, 0, true, false⟩ := by rfl
theorem parts_exit : partsOf 149 = ⟨5, 0, 0, false, false⟩ := by rfl
def u64 (n : Int) : Int := IntKind.u64.wrap n
theorem exit_kind : kindOf exitI = 5 := by simp [kindOf, exitI, parts_exit]
theorem end_ret (w : World) (n : Int) : Ret Tryz.prog 7 [.int .i32 n] w fun r w' => Kept none' w w' ∧ ∃ b, r = .slice (some ⟨b, 0, none⟩) 2 2 ∧ CodeAt w' b 0 [movI 0 n, exitI] ∧ w.heap.size ≤ b := by
  refine ret_of_W Tryz.func7 rfl ok_tipstaffref18_End ?_
  simp only [c_tipstaffref18_End, W_seq, W_set]
  refine ok_intro (.slice none 0 0) (by simp) ?_
  try simp only [W_seq]
  refine W_chkIn [exitI.val, (movI 0 n).val] (by simp; exact ⟨rfl, rfl⟩) ?_
  try simp only [W_seq]
  refine W_row' (v := .agg (insCells [movI 0 n, exitI]).toArray) (cs := (insCells [movI 0 n, exitI]).toArray) (by simp [insCells]; exact ⟨by rw [Go.Eng.setRow_size]; simp, rfl⟩) rfl ?_
  simp
  refine ⟨(Kept.refl none' w).alloc _, ?_⟩
  refine code_of_cells fun j y hy => ?_
  rw [Nat.zero_add, wcell_of (hp_new w _)]
  simpa using hy
end Go.Proofs.YtkgpmjjleemdlaaGreat

set_option linter.unusedSimpArgs false
set_option linter.unusedVariables false
set_option maxRecDepth 8000
namespace Go.Proofs.YtkgpmjjleemdlaaGreat
open Go.Eng
attribute [local irreducible] Go.Eng.W

theorem mod_k (x d : Int) (hd : 0 < d) : ∃ k : Nat, (k : Int) < d ∧ (IntKind.u64.wrap x).tmod d = k := by
  have h0 : 0 ≤ IntKind.u64.wrap x := by rw [IntKind.wrap_u64]; omega
  have h1 := Int.tmod_nonneg d h0
  have h2 := Int.tmod_lt_of_pos (IntKind.u64.wrap x) hd
  exact ⟨((IntKind.u64.wrap x).tmod d).toNat, by omega, by omega⟩
theorem mov_wf {d : Nat} {n : Int} (hd : d < 256) (h1 : -2147483648 ≤ n) (h2 : n ≤ 2147483647) : (movI d n).wf := ⟨by simp [movI], by simpa [movI] using hd, by simp [movI], by simp [movI], by simp [movI]; omega⟩
theorem exit_wf : exitI.wf := ⟨by simp [exitI], by simp [exitI], by simp [exitI], by simp [exitI], by simp [exitI]⟩
theorem mov_kind (d : Nat) (n : Int) : kindOf (movI d n) = 1 := by simp [kindOf, movI, parts_mov]
theorem mov_ok (xs : List Ins) (i d : Nat) (n : Int) (hd : d < 10) : oneOk xs i (movI d n) = true := by
  have h1 : d < 11 := by omega
  have h2 : ¬ d = 10 := by omega
  simp [oneOk, movI, parts_mov, plainOk, namedOf, constOk, h1, h2]
theorem exit_ok (xs : List Ins) (i : Nat) : oneOk xs i exitI = true := by
  simp [oneOk, exitI, parts_exit, plainOk, namedOf]
end Go.Proofs.YtkgpmjjleemdlaaGreat

