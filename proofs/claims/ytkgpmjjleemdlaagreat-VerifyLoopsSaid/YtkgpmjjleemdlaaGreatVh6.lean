/- Layer 18: a loop that counts: all its ways. -/
import Derived.Test.YtkgpmjjleemdlaaGreatVh5
import Derived.Test.YtkgpmjjleemdlaaGreatVf2
import Derived.Test.YtkgpmjjleemdlaaGreatCmdsVk
set_option linter.unusedSimpArgs false
set_option linter.unusedVariables false
set_option maxRecDepth 8000
namespace Go.Proofs.YtkgpmjjleemdlaaGreat
open Go.Eng Go.Sort
attribute [local irreducible] Go.Eng.W

def addI : Ins := ⟨7, 0, 0, 0, 1⟩
def jneI (k : Nat) : Ins := ⟨85, 0, 0, -2, k⟩
def loopL (k : Nat) : List Ins := [movI 0 0, addI, jneI k, exitI]
theorem parts_add : partsOf 7 = ⟨1, 0, 0, true, false⟩ := by rfl
theorem parts_jne : partsOf 85 = ⟨2, 5, 0, true, false⟩ := by rfl
theorem add_kind : kindOf addI = 1 := by simp [kindOf, addI, parts_add]
theorem jne_kind (k : Nat) : kindOf (jneI k) = 2 := by simp [kindOf, jneI, parts_jne]
/-- Numbers that are small: their ranges are settled, and alone. -/
theorem small_all : (List.range 1504).all (fun x => eqR (settleOf (constR x)).1 (constR x) && (settleOf (constR x)).2 && aloneR (constR x) && decide (evalOf 0 true x 1 = x + 1) && decide (w64 x = x) && decide (low32 true x = x)) = true := by decide +kernel
theorem small {x : Nat} (h : x < 1504) : settleOf (constR x) = (constR x, true) ∧ aloneR (constR x) = true ∧ evalOf 0 true x 1 = x + 1 ∧ w64 x = x ∧ low32 true x = x := by
  have := List.all_eq_true.1 small_all x (List.mem_range.2 h)
  simp only [Bool.and_eq_true, decide_eq_true_eq] at this
  obtain ⟨⟨⟨⟨⟨h1, h2⟩, h3⟩, h4⟩, h5⟩, h6⟩ := this
  exact ⟨Prod.ext ((eqR_iff _ _).1 h1) h2, h3, h4, h5, h6⟩
theorem settle_two {x y : Nat} (hx : x < 1504) (hy : y < 1504) : psettle ⟨constR x, constR y⟩ = (⟨constR x, constR y⟩, true) := by
  unfold psettle
  simp only [(small hx).1, (small hy).1]
  rfl
theorem eqR_self (a : Rng) : eqR a a = true := (eqR_iff a a).2 rfl
theorem holds_ne {x y : Nat} (hx : x < 1504) (hy : y < 1504) : holdsOf 5 true x y = decide (x ≠ y) := by
  have h1 := (small hx).2.2.2.2
  have h2 := (small hy).2.2.2.2
  simp [holdsOf, unsignedOf, h1, h2]
  omega
theorem refine_ne {x y : Nat} (hx : x < 1504) (hy : y < 1504) (holds : Bool) : refineR 5 true (constR x) (constR y) holds = if (decide (x ≠ y)) = holds then (constR x, constR y, true) else (Rng.zero, Rng.zero, false) := by
  have hp : refineP 5 true ⟨constR x, constR y⟩ holds = (⟨constR x, constR y⟩, decide (x ≠ y) == holds) := by
    unfold refineP
    rw [settle_two hx hy, if_neg (by simp), if_pos (by unfold aloneP; rw [show (constR (x : Int)).lo = (x : Int) from rfl, show (constR (y : Int)).lo = (y : Int) from rfl]; simp [eqR_self])]
    show ((⟨constR x, constR y⟩ : Pr), holdsOf 5 true (x : Int) (y : Int) == holds) = _
    rw [holds_ne hx hy]
  unfold refineR
  rw [hp]
  simp
theorem fsetR_two (f : Nat → AReg) (i : Nat) (a b : AReg) : fsetR (fsetR f i a) i b = fsetR f i b := by
  funext j
  unfold fsetR
  split <;> rfl
theorem setR_two (s : AState) (i : Nat) (a b : AReg) : (s.setR i a).setR i b = s.setR i b := by
  unfold AState.setR
  simp only [fsetR_two]
theorem setR_at (s : AState) (i : Nat) (a : AReg) : (s.setR i a).r i = a := by simp [AState.setR, fsetR]
def stC (j : Nat) : AState := AState.start.setR 0 (knownR j)
theorem stC_r (j : Nat) : (stC j).r 0 = knownR j := setR_at _ _ _
theorem stC_wf {j : Nat} (h : j < 1504) : (stC j).wf := setR_wf start_wf 0 (by rw [known_num]; exact numR_wf (constR_wf (by have := (small h).2.2.2.1; rw [← this]; exact w64_in _)))
theorem covers_no {i j : Nat} (h : i ≠ j) : coversS (stC i) (stC j) = false := by
  have h0 : coverN (stC i).r (stC j).r (fun _ => none) 1 = none := by
    show (match coverN (stC i).r (stC j).r (fun _ => none) 0 with | none => none | some g => if (coverF g ((stC i).r 0) ((stC j).r 0)).1 = true then some (coverF g ((stC i).r 0) ((stC j).r 0)).2 else none) = none
    rw [stC_r, stC_r]
    show (if (coverF _ _ _).1 = true then _ else _) = none
    rw [if_neg]
    unfold coverF
    rw [if_neg (by simp [knownR]), if_neg (by simp [knownR]), if_pos (by simp [knownR])]
    simp [withinR, knownR, AReg.rng]
    intro a b
    omega
  have := coverN_none h0 10
  unfold coversS
  rw [this]
theorem step_mov0 (J : Jb) (ids : Int) : stepV J ids 0 AState.start (movI 0 0) = (some [(1, stC 0)], ids) := by
  have hk : kindOf (movI 0 0) = 1 := mov_kind 0 0
  unfold stepV
  rw [if_pos hk]
  have hq : partsOf (movI 0 0).op = ⟨1, 11, 0, true, false⟩ := parts_mov
  rw [hq]
  have hB : secondA AState.start (movI 0 0) false = knownR 0 := by rfl
  have hA : aluA ⟨1, 11, 0, true, false⟩ (AState.start.r (movI 0 0).dst) (knownR 0) = knownR 0 := by unfold aluA; rw [if_pos ⟨rfl, rfl⟩]
  unfold aluV
  rw [hB, hA, if_pos ⟨rfl, rfl⟩]
  have : numR (doR 11 true (knownR 0).rng (knownR 0).rng) = knownR ((0 : Nat) : Int) := by
    have ha : aloneR (constR 0) = true := (small (x := 0) (by omega)).2.1
    show numR (doR 11 true (constR 0) (constR 0)) = _
    unfold doR
    rw [if_pos ⟨ha, ha⟩]
    rfl
  show (some [(i64 (((0 : Nat) : Int) + 1), AState.start.setR 0 (numR (doR 11 true (knownR 0).rng (knownR 0).rng)))], ids) = _
  rw [this]
  rfl
theorem step_add (J : Jb) (ids : Int) {j : Nat} (hj : j < 1503) : stepV J ids 1 (stC j) addI = (some [(2, stC (j + 1))], ids) := by
  unfold stepV
  rw [if_pos add_kind]
  have hq : partsOf addI.op = ⟨1, 0, 0, true, false⟩ := parts_add
  rw [hq]
  have hB : secondA (stC j) addI false = knownR 1 := by rfl
  have hA : aluA ⟨1, 0, 0, true, false⟩ ((stC j).r addI.dst) (knownR 1) = knownR j := by
    unfold aluA
    rw [if_neg (by simp)]
    exact stC_r j
  unfold aluV
  rw [hB, hA, if_pos ⟨rfl, rfl⟩]
  have hd : numR (doR 0 true (knownR (j : Int)).rng (knownR 1).rng) = knownR ((j + 1 : Nat) : Int) := by
    have ha := (small (x := j) (by omega)).2.1
    have hb := (small (x := 1) (by omega)).2.1
    show numR (doR 0 true (constR j) (constR 1)) = _
    unfold doR
    rw [if_pos ⟨ha, hb⟩]
    have he := (small (x := j) (by omega)).2.2.1
    show numR (constR (evalOf 0 true j 1)) = _
    rw [he]
    rfl
  show (some [(i64 (((1 : Nat) : Int) + 1), (stC j).setR 0 (numR (doR 0 true (knownR (j : Int)).rng (knownR 1).rng)))], ids) = _
  rw [hd]
  unfold stC
  rw [setR_two]
  rfl
theorem step_jne (J : Jb) (ids : Int) {j k : Nat} (hj : j < 1504) (hk : k < 1504) : stepV J ids 2 (stC j) (jneI k) = (some (if j ≠ k then [(1, stC j)] else [(3, stC j)]), ids) := by
  unfold stepV
  rw [if_neg (by rw [jne_kind]; omega), if_pos (jne_kind k)]
  have hq : partsOf (jneI k).op = ⟨2, 5, 0, true, false⟩ := parts_jne
  rw [hq]
  have hw : IntKind.u64.wrap (k : Int) = k := (small hk).2.2.2.1
  have hB : secondA (stC j) (jneI k) false = knownR k := by
    show knownR (IntKind.u64.wrap (k : Int)) = _
    rw [hw]
  have hr : (stC j).r (jneI k).dst = knownR j := stC_r j
  have hT : jumpTo 2 (jneI k) = 1 := rfl
  have hO : i64 (((2 : Nat) : Int) + 1) = 3 := rfl
  unfold jumpV
  rw [hr, hB, if_pos ⟨rfl, rfl⟩, hT, hO]
  unfold onNumV
  rw [hr, hB]
  have h1 := refine_ne hj hk true
  have h2 := refine_ne hj hk false
  simp only [show (knownR (j : Int)).rng = constR j from rfl, show (knownR (k : Int)).rng = constR k from rfl]
  rw [h1, h2]
  have hs : refinedS (stC j) (jneI k) false (constR j) (constR k) = stC j := by
    unfold refinedS
    rw [if_neg (by simp), hr]
    show (stC j).setR 0 ((knownR (j : Int)).setRng (constR j)) = _
    unfold stC
    rw [setR_two]
    rfl
  by_cases h : j = k
  · subst h
    simp [hs]
  · simp [h, hs]
theorem step_exitC (J : Jb) (ids : Int) (j p : Nat) : stepV J ids p (stC j) exitI = (some [], ids) := by
  have hk := exit_kind
  unfold stepV
  rw [if_neg (by omega), if_neg (by omega), if_neg (by omega), if_neg (by omega), if_pos hk, if_pos (by rw [stC_r]; rfl)]
structure Was (seen : Nat → List AState) (a b : Nat) : Prop where
  one : ∀ t ∈ seen 1, ∃ i, i < a ∧ t = stC i
  two : ∀ t ∈ seen 2, ∃ i, i < b ∧ t = stC i
  three : seen 3 = []
theorem was_one {seen : Nat → List AState} {a b : Nat} (h : Was seen a b) : ((seen 1).any fun t => coversS t (stC a)) = false := by
  rw [List.any_eq_false]
  intro t ht
  obtain ⟨i, hi, rfl⟩ := h.one t ht
  rw [covers_no (by omega)]
  simp
theorem was_two {seen : Nat → List AState} {a b : Nat} (h : Was seen a b) : ((seen 2).any fun t => coversS t (stC b)) = false := by
  rw [List.any_eq_false]
  intro t ht
  obtain ⟨i, hi, rfl⟩ := h.two t ht
  rw [covers_no (by omega)]
  simp
theorem Was.put1 {seen : Nat → List AState} {a b : Nat} (h : Was seen a b) : Was (seenPut seen 1 (stC a)) (a + 1) b where
  one := fun t ht => by
    unfold seenPut at ht
    rw [if_pos rfl, List.mem_append, List.mem_singleton] at ht
    rcases ht with ht | rfl
    · obtain ⟨i, hi, e⟩ := h.one t ht; exact ⟨i, by omega, e⟩
    · exact ⟨a, by omega, rfl⟩
  two := fun t ht => h.two t ht
  three := h.three
theorem Was.put2 {seen : Nat → List AState} {a b : Nat} (h : Was seen a b) : Was (seenPut seen 2 (stC b)) a (b + 1) where
  one := fun t ht => h.one t ht
  two := fun t ht => by
    unfold seenPut at ht
    rw [if_pos rfl, List.mem_append, List.mem_singleton] at ht
    rcases ht with ht | rfl
    · obtain ⟨i, hi, e⟩ := h.two t ht; exact ⟨i, by omega, e⟩
    · exact ⟨b, by omega, rfl⟩
  three := h.three
theorem loop_ends {J : Jb} {k : Nat} (hk : k < 1503) (hJ : J.xs = loopL k) {most : Nat} (hm : 2 * k + 2 ≤ most) : ∀ (r j : Nat) (seen : Nat → List AState), j + r + 1 = k → Was seen j (j + 1) → Runs J most seen 0 (1 + 2 * j) [(1, stC j)] 0 (2 * k + 2) 0 := by
  intro r
  induction r with
  | zero =>
    intro j seen hr hw
    have e : k = j + 1 := by omega
    refine .on (p := 1) (x := addI) (by omega) (was_one hw) (stC_wf (by omega)) (by rw [hJ]; rfl) (by rw [step_add J 0 (by omega)]) (by simp) ?_
    rw [step_add J 0 (by omega)]
    have hw1 := hw.put1
    refine .on (p := 2) (x := jneI k) (by omega) (was_two hw1) (stC_wf (by omega)) (by rw [hJ]; rfl) (by rw [step_jne J 0 (by omega) (by omega)]) (by split <;> simp) ?_
    rw [step_jne J 0 (by omega) (by omega), if_neg (by omega)]
    have hw2 := hw1.put2
    refine .on (p := 3) (x := exitI) (by omega) (by rw [hw2.three]; rfl) (stC_wf (by omega)) (by rw [hJ]; rfl) (by rw [step_exitC]) (by simp) ?_
    rw [step_exitC]
    have e2 : 1 + 2 * j + 1 + 1 + 1 = 2 * k + 2 := by omega
    rw [e2]
    exact .fin
  | succ r ih =>
    intro j seen hr hw
    refine .on (p := 1) (x := addI) (by omega) (was_one hw) (stC_wf (by omega)) (by rw [hJ]; rfl) (by rw [step_add J 0 (by omega)]) (by simp) ?_
    rw [step_add J 0 (by omega)]
    have hw1 := hw.put1
    refine .on (p := 2) (x := jneI k) (by omega) (was_two hw1) (stC_wf (by omega)) (by rw [hJ]; rfl) (by rw [step_jne J 0 (by omega) (by omega)]) (by split <;> simp) ?_
    rw [step_jne J 0 (by omega) (by omega), if_pos (by omega)]
    have hw2 := hw1.put2
    have e2 : 1 + 2 * j + 1 + 1 = 1 + 2 * (j + 1) := by omega
    rw [e2]
    exact ih (j + 1) _ (by omega) hw2
theorem loop_big {J : Jb} {k : Nat} (hk : k < 1503) (hJ : J.xs = loopL k) (hm : 2048 < 2 * k + 2) : ∀ (r j : Nat) (seen : Nat → List AState), j + r = 1023 → Was seen j (j + 1) → Runs J 2048 seen 0 (1 + 2 * j) [(1, stC j)] 2 2048 7 := by
  intro r
  induction r with
  | zero =>
    intro j seen hr hw
    have e : j = 1023 := by omega
    subst e
    refine .on (p := 1) (x := addI) (by omega) (was_one hw) (stC_wf (by omega)) (by rw [hJ]; rfl) (by rw [step_add J 0 (by omega)]) (by simp) ?_
    rw [step_add J 0 (by omega)]
    exact .big (p := 2) rfl (was_two hw.put1)
  | succ r ih =>
    intro j seen hr hw
    refine .on (p := 1) (x := addI) (by omega) (was_one hw) (stC_wf (by omega)) (by rw [hJ]; rfl) (by rw [step_add J 0 (by omega)]) (by simp) ?_
    rw [step_add J 0 (by omega)]
    have hw1 := hw.put1
    refine .on (p := 2) (x := jneI k) (by omega) (was_two hw1) (stC_wf (by omega)) (by rw [hJ]; rfl) (by rw [step_jne J 0 (by omega) (by omega)]) (by split <;> simp) ?_
    rw [step_jne J 0 (by omega) (by omega), if_pos (by omega)]
    have hw2 := hw1.put2
    have e2 : 1 + 2 * j + 1 + 1 = 1 + 2 * (j + 1) := by omega
    rw [e2]
    exact ih (j + 1) _ (by omega) hw2
theorem loop_runs {J : Jb} {k : Nat} (hk1 : 1 ≤ k) (hk : k < 1503) (hJ : J.xs = loopL k) : (2 * k + 2 ≤ 2048 → Runs J 2048 (fun _ => []) 0 0 [(0, AState.start)] 0 (2 * k + 2) 0) ∧ (2048 < 2 * k + 2 → Runs J 2048 (fun _ => []) 0 0 [(0, AState.start)] 2 2048 7) := by
  have hw : Was (seenPut (fun _ => []) 0 AState.start) 0 (0 + 1) := ⟨fun t ht => by simp [seenPut] at ht, fun t ht => by simp [seenPut] at ht, rfl⟩
  have first : ∀ {a e : Int} {m : Nat}, Runs J 2048 (seenPut (fun _ => []) 0 AState.start) 0 (1 + 2 * 0) [(1, stC 0)] a m e → Runs J 2048 (fun _ => []) 0 0 [(0, AState.start)] a m e := by
    intro a e m h
    refine .on (p := 0) (x := movI 0 0) (by omega) rfl start_wf (by rw [hJ]; rfl) (by rw [step_mov0]) (by simp) ?_
    rw [step_mov0]
    exact h
  exact ⟨fun h => first (loop_ends hk hJ h (k - 1) 0 _ (by omega) hw), fun h => first (loop_big hk hJ h 1023 0 _ (by omega) hw)⟩
theorem add_wf : addI.wf := ⟨by simp [addI], by simp [addI], by simp [addI], by simp [addI], by simp [addI]⟩
theorem jne_wf {k : Nat} (h : k < 1503) : (jneI k).wf := ⟨by simp [jneI], by simp [jneI], by simp [jneI], by simp [jneI], by simp [jneI]; omega⟩
theorem loop_at {k : Nat} {i : Nat} {x : Ins} (h : (loopL k)[i]? = some x) : (i = 0 ∧ x = movI 0 0) ∨ (i = 1 ∧ x = addI) ∨ (i = 2 ∧ x = jneI k) ∨ (i = 3 ∧ x = exitI) := by
  have hlt := (List.getElem?_eq_some_iff.1 h).1
  simp [loopL] at hlt
  match i, h with
  | 0, h => left; simp [loopL] at h; exact ⟨rfl, h.symm⟩
  | 1, h => right; left; simp [loopL] at h; exact ⟨rfl, h.symm⟩
  | 2, h => right; right; left; simp [loopL] at h; exact ⟨rfl, h.symm⟩
  | 3, h => right; right; right; simp [loopL] at h; exact ⟨rfl, h.symm⟩
theorem beh_mov (i : Nat) : behindOf i (movI 0 0) = [(i : Int) + 1] := by
  have := mov_kind 0 0
  unfold behindOf
  rw [if_neg (by omega), if_neg (by omega), if_neg (by omega), if_neg (by omega)]
theorem beh_add (i : Nat) : behindOf i addI = [(i : Int) + 1] := by
  have := add_kind
  unfold behindOf
  rw [if_neg (by omega), if_neg (by omega), if_neg (by omega), if_neg (by omega)]
theorem beh_exit (i : Nat) : behindOf i exitI = [] := by
  have := exit_kind
  unfold behindOf
  rw [if_pos (by omega)]
theorem beh_jne (k : Nat) : behindOf 2 (jneI k) = [1, 3] := by
  have := jne_kind k
  unfold behindOf
  rw [if_neg (by omega), if_neg (by omega), if_pos (by omega)]
  rfl
theorem loop_tame {k : Nat} (hk : k < 1503) : Tame (loopL k) := by
  intro i x hx
  rcases loop_at hx with ⟨rfl, rfl⟩ | ⟨rfl, rfl⟩ | ⟨rfl, rfl⟩ | ⟨rfl, rfl⟩
  · refine ⟨fun n hn => ?_, mov_wf (by omega) (by omega) (by omega)⟩
    rw [beh_mov] at hn; simp [loopL] at hn ⊢; omega
  · refine ⟨fun n hn => ?_, add_wf⟩
    rw [beh_add] at hn; simp [loopL] at hn ⊢; omega
  · refine ⟨fun n hn => ?_, jne_wf hk⟩
    rw [beh_jne] at hn; simp [loopL] at hn ⊢; omega
  · refine ⟨fun n hn => ?_, exit_wf⟩
    rw [beh_exit] at hn; cases hn
theorem loop_xok {k : Nat} (hk : k < 1503) : ∀ p x, (loopL k)[p]? = some x → XOk x ∧ (kindOf x = 9 → ∃ y, (loopL k)[p + 1]? = some y) := by
  intro i x hx
  have h1 := mov_kind 0 0
  have h2 := add_kind
  have h3 := jne_kind k
  have h4 := exit_kind
  rcases loop_at hx with ⟨rfl, rfl⟩ | ⟨rfl, rfl⟩ | ⟨rfl, rfl⟩ | ⟨rfl, rfl⟩
  · exact ⟨⟨mov_wf (by omega) (by omega) (by omega), by simp [movI], by simp [movI]⟩, fun h => by omega⟩
  · exact ⟨⟨add_wf, by simp [addI], by simp [addI]⟩, fun h => by omega⟩
  · exact ⟨⟨jne_wf hk, by simp [jneI], by simp [jneI]⟩, fun h => by omega⟩
  · exact ⟨⟨exit_wf, by simp [exitI], by simp [exitI]⟩, fun h => by omega⟩
theorem loop_walks (k : Nat) : ∃ d, Walks (loopL k) d true ∧ AllSeen (loopL k) d := by
  refine ⟨#[2, 2, 2, 2], ⟨3, movI 0 0, #[1, 2, 2, 2], rfl, ?_, rfl⟩, ?_⟩
  · rw [beh_mov]
    refine .fresh (k := 2) (x := addI) (d1 := #[1, 1, 2, 2]) rfl rfl ?_ (.nil _ _ _)
    rw [show (((0 : Nat) : Int) + 1).toNat = 1 from rfl, beh_add]
    refine .fresh (k := 1) (x := jneI k) (d1 := #[1, 1, 1, 2]) rfl rfl ?_ (.nil _ _ _)
    rw [show (((1 : Nat) : Int) + 1).toNat = 2 from rfl, beh_jne]
    refine .opened rfl ?_
    refine .fresh (k := 0) (x := exitI) (d1 := #[1, 1, 1, 1]) rfl rfl ?_ (.nil _ _ _)
    rw [beh_exit]
    exact .nil _ _ _
  · intro i x hx
    left
    rcases loop_at hx with ⟨rfl, rfl⟩ | ⟨rfl, rfl⟩ | ⟨rfl, rfl⟩ | ⟨rfl, rfl⟩ <;> rfl
theorem add_ok (xs : List Ins) (i : Nat) : oneOk xs i addI = true := by
  simp [oneOk, addI, parts_add, plainOk, namedOf, constOk]
theorem jne_ok (xs : List Ins) (i k : Nat) : oneOk xs i (jneI k) = true := by
  simp [oneOk, jneI, parts_jne, plainOk, namedOf, constOk]
theorem jne_lands (k : Nat) : landsOk (loopL k) 2 (jneI k) = true := by
  have := jne_kind k
  unfold landsOk
  rw [if_pos (by omega)]
  simp [loopL, jneI, kindOf, addI, parts_add]
theorem loop_shape (k : Nat) : checkOf (loopL k) = (0, 0) := by
  have h1 := mov_kind 0 0
  have h2 := add_kind
  have h4 := exit_kind
  unfold checkOf
  rw [if_neg (by simp [loopL]), if_neg (by simp [loopL]), firstBad_none (loopL k) 0 fun j x hx => by
    rw [Nat.zero_add]
    rcases loop_at hx with ⟨rfl, rfl⟩ | ⟨rfl, rfl⟩ | ⟨rfl, rfl⟩ | ⟨rfl, rfl⟩
    · exact mov_ok _ _ _ _ (by omega)
    · exact add_ok _ _
    · exact jne_ok _ _ _
    · exact exit_ok _ _]
  simp only
  rw [firstBad_none (loopL k) 0 fun j x hx => by
    rw [Nat.zero_add]
    rcases loop_at hx with ⟨rfl, rfl⟩ | ⟨rfl, rfl⟩ | ⟨rfl, rfl⟩ | ⟨rfl, rfl⟩
    · unfold landsOk; rw [if_neg (by omega)]
    · unfold landsOk; rw [if_neg (by omega)]
    · exact jne_lands k
    · unfold landsOk; rw [if_neg (by omega)]]
  simp only
  have : lastOk (loopL k) = true := by
    unfold lastOk
    show (match (loopL k)[3]? with | _ => _) = _
    simp [loopL, h4]
  rw [if_pos this]
theorem loop_priv {k : Nat} (hk1 : 1 ≤ k) (hk : k < 1503) {v : Value} (w : World) (h : SlIs w v (loopL k)) :
    Ret Tryz.prog 8 [v, .agg #[.slice none 0 0, .slice none 0 0, .bool true]] w fun r w' => (r = if 2 * k + 2 ≤ 2048 then .tuple #[.agg #[.int .i64 0, .int .i64 ((2 * k + 2 : Nat) : Int)], .int .i64 0] else .tuple #[.agg #[.int .i64 2, .int .i64 ((2048 : Nat) : Int)], .int .i64 7]) ∧ Kept none' w w' := by
  obtain ⟨d, hd, hs⟩ := loop_walks k
  by_cases hm : 2 * k + 2 ≤ 2048
  · rw [if_pos hm]
    exact vcheckV_ret (loop_tame hk) (by simp [loopL]) (loop_shape k) hd hs w h true (by simp [cfgOf]) (a := 0) (e := 0) (m := 2 * k + 2) (loop_xok hk) fun J hJ _ _ _ => (loop_runs hk1 hk hJ).1 hm
  · rw [if_neg hm]
    exact vcheckV_ret (loop_tame hk) (by simp [loopL]) (loop_shape k) hd hs w h true (by simp [cfgOf]) (a := 2) (e := 7) (m := 2048) (loop_xok hk) fun J hJ _ _ _ => (loop_runs hk1 hk hJ).2 (by omega)
theorem loop_unpriv {k : Nat} (hk : k < 1503) {v : Value} (w : World) (h : SlIs w v (loopL k)) :
    Ret Tryz.prog 8 [v, .agg #[.slice none 0 0, .slice none 0 0, .bool false]] w fun r w' => r = .tuple #[.agg #[.int .i64 0, .int .i64 0], .int .i64 22] ∧ Kept none' w w' := by
  obtain ⟨d, hd, hs⟩ := loop_walks k
  exact vcheck_bad (loop_tame hk) (by simp [loopL]) (loop_shape k) hd hs w h false (by simp [cfgOf])
end Go.Proofs.YtkgpmjjleemdlaaGreat

set_option linter.unusedSimpArgs false
set_option linter.unusedVariables false
set_option maxRecDepth 8000
namespace Go.Proofs.YtkgpmjjleemdlaaGreat
open Go.Eng Go.Sort
attribute [local irreducible] Go.Eng.W

set_option maxHeartbeats 4000000 in
theorem vloops_ret (n : Int) (w : World) (hchk : ∀ w', Kept none' w w' → Ret Tryz.prog 9 [] w' fun r w'' => r = .bool true ∧ Kept none' w' w'') :
    Ret Tryz.prog 4 [.int .i64 n] w fun v w' => v = .bool true ∧ Kept none' w w' := by
  refine ret_of_W Tryz.func4 rfl ok_tipstafflaw18_VerifyLoops ?_
  obtain ⟨k0, hk0, ek⟩ := mod_k n 1500 (by omega)
  have e1 : IntKind.i64.wrap (k0 : Int) = k0 := i64w (by omega) (by omega)
  have e2 : IntKind.i64.wrap (1 + (k0 : Int)) = ((k0 + 1 : Nat) : Int) := by rw [i64w (by omega) (by omega)]; omega
  have e3 : IntKind.i32.wrap ((k0 + 1 : Nat) : Int) = ((k0 + 1 : Nat) : Int) := by rw [IntKind.wrap_i32]; omega
  simp only [c_tipstafflaw18_VerifyLoops, W_seq, W_set]
  refine ok_intro (.bool false) (by simp) ?_
  try simp only [W_seq, W_set]
  refine ok_intro (.int .i32 ((k0 + 1 : Nat) : Int)) (by simp [ek, e1, e2, e3, -Int.natCast_add]) ?_
  have hk1 : 1 ≤ k0 + 1 := by omega
  have hk2 : k0 + 1 < 1503 := by omega
  generalize k0 + 1 = k at *
  clear ek e1 e2 hk0
  try simp only [W_seq]
  refine W_chkIn [exitI.val, (jneI k).val, addI.val, (movI 0 0).val] (by simp; exact ⟨rfl, rfl, rfl, rfl⟩) ?_
  try simp only [W_seq]
  refine W_row' (v := .agg (insCells (loopL k)).toArray) (cs := (insCells (loopL k)).toArray) (by simp [insCells, loopL]; exact rfl) rfl ?_
  have hkr := (Kept.refl none' w).alloc (.cells (insCells (loopL k)).toArray 28)
  have hcode : CodeAt (w.alloc (.cells (insCells (loopL k)).toArray 28)) w.heap.size 0 (loopL k) := code_of_cells fun j y hy => by
    rw [Nat.zero_add, wcell_of (hp_new w _)]
    simpa using hy
  have hsl : SlIs (w.alloc (.cells (insCells (loopL k)).toArray 28)) (.slice (some ⟨w.heap.size, 0, none⟩) 4 4) (loopL k) := .inr ⟨_, _, _, rfl, by simp [loopL], hcode, blk_lt (hp_new w _)⟩
  generalize (w.alloc (.cells (insCells (loopL k)).toArray 28)) = w1 at *
  generalize w.heap.size = b3 at *
  simp only [W_seq, W_set]
  refine ok_intro (.slice (some ⟨b3, 0, none⟩) 4 4) (by simp) ?_
  try simp only [W_seq]
  refine W_chkIn [.agg #[.slice none 0 0, .slice none 0 0, .bool true]] (by simp) ?_
  try simp only [W_seq]
  obtain ⟨a, st, er, hX, hcase⟩ : ∃ (a : Int) (st : Nat) (er : Int), (if 2 * k + 2 ≤ 2048 then (Value.tuple #[.agg #[.int .i64 0, .int .i64 ((2 * k + 2 : Nat) : Int)], .int .i64 0]) else .tuple #[.agg #[.int .i64 2, .int .i64 ((2048 : Nat) : Int)], .int .i64 7]) = .tuple #[.agg #[.int .i64 a, .int .i64 (st : Nat)], .int .i64 er] ∧ ((2 * k + 2 ≤ 2048 ∧ st = 2 * k + 2 ∧ er = 0) ∨ (2048 < 2 * k + 2 ∧ st = 2048 ∧ er = 7)) := by
    by_cases h : 2 * k + 2 ≤ 2048
    · rw [if_pos h]; exact ⟨_, _, _, rfl, .inl ⟨h, rfl, rfl⟩⟩
    · rw [if_neg h]; exact ⟨_, _, _, rfl, .inr ⟨by omega, rfl, rfl⟩⟩
  have hp := loop_priv hk1 hk2 w1 hsl
  rw [hX] at hp
  refine W_calm (vs := [.slice (some ⟨b3, 0, none⟩) 4 4, .agg #[.slice none 0 0, .slice none 0 0, .bool true]]) (by simp) hp ?_
  intro w2 hk3
  clear hp hX
  try simp only [W_seq]
  refine W_chkIn [.int .i64 er, .agg #[.int .i64 a, .int .i64 (st : Nat)]] (by simp) ?_
  try simp only [W_seq]
  refine W_new' (v := .agg #[.int .i64 0, .int .i64 0]) (cs := #[.int .i64 0, .int .i64 0]) (by simp) rfl ?_
  have hR := hp_new w2 (.cells #[.int .i64 0, .int .i64 0] 32)
  have hk4 := (Kept.refl none' w2).alloc (.cells #[.int .i64 0, .int .i64 0] 32)
  generalize hb6 : w2.heap.size = b6 at *
  generalize (w2.alloc (.cells #[.int .i64 0, .int .i64 0] 32)) = w3 at *
  have hs6 := box_store (v := .agg #[.int .i64 a, .int .i64 (st : Nat)]) hR (n := 2) rfl rfl (by simp [Value.cells, Value.oneCell'])
  have hcc : (Value.agg #[.int .i64 a, .int .i64 ((st : Nat) : Int)]).cells = #[.int .i64 a, .int .i64 (st : Nat)] := rfl
  rw [hcc] at hs6
  try simp only [W_seq]
  refine W_store (xv := .pointer (some ⟨b6, 0, none⟩)) (vv := .agg #[.int .i64 a, .int .i64 (st : Nat)]) (by simp) (by simp) hs6 (stab_nil _ _ _) ?_
  have hR4 := put_same (o := .cells #[.int .i64 a, .int .i64 (st : Nat)] 32) (blk_lt hR)
  have hk14 := (hk3.trans hk4).putNew (b := b6) (by have := hk3.size; omega) (.cells #[.int .i64 a, .int .i64 (st : Nat)] 32 (0, 0))
  generalize Eng.put w3 b6 (.cells #[.int .i64 a, .int .i64 (st : Nat)] 32 (0, 0)) = w4 at *
  simp only [W_seq, W_set]
  refine ok_intro (.int .i64 er) (by simp) ?_
  try simp only [W_seq]
  refine W_calm (vs := [.slice (some ⟨b3, 0, none⟩) 4 4, .agg #[.slice none 0 0, .slice none 0 0, .bool false]]) (by simp) (loop_unpriv hk2 w4 (hsl.calm hk14)) ?_
  intro w5 hk5
  try simp only [W_seq]
  refine W_chkIn [.int .i64 22, .agg #[.int .i64 0, .int .i64 0]] (by simp) ?_
  try simp only [W_seq]
  refine W_new' (v := .agg #[.int .i64 0, .int .i64 0]) (cs := #[.int .i64 0, .int .i64 0]) (by simp) rfl ?_
  have hR9 := hp_new w5 (.cells #[.int .i64 0, .int .i64 0] 32)
  have hk6 := (Kept.refl none' w5).alloc (.cells #[.int .i64 0, .int .i64 0] 32)
  generalize hb9 : w5.heap.size = b9 at *
  generalize (w5.alloc (.cells #[.int .i64 0, .int .i64 0] 32)) = w6 at *
  have hs9 := box_store (v := .agg #[.int .i64 0, .int .i64 0]) hR9 (n := 2) rfl rfl (by simp [Value.cells, Value.oneCell'])
  try simp only [W_seq]
  refine W_store (xv := .pointer (some ⟨b9, 0, none⟩)) (vv := .agg #[.int .i64 0, .int .i64 0]) (by simp) (by simp) hs9 (stab_nil _ _ _) ?_
  have hk57 := hk6.putNew (b := b9) (Nat.le_of_eq hb9) (.cells (Value.agg #[.int .i64 0, .int .i64 0]).cells 32 (0, 0))
  generalize Eng.put w6 b9 (.cells (Value.agg #[.int .i64 0, .int .i64 0]).cells 32 (0, 0)) = w7 at *
  have hk07 := (hkr.trans hk14).trans (hk5.trans hk57)
  have hR7 := (hk5.trans hk57).has hR4 fun h => h
  clear hR hR9 hs6 hs9 hk57 hk6 hk5 hR4 hk4 hk3 hk14
  simp only [W_seq, W_set]
  refine ok_intro (.int .i64 22) (by simp) ?_
  have e4 : IntKind.i64.wrap (k : Int) = k := i64w (by omega) (by omega)
  have e5 : IntKind.i64.wrap (2 * (k : Int)) = 2 * (k : Int) := i64w (by omega) (by omega)
  have e6 : IntKind.i64.wrap (2 * (k : Int) + 2) = 2 * (k : Int) + 2 := i64w (by omega) (by omega)
  try simp only [W_seq, W_set]
  refine ok_intro (.int .i64 (2 * (k : Int) + 2)) (by simp [e4, e5, e6]) ?_
  try simp only [W_seq]
  rcases hcase with ⟨hle, rfl, rfl⟩ | ⟨hgt, rfl, rfl⟩
  · refine W_no (by simp; omega) ?_
    simp only [W_skip, W_seq]
    refine W_calm (by simp) (hchk w7 hk07) ?_
    intro w8 hk8
    have c6 : wcell w8 b6 1 = some (.int .i64 ((2 * k + 2 : Nat) : Int)) := by rw [wcell_of (hk8.has hR7 fun h => h)]; rfl
    have e7 : ((2 * k + 2 : Nat) : Int) ≤ 2 * (k : Int) + 2 := by omega
    simp [c6, e7, -Int.natCast_add]
    exact hk07.trans hk8
  · refine W_yes (by simp; omega) ?_
    simp only [W_seq]
    refine W_calm (by simp) (hchk w7 hk07) ?_
    intro w8 hk8
    have c6 : wcell w8 b6 1 = some (.int .i64 ((2048 : Nat) : Int)) := by rw [wcell_of (hk8.has hR7 fun h => h)]; rfl
    simp [c6]
    exact hk07.trans hk8
end Go.Proofs.YtkgpmjjleemdlaaGreat

