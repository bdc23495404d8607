/- Layer 18: a place of the stack is written, then read: what comes of it (VerifyStack's plain law). -/
import Derived.Test.YtkgpmjjleemdlaaGreatVh7
import Derived.Test.YtkgpmjjleemdlaaGreatVf2
set_option linter.unusedSimpArgs false
set_option linter.unusedVariables false
set_option maxRecDepth 8000
namespace Go.Proofs.YtkgpmjjleemdlaaGreat
open Go.Eng Go.Sort
attribute [local irreducible] Go.Eng.W

def szOf (a : Nat) : Int := if a = 0 then 4 else if a = 1 then 2 else if a = 2 then 1 else 8
def stX (place : Bool) (a : Nat) (off : Int) : Ins := if place = true then ⟨99 + 8 * a, 10, 1, off, 0⟩ else ⟨98 + 8 * a, 10, 0, off, 3⟩
def ldX (b : Nat) (off : Int) : Ins := ⟨97 + 8 * b, 6, 10, off, 0⟩
def stackL (place : Bool) (a b : Nat) (o1 o2 : Int) : List Ins := [stX place a o1, ldX b o2, movI 0 0, exitI]
theorem parts_stX (place : Bool) {a : Nat} (h : a < 4) (off : Int) : partsOf (stX place a off).op = ⟨7, 0, szOf a, false, place⟩ := by
  match a, h with
  | 0, _ | 1, _ | 2, _ | 3, _ => cases place <;> ((show _ = _); kernel_rfl)
theorem parts_ldX {b : Nat} (h : b < 4) (off : Int) : partsOf (ldX b off).op = ⟨6, 0, szOf b, false, false⟩ := by
  match b, h with
  | 0, _ | 1, _ | 2, _ | 3, _ => (show _ = _); kernel_rfl
theorem szOf_cases {a : Nat} (h : a < 4) : szOf a = 1 ∨ szOf a = 2 ∨ szOf a = 4 ∨ szOf a = 8 := by
  match a, h with
  | 0, _ | 1, _ | 2, _ | 3, _ => simp [szOf]
theorem sized_sz {a : Nat} (h : a < 4) : sizedOf (szOf a) = true := by
  match a, h with
  | 0, _ | 1, _ | 2, _ | 3, _ => rfl
theorem i64_small {x : Int} (h0 : -1000 ≤ x) (h1 : x ≤ 1000) : i64 x = x := i64w (by omega) (by omega)
theorem start_dropN (f m : Nat) : dropN AState.start f m = AState.start := by
  induction m with
  | zero => rfl
  | succ m ih =>
    show dropK (dropN AState.start f m) ((f + m) / 8) = _
    rw [ih]
    exact if_pos rfl
theorem start_10 : (AState.start.r 10).kind = 3 ∧ (AState.start.r 10).low = 0 ∧ (AState.start.r 10).high = 0 := ⟨rfl, rfl, rfl⟩
/-- Whether the save is done, and what is there behind it. -/
def savedB (place : Bool) (n off : Int) : Bool := decide (-64 ≤ off) && decide (off + n ≤ 0) && (!place || (decide (n = 8) && decide (off % 8 = 0)))
def savedS (place : Bool) (n off : Int) : AState := if place = true then (writeN AState.start (off + 64).toNat n.toNat false).setK ((off + 64).toNat / 8) (kindR 2) else writeN AState.start (off + 64).toNat n.toNat true
theorem wrap_3 : IntKind.u64.wrap 3 = 3 := by decide
def secX (place : Bool) : AReg := if place = true then kindR 2 else knownR 3
theorem sec_st (place : Bool) (a : Nat) (off : Int) : secondA AState.start (stX place a off) place = secX place := by
  cases place with
  | true => rfl
  | false => rfl
theorem writes_st (sp : List Sp) (fz : List Bool) {n off : Int} (hn : 0 ≤ n ∧ n ≤ 8) (h0 : -1000 ≤ off) (h1 : off ≤ 900) : writesOf sp fz (AState.start.r 10) off n = (decide (-64 ≤ off) && decide (off + n ≤ 0)) := by
  unfold writesOf
  rw [if_pos start_10.1]
  unfold insideOf
  rw [start_10.2.1, start_10.2.2, Int.zero_add, i64_small h0 (by omega), i64_small (by omega) (by omega)]
theorem sz_rng {a : Nat} (h : a < 4) : 0 ≤ szOf a ∧ szOf a ≤ 8 := by have := szOf_cases h; omega
theorem stx_dst (place : Bool) (a : Nat) (off : Int) : (stX place a off).dst = 10 := by cases place <;> rfl
theorem stx_off (place : Bool) (a : Nat) (off : Int) : (stX place a off).off = off := by cases place <;> rfl
theorem first_st {a : Nat} (ha : a < 4) {off : Int} (hw : -64 ≤ off ∧ off + szOf a ≤ 0) : firstOf off (szOf a) = (off + 64, true) := by
  have := szOf_cases ha
  unfold firstOf
  rw [if_neg (by omega)]
theorem saveOf_num {a : Nat} (ha : a < 4) {off : Int} (hw : -64 ≤ off ∧ off + szOf a ≤ 0) : saveOf AState.start off (szOf a) (secX false) = (savedS false (szOf a) off, true) := by
  have hk : (secX false).kind = 1 := rfl
  unfold saveOf
  rw [first_st ha hw, sized_sz ha]
  rw [if_neg (by rw [hk]; simp), if_pos hk, start_dropN]
  rfl
theorem saveOf_place {a : Nat} (ha : a < 4) {off : Int} (hw : -64 ≤ off ∧ off + szOf a ≤ 0) (hp : szOf a = 8 ∧ off % 8 = 0) : saveOf AState.start off (szOf a) (secX true) = (savedS true (szOf a) off, true) := by
  have hk : (secX true).kind = 2 := rfl
  have h8 : (off + 64).toNat % 8 = 0 := by omega
  unfold saveOf
  rw [first_st ha hw, sized_sz ha]
  rw [if_neg (by rw [hk]; simp [hp.1, h8]), if_neg (by rw [hk]; omega), start_dropN]
  rfl
theorem saveOf_bad {a : Nat} (ha : a < 4) {off : Int} (hw : -64 ≤ off ∧ off + szOf a ≤ 0) (hp : ¬ (szOf a = 8 ∧ off % 8 = 0)) : saveOf AState.start off (szOf a) (secX true) = (AState.start, false) := by
  have hk : (secX true).kind = 2 := rfl
  unfold saveOf
  rw [first_st ha hw, sized_sz ha]
  rw [if_pos (.inr (.inr (.inr ⟨by rw [hk]; omega, fun h => hp ⟨h.1, by have := h.2; simp only at this; omega⟩⟩)))]
theorem save_st (J : Jb) (place : Bool) {a : Nat} (ha : a < 4) {off : Int} (h0 : -1000 ≤ off) (h1 : off ≤ 900) :
    saveV J 0 AState.start (stX place a off) ⟨7, 0, szOf a, false, place⟩ (secX place) = if savedB place (szOf a) off = true then some [(1, savedS place (szOf a) off)] else none := by
  unfold saveV
  have hz := szOf_cases ha
  rw [stx_dst, stx_off, writes_st _ _ (sz_rng ha) h0 h1]
  simp only []
  unfold savedB
  by_cases hw : -64 ≤ off ∧ off + szOf a ≤ 0
  · have hb : (decide (-64 ≤ off) && decide (off + szOf a ≤ 0)) = true := by simp [hw.1, hw.2]
    rw [hb, if_neg (by simp), if_neg (by rw [start_10.1]; omega), start_10.2.1, Int.zero_add, i64_small h0 (by omega)]
    cases place with
    | false =>
      rw [saveOf_num ha hw]
      simp [savedS]
      exact i64_small (by omega) (by omega)
    | true =>
      by_cases hp : szOf a = 8 ∧ off % 8 = 0
      · rw [saveOf_place ha hw hp]
        simp [savedS, hp.1, hp.2]
        exact i64_small (by omega) (by omega)
      · rw [saveOf_bad ha hw hp]
        have hq : (decide (szOf a = 8) && decide (off % 8 = 0)) = false := by
          cases h : (decide (szOf a = 8) && decide (off % 8 = 0)) with
          | false => rfl
          | true =>
            simp only [Bool.and_eq_true, decide_eq_true_eq] at h
            exact absurd h hp
        simp [hq]
  · have hb : (decide (-64 ≤ off) && decide (off + szOf a ≤ 0)) = false := by
      cases h : (decide (-64 ≤ off) && decide (off + szOf a ≤ 0)) with
      | false => rfl
      | true =>
        simp only [Bool.and_eq_true, decide_eq_true_eq] at h
        exact absurd h hw
    rw [hb, if_pos rfl]
    simp
/-- Whether the load is done. -/
def loadedB (place : Bool) (n1 o1 n2 o2 : Int) : Bool := if place = true then decide (o2 = o1) && decide (n2 = 8) else decide (o1 ≤ o2) && decide (o2 + n2 ≤ o1 + n1)
theorem saved_r (place : Bool) (n off : Int) : (savedS place n off).r = AState.start.r := by
  unfold savedS
  split <;> rfl
theorem saved_what (n off : Int) (j : Nat) : (savedS false n off).what j = decide ((off + 64).toNat ≤ j ∧ j < (off + 64).toNat + n.toNat) := by
  show (if (off + 64).toNat ≤ j ∧ j < (off + 64).toNat + n.toNat then true else false) = _
  split
  · rename_i h; simp [h]
  · rename_i h; rw [eq_comm, decide_eq_false_iff_not]; exact h
theorem saved_kept (n off : Int) (j : Nat) : ((savedS false n off).kept j).kind = 0 := rfl
theorem savedp_what (n off : Int) (j : Nat) : (savedS true n off).what j = false := by
  show (if (off + 64).toNat ≤ j ∧ j < (off + 64).toNat + n.toNat then false else false) = _
  split <;> rfl
theorem savedp_kept (n off : Int) (j : Nat) : ((savedS true n off).kept j).kind = if j = (off + 64).toNat / 8 then 2 else 0 := by
  show (fsetR AState.start.kept ((off + 64).toNat / 8) (kindR 2) j).kind = _
  unfold fsetR
  split <;> rfl
theorem load_what (place : Bool) {a b : Nat} (ha : a < 4) (hb : b < 4) {o1 o2 : Int} (h2 : -1000 ≤ o2) (h3 : o2 ≤ 900) (hs : savedB place (szOf a) o1 = true) :
    (loadOf (savedS place (szOf a) o1) o2 (szOf b)).2 = loadedB place (szOf a) o1 (szOf b) o2 := by
  simp only [savedB, Bool.and_eq_true, decide_eq_true_eq, Bool.or_eq_true, Bool.not_eq_true'] at hs
  obtain ⟨⟨hs1, hs2⟩, hs3⟩ := hs
  have hza := szOf_cases ha
  have hzb := szOf_cases hb
  unfold loadOf loadedB
  rw [sized_sz hb]
  by_cases hf : o2 < -64 ∨ 0 < o2 ∨ szOf b < 0 ∨ -o2 < szOf b
  · have e : firstOf o2 (szOf b) = (0, false) := by unfold firstOf; rw [if_pos hf]
    rw [e, if_pos (.inr rfl)]
    cases place with
    | true =>
      rw [if_pos rfl]
      symm
      rcases hs3 with h | h
      · cases h
      · rw [Bool.and_eq_false_iff]
        by_cases h8 : o2 = o1
        · right; simp; omega
        · left; simp [h8]
    | false =>
      rw [if_neg (by simp)]
      symm
      rw [Bool.and_eq_false_iff]
      simp only [decide_eq_false_iff_not]
      omega
  · have e : firstOf o2 (szOf b) = (o2 + 64, true) := by unfold firstOf; rw [if_neg hf]
    rw [e, if_neg (by simp)]
    cases place with
    | true =>
      rw [if_pos rfl]
      simp only [savedp_kept]
      rcases hs3 with h | ⟨ha8, ho8⟩
      · cases h
      by_cases hc : szOf b = 8 ∧ (o2 + 64).toNat % 8 = 0 ∧ (if (o2 + 64).toNat / 8 = (o1 + 64).toNat / 8 then (2 : Int) else 0) ≠ 0
      · rw [if_pos hc]
        obtain ⟨c1, c2, c3⟩ := hc
        have c4 : (o2 + 64).toNat / 8 = (o1 + 64).toNat / 8 := by
          by_cases h : (o2 + 64).toNat / 8 = (o1 + 64).toNat / 8
          · exact h
          · rw [if_neg h] at c3; exact absurd rfl c3
        have : o2 = o1 := by omega
        simp [this, c1]
      · rw [if_neg hc]
        have hr : readyOf (savedS true (szOf a) o1) o2 (szOf b) = false := by
          unfold readyOf
          rw [e]
          simp only [Bool.true_and]
          rw [List.all_eq_false]
          refine ⟨0, List.mem_range.2 (by omega), ?_⟩
          rw [savedp_what]
          simp
        rw [if_pos hr]
        symm
        rw [Bool.and_eq_false_iff]
        simp only [decide_eq_false_iff_not]
        by_cases h8 : o2 = o1
        · right
          intro hb8
          refine hc ⟨hb8, by omega, ?_⟩
          rw [if_pos (by rw [h8])]
          omega
        · exact .inl h8
    | false =>
      rw [if_neg (by rintro ⟨_, _, h⟩; exact h (saved_kept _ _ _)), if_neg (show ¬ (false = true) by simp)]
      have hr : readyOf (savedS false (szOf a) o1) o2 (szOf b) = (decide (o1 ≤ o2) && decide (o2 + szOf b ≤ o1 + szOf a)) := by
        unfold readyOf
        rw [e]
        simp only [Bool.true_and]
        by_cases hin : o1 ≤ o2 ∧ o2 + szOf b ≤ o1 + szOf a
        · have : (decide (o1 ≤ o2) && decide (o2 + szOf b ≤ o1 + szOf a)) = true := by simp [hin.1, hin.2]
          rw [this, List.all_eq_true]
          intro i hi
          have hi := List.mem_range.1 hi
          rw [saved_what, decide_eq_true_eq]
          omega
        · have : (decide (o1 ≤ o2) && decide (o2 + szOf b ≤ o1 + szOf a)) = false := by
            rw [Bool.and_eq_false_iff]
            simp only [decide_eq_false_iff_not]
            omega
          rw [this, List.all_eq_false]
          by_cases hlo : o1 ≤ o2
          · refine ⟨(szOf b - 1).toNat, List.mem_range.2 (by omega), ?_⟩
            rw [saved_what, decide_eq_true_eq]
            omega
          · refine ⟨0, List.mem_range.2 (by omega), ?_⟩
            rw [saved_what, decide_eq_true_eq]
            omega
      cases hq : readyOf (savedS false (szOf a) o1) o2 (szOf b) with
      | true =>
        rw [if_neg (by simp)]
        rw [hr] at hq
        exact hq.symm
      | false =>
        rw [if_pos rfl]
        rw [hr] at hq
        exact hq.symm
theorem load_st (J : Jb) (place : Bool) {a b : Nat} (ha : a < 4) (hb : b < 4) {o1 o2 : Int} (h2 : -1000 ≤ o2) (h3 : o2 ≤ 900) (hs : savedB place (szOf a) o1 = true) :
    loadV J 1 (savedS place (szOf a) o1) (ldX b o2) ⟨6, 0, szOf b, false, false⟩ = if loadedB place (szOf a) o1 (szOf b) o2 = true then some [(2, (savedS place (szOf a) o1).setR 6 (loadOf (savedS place (szOf a) o1) o2 (szOf b)).1)] else none := by
  unfold loadV
  have e1 : (ldX b o2).src = 10 := rfl
  have e2 : (ldX b o2).off = o2 := rfl
  rw [e1, e2, saved_r, if_pos start_10.1, start_10.2.1, Int.zero_add, i64_small h2 (by omega)]
  simp only [load_what place ha hb h2 h3 hs]
  rfl
theorem st_kind (place : Bool) {a : Nat} (ha : a < 4) (off : Int) : kindOf (stX place a off) = 7 := by
  unfold kindOf
  rw [parts_stX place ha]
theorem ld_kind {b : Nat} (hb : b < 4) (off : Int) : kindOf (ldX b off) = 6 := by
  unfold kindOf
  rw [parts_ldX hb]
theorem num_mov0 : numR (doR 11 true (constR 0) (constR 0)) = knownR 0 := by
  have ha : aloneR (constR 0) = true := by decide +kernel
  unfold doR
  rw [if_pos ⟨ha, ha⟩]
  rfl
theorem movI_kind (d : Nat) (n : Int) : kindOf (movI d n) = 1 := by simp [kindOf, movI, parts_mov]
theorem stepV_mov0 (J : Jb) (ids : Int) (p : Nat) (s : AState) : stepV J ids p s (movI 0 0) = (some [(i64 ((p : Int) + 1), s.setR 0 (knownR 0))], ids) := by
  unfold stepV
  rw [if_pos (movI_kind 0 0)]
  have hq : partsOf (movI 0 0).op = ⟨1, 11, 0, true, false⟩ := parts_mov
  rw [hq]
  have hB : secondA s (movI 0 0) false = knownR 0 := by rfl
  have hA : aluA ⟨1, 11, 0, true, false⟩ (s.r (movI 0 0).dst) (knownR 0) = knownR 0 := by unfold aluA; rw [if_pos ⟨rfl, rfl⟩]
  unfold aluV
  rw [hB, hA, if_pos ⟨rfl, rfl⟩]
  show (some [(i64 ((p : Int) + 1), s.setR 0 (numR (doR 11 true (constR 0) (constR 0))))], ids) = _
  rw [num_mov0]
theorem stepV_exit (J : Jb) (ids : Int) (p : Nat) (s : AState) (h : (s.r 0).kind = 1) : stepV J ids p s exitI = (some [], ids) := by
  have hk := exit_kind
  unfold stepV
  rw [if_neg (by omega), if_neg (by omega), if_neg (by omega), if_neg (by omega), if_pos hk, if_pos h]
theorem stepV_st (J : Jb) (place : Bool) {a : Nat} (ha : a < 4) {off : Int} (h0 : -1000 ≤ off) (h1 : off ≤ 900) :
    stepV J 0 0 AState.start (stX place a off) = (if savedB place (szOf a) off = true then some [(1, savedS place (szOf a) off)] else none, 0) := by
  have hk := st_kind place ha off
  have h := save_st J place ha h0 h1
  unfold stepV
  rw [if_neg (by omega), if_neg (by omega), if_neg (by omega), if_neg (by omega), if_neg (by omega), if_neg (by omega), if_pos hk, parts_stX place ha]
  rw [← h, ← sec_st place a off]
  rfl
theorem stepV_ld (J : Jb) (place : Bool) {a b : Nat} (ha : a < 4) (hb : b < 4) {o1 o2 : Int} (h2 : -1000 ≤ o2) (h3 : o2 ≤ 900) (hs : savedB place (szOf a) o1 = true) :
    stepV J 0 1 (savedS place (szOf a) o1) (ldX b o2) = (if loadedB place (szOf a) o1 (szOf b) o2 = true then some [(2, (savedS place (szOf a) o1).setR 6 (loadOf (savedS place (szOf a) o1) o2 (szOf b)).1)] else none, 0) := by
  have hk := ld_kind hb o2
  have h := load_st J place ha hb h2 h3 hs
  unfold stepV
  rw [if_neg (by omega), if_neg (by omega), if_neg (by omega), if_neg (by omega), if_neg (by omega), if_pos hk, parts_ldX hb]
  rw [← h]
  rfl
theorem saved_wf (place : Bool) (n off : Int) : (savedS place n off).wf := by
  unfold savedS
  split
  · exact setK_wf (setW_wf start_wf _) _ (kindR_wf 2)
  · exact setW_wf start_wf _
theorem knownR0_wf : (knownR 0).wf := wfR_wf (by decide +kernel)
theorem stack_runs {J : Jb} (place : Bool) {a b : Nat} (ha : a < 4) (hb : b < 4) {o1 o2 : Int} (h0 : -1000 ≤ o1) (h1 : o1 ≤ 900) (h2 : -1000 ≤ o2) (h3 : o2 ≤ 900) (hJ : J.xs = stackL place a b o1 o2) {most : Nat} (hm : 4 ≤ most) {A : Int} {M : Nat} {E : Int}
    (hr : (savedB place (szOf a) o1 = false ∧ A = 0 ∧ M = 1 ∧ E = 13) ∨ (savedB place (szOf a) o1 = true ∧ loadedB place (szOf a) o1 (szOf b) o2 = false ∧ A = 1 ∧ M = 2 ∧ E = 13) ∨ (savedB place (szOf a) o1 = true ∧ loadedB place (szOf a) o1 (szOf b) o2 = true ∧ A = 0 ∧ M = 4 ∧ E = 0)) :
    Runs J most (fun _ => []) 0 0 [(0, AState.start)] A M E := by
  have s1 := stepV_st J place ha h0 h1
  rcases hr with ⟨hs, rfl, rfl, rfl⟩ | ⟨hs, hl, rfl, rfl, rfl⟩ | ⟨hs, hl, rfl, rfl, rfl⟩
  · rw [hs, if_neg (by simp)] at s1
    exact .bad (p := 0) (x := stX place a o1) (by omega) rfl start_wf (by rw [hJ]; rfl) (by rw [s1])
  · rw [hs, if_pos rfl] at s1
    have s2 := stepV_ld J place ha hb h2 h3 hs
    rw [hl, if_neg (by simp)] at s2
    refine .on (p := 0) (x := stX place a o1) (by omega) rfl start_wf (by rw [hJ]; rfl) (by rw [s1]) (by simp) ?_
    rw [s1]
    exact .bad (p := 1) (x := ldX b o2) (by omega) rfl (saved_wf _ _ _) (by rw [hJ]; rfl) (by rw [s2])
  · rw [hs, if_pos rfl] at s1
    have s2 := stepV_ld J place ha hb h2 h3 hs
    rw [hl, if_pos rfl] at s2
    have hw := load_wf (saved_wf place (szOf a) o1) o2 (szOf b)
    generalize (loadOf (savedS place (szOf a) o1) o2 (szOf b)).1 = v at *
    have hw2 := setR_wf (saved_wf place (szOf a) o1) 6 hw
    have hw3 := setR_wf hw2 0 knownR0_wf
    refine .on (p := 0) (x := stX place a o1) (by omega) rfl start_wf (by rw [hJ]; rfl) (by rw [s1]) (by simp) ?_
    rw [s1]
    refine .on (p := 1) (x := ldX b o2) (by omega) rfl (saved_wf _ _ _) (by rw [hJ]; rfl) (by rw [s2]) (by simp) ?_
    rw [s2]
    generalize (savedS place (szOf a) o1).setR 6 v = s at *
    have s3 := stepV_mov0 J 0 2 s
    refine .on (p := 2) (x := movI 0 0) (by omega) rfl hw2 (by rw [hJ]; rfl) (by rw [s3]) (by simp) ?_
    rw [s3]
    have s4 := stepV_exit J 0 3 (s.setR 0 (knownR 0)) rfl
    refine .on (p := 3) (x := exitI) (by omega) rfl hw3 (by rw [hJ]; rfl) (by rw [s4]) (by simp) ?_
    rw [s4]
    exact .fin
theorem stack_at {place : Bool} {a b : Nat} {o1 o2 : Int} {i : Nat} {x : Ins} (h : (stackL place a b o1 o2)[i]? = some x) : (i = 0 ∧ x = stX place a o1) ∨ (i = 1 ∧ x = ldX b o2) ∨ (i = 2 ∧ x = movI 0 0) ∨ (i = 3 ∧ x = exitI) := by
  have hlt := (List.getElem?_eq_some_iff.1 h).1
  simp [stackL] at hlt
  match i, h with
  | 0, h => left; simp [stackL] at h; exact ⟨rfl, h.symm⟩
  | 1, h => right; left; simp [stackL] at h; exact ⟨rfl, h.symm⟩
  | 2, h => right; right; left; simp [stackL] at h; exact ⟨rfl, h.symm⟩
  | 3, h => right; right; right; simp [stackL] at h; exact ⟨rfl, h.symm⟩
theorem st_xok (place : Bool) {a : Nat} (ha : a < 4) {off : Int} (h0 : -1000 ≤ off) (h1 : off ≤ 900) : XOk (stX place a off) := by
  cases place with
  | true => exact ⟨⟨by simp [stX]; omega, by simp [stX], by simp [stX], by simp [stX]; omega, by simp [stX]⟩, by simp [stX], by simp [stX]⟩
  | false => exact ⟨⟨by simp [stX]; omega, by simp [stX], by simp [stX], by simp [stX]; omega, by simp [stX]⟩, by simp [stX], by simp [stX]⟩
theorem ld_xok {b : Nat} (hb : b < 4) {off : Int} (h0 : -1000 ≤ off) (h1 : off ≤ 900) : XOk (ldX b off) :=
  ⟨⟨by simp [ldX]; omega, by simp [ldX], by simp [ldX], by simp [ldX]; omega, by simp [ldX]⟩, by simp [ldX], by simp [ldX]⟩
theorem mov0_xok : XOk (movI 0 0) := ⟨⟨by simp [movI], by simp [movI], by simp [movI], by simp [movI], by simp [movI]⟩, by simp [movI], by simp [movI]⟩
theorem exit_xok : XOk exitI := ⟨⟨by simp [exitI], by simp [exitI], by simp [exitI], by simp [exitI], by simp [exitI]⟩, by simp [exitI], by simp [exitI]⟩
theorem st_one (place : Bool) {a : Nat} (ha : a < 4) (off : Int) (xs : List Ins) (i : Nat) : oneOk xs i (stX place a off) = true := by
  unfold oneOk
  rw [parts_stX place ha]
  cases place <;> simp [plainOk, namedOf, stX]
theorem ld_one {b : Nat} (hb : b < 4) (off : Int) (xs : List Ins) (i : Nat) : oneOk xs i (ldX b off) = true := by
  unfold oneOk
  rw [parts_ldX hb]
  simp [plainOk, namedOf, ldX]
theorem mov0_one (xs : List Ins) (i : Nat) : oneOk xs i (movI 0 0) = true := by
  simp [oneOk, movI, parts_mov, plainOk, namedOf, constOk]
theorem exit_one (xs : List Ins) (i : Nat) : oneOk xs i exitI = true := by
  simp [oneOk, exitI, parts_exit, plainOk, namedOf]
theorem stack_line (place : Bool) {a b : Nat} (ha : a < 4) (hb : b < 4) {o1 o2 : Int} (h0 : -1000 ≤ o1) (h1 : o1 ≤ 900) (h2 : -1000 ≤ o2) (h3 : o2 ≤ 900) : IsLine (stackL place a b o1 o2) where
  pos := by simp [stackL]
  le := by simp [stackL]
  wf := fun i x hx => by
    rcases stack_at hx with ⟨_, rfl⟩ | ⟨_, rfl⟩ | ⟨_, rfl⟩ | ⟨_, rfl⟩
    · exact (st_xok place ha h0 h1).wf
    · exact (ld_xok hb h2 h3).wf
    · exact mov0_xok.wf
    · exact exit_xok.wf
  one := fun i x hx => by
    rcases stack_at hx with ⟨_, rfl⟩ | ⟨_, rfl⟩ | ⟨_, rfl⟩ | ⟨_, rfl⟩
    · exact st_one place ha _ _ _
    · exact ld_one hb _ _ _
    · exact mov0_one _ _
    · exact exit_one _ _
  mid := fun i x hx hi => by
    rcases stack_at hx with ⟨_, rfl⟩ | ⟨_, rfl⟩ | ⟨_, rfl⟩ | ⟨h, rfl⟩
    · exact .inr (.inr (st_kind place ha _))
    · exact .inr (.inl (ld_kind hb _))
    · exact .inl (movI_kind _ _)
    · simp [stackL] at hi; omega
  last := fun i x hx hi => by
    simp [stackL] at hi
    rcases stack_at hx with ⟨h, rfl⟩ | ⟨h, rfl⟩ | ⟨h, rfl⟩ | ⟨_, rfl⟩
    · omega
    · omega
    · omega
    · exact exit_kind
theorem stack_check (place : Bool) {a b : Nat} (ha : a < 4) (hb : b < 4) {o1 o2 : Int} (h0 : -1000 ≤ o1) (h1 : o1 ≤ 900) (h2 : -1000 ≤ o2) (h3 : o2 ≤ 900) {v : Value} (w : World) (h : SlIs w v (stackL place a b o1 o2)) {A : Int} {M : Nat} {E : Int}
    (hr : (savedB place (szOf a) o1 = false ∧ A = 0 ∧ M = 1 ∧ E = 13) ∨ (savedB place (szOf a) o1 = true ∧ loadedB place (szOf a) o1 (szOf b) o2 = false ∧ A = 1 ∧ M = 2 ∧ E = 13) ∨ (savedB place (szOf a) o1 = true ∧ loadedB place (szOf a) o1 (szOf b) o2 = true ∧ A = 0 ∧ M = 4 ∧ E = 0)) :
    Ret Tryz.prog 8 [v, .agg #[.slice none 0 0, .slice none 0 0, .bool false]] w fun r w' => r = .tuple #[.agg #[.int .i64 A, .int .i64 M], .int .i64 E] ∧ Kept none' w w' := by
  have hl := stack_line place ha hb h0 h1 h2 h3
  obtain ⟨d, hd, hs⟩ := hl.walks
  refine vcheckV_ret hl.tame hl.le hl.check hd hs w h false (by simp [cfgOf]) (fun p x hx => ⟨?_, fun hk => ?_⟩) fun J hJ _ _ _ => stack_runs place ha hb h0 h1 h2 h3 hJ (by simp [mostOf]) hr
  · rcases stack_at hx with ⟨_, rfl⟩ | ⟨_, rfl⟩ | ⟨_, rfl⟩ | ⟨_, rfl⟩
    · exact st_xok place ha h0 h1
    · exact ld_xok hb h2 h3
    · exact mov0_xok
    · exact exit_xok
  · have := hl.kinds hx
    omega
end Go.Proofs.YtkgpmjjleemdlaaGreat
