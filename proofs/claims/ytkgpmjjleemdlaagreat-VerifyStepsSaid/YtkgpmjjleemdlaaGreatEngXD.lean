/- Engine, part XD: the interpreter's lists and its memory. -/
import Derived.Test.YtkgpmjjleemdlaaGreatEngXC
set_option linter.unusedSimpArgs false
set_option linter.unusedVariables false
set_option linter.unusedSectionVars false
namespace Go.Eng

theorem nth_eq : ∀ (l : List Value) (i : Nat), nth l i = l[i]?
  | [], _ => rfl
  | v :: r, 0 => rfl
  | v :: r, i + 1 => by rw [List.getElem?_cons_succ]; exact nth_eq r i
theorem dropL_eq : ∀ (n : Nat) (l : List Value), dropL n l = l.drop n
  | 0, _ => rfl
  | n + 1, [] => rfl
  | n + 1, v :: r => by rw [List.drop_succ_cons]; exact dropL_eq n r
theorem takeK_some {α : Type} : ∀ {n : Nat} {l : List Value} {k : List Value → Option α} {r : α}, takeK n l k = some r → n ≤ l.length ∧ k (l.take n) = some r
  | 0, l, k, r, h => ⟨Nat.zero_le _, h⟩
  | n + 1, [], k, r, h => by cases h
  | n + 1, v :: l, k, r, h => by
    obtain ⟨h1, h2⟩ := takeK_some (n := n) (l := l) (k := fun s => k (v :: s)) h
    exact ⟨Nat.succ_le_succ h1, h2⟩
theorem setK_eq {α : Type} : ∀ (l : List Value) (i : Nat) (x : Value) (k : List Value → α), setK l i x k = k (l.set i x)
  | [], _, _, _ => rfl
  | v :: r, 0, _, _ => rfl
  | v :: r, i + 1, x, k => by rw [List.set_cons_succ]; exact setK_eq r i x fun s => k (v :: s)
theorem overK_some {α : Type} : ∀ {xs l : List Value} {k : List Value → Option α} {r : α}, overK xs l k = some r → xs.length ≤ l.length ∧ k (xs ++ l.drop xs.length) = some r
  | [], l, k, r, h => ⟨Nat.zero_le _, h⟩
  | x :: xs, [], k, r, h => by cases h
  | x :: xs, v :: l, k, r, h => by
    obtain ⟨h1, h2⟩ := overK_some (xs := xs) (l := l) (k := fun s => k (x :: s)) h
    exact ⟨Nat.succ_le_succ h1, h2⟩
theorem putK_some' {α : Type} : ∀ {n : Nat} {xs l : List Value} {k : List Value → Option α} {r : α}, putK n xs l k = some r → n + xs.length ≤ l.length ∧ k (l.take n ++ (xs ++ l.drop (n + xs.length))) = some r
  | 0, xs, l, k, r, h => by
    obtain ⟨h1, h2⟩ := overK_some h
    exact ⟨by omega, by simpa using h2⟩
  | n + 1, xs, [], k, r, h => by cases h
  | n + 1, xs, v :: l, k, r, h => by
    obtain ⟨h1, h2⟩ := putK_some' (n := n) (l := l) (k := fun s => k (v :: s)) h
    refine ⟨by simp only [List.length_cons]; omega, ?_⟩
    rw [show n + 1 + xs.length = (n + xs.length) + 1 by omega, List.drop_succ_cons, List.take_succ_cons, List.cons_append]
    exact h2
theorem row_list {l xs : List Value} {n : Nat} (h : n + xs.length ≤ l.length) : (setRow l.toArray n xs).toList = l.take n ++ (xs ++ l.drop (n + xs.length)) := by
  apply List.ext_getElem?
  intro i
  rw [Array.getElem?_toList, setRow_eq]
  simp only [List.size_toArray, List.getElem?_toArray]
  by_cases h1 : i < n
  · rw [if_neg (by omega), List.getElem?_append_left (by simp; omega), List.getElem?_take_of_lt h1]
  · rw [List.getElem?_append_right (by simp; omega)]
    have e : (l.take n).length = n := by simp; omega
    rw [e]
    by_cases h2 : i < n + xs.length
    · rw [if_pos (by omega), List.getElem?_append_left (by omega)]
    · rw [if_neg (by omega), List.getElem?_append_right (by omega), List.getElem?_drop]
      congr 1; omega
theorem putK_some {α : Type} {n : Nat} {xs l : List Value} {k : List Value → Option α} {r : α} (h : putK n xs l k = some r) : n + xs.length ≤ l.length ∧ k (setRow l.toArray n xs).toList = some r := by
  obtain ⟨h1, h2⟩ := putK_some' h
  exact ⟨h1, by rw [row_list h1]; exact h2⟩
theorem appK_eq {α : Type} (ys : List Value) : ∀ (xs : List Value) (k : List Value → α), appK xs ys k = k (xs ++ ys)
  | [], k => rfl
  | x :: xs, k => appK_eq ys xs fun s => k (x :: s)
theorem lenL_eq : ∀ (l : List Value), lenL l = l.length
  | [] => rfl
  | v :: r => congrArg Nat.succ (lenL_eq r)
theorem lenIs_eq : ∀ (l : List Value) (n : Nat), lenIs l n = decide (l.length = n)
  | [], 0 => rfl
  | [], n + 1 => rfl
  | v :: r, 0 => rfl
  | v :: r, n + 1 => by
    refine (lenIs_eq r n).trans (decide_eq_decide.2 ?_)
    simp

/-! The memory. -/
noncomputable def HT.pth (f : Nat) : Nat → Option XB → HT :=
  Nat.rec (fun _ _ => .nil) (fun _ ih k x => Nat.rec (.node x .nil .nil) (fun p _ => Bool.rec (.node none .nil (ih (p / 2) x)) (.node none (ih (p / 2) x) .nil) (Nat.beq (p % 2) 0)) k) f
noncomputable def HT.set (h : HT) : Nat → Option XB → HT :=
  HT.rec (fun k x => HT.pth 60 k x) (fun b l r sl sr k x => Nat.rec (.node x l r) (fun p _ => Bool.rec (.node b l (sr (p / 2) x)) (.node b (sl (p / 2) x) r) (Nat.beq (p % 2) 0)) k) h
theorem HT.path_eq {α : Type} : ∀ (f k : Nat) (x : Option XB) (c : HT → α), HT.path f k x c = c (HT.pth f k x)
  | 0, _, _, _ => rfl
  | f + 1, 0, _, _ => rfl
  | f + 1, p + 1, x, c => by
    show (Bool.rec (HT.path f (p / 2) x fun r => c (.node none .nil r)) (HT.path f (p / 2) x fun l => c (.node none l .nil)) (Nat.beq (p % 2) 0) : α) = c (Bool.rec (.node none .nil (HT.pth f (p / 2) x)) (.node none (HT.pth f (p / 2) x) .nil) (Nat.beq (p % 2) 0))
    cases Nat.beq (p % 2) 0
    · exact HT.path_eq f _ _ _
    · exact HT.path_eq f _ _ _
theorem HT.setK_eq {α : Type} : ∀ (h : HT) (k : Nat) (x : Option XB) (c : HT → α), HT.setK h k x c = c (h.set k x) := by
  intro h
  induction h with
  | nil => exact fun k x c => HT.path_eq 60 k x c
  | node b l r ihl ihr =>
    intro k x c
    cases k with
    | zero => rfl
    | succ p =>
      show (Bool.rec (HT.setK r (p / 2) x fun r' => c (.node b l r')) (HT.setK l (p / 2) x fun l' => c (.node b l' r)) (Nat.beq (p % 2) 0) : α) = c (Bool.rec (.node b l (r.set (p / 2) x)) (.node b (l.set (p / 2) x) r) (Nat.beq (p % 2) 0))
      cases Nat.beq (p % 2) 0
      · exact ihr _ _ _
      · exact ihl _ _ _
theorem HT.get_node (b : Option XB) (l r : HT) (p : Nat) : (HT.node b l r).get (p + 1) = Bool.rec (r.get (p / 2)) (l.get (p / 2)) (Nat.beq (p % 2) 0) := rfl
theorem HT.get_pth : ∀ (f k : Nat) (x : Option XB) (j : Nat), (j ≠ k → (HT.pth f k x).get j = none) ∧ (∀ o, (HT.pth f k x).get k = some o → x = some o)
  | 0, k, x, j => ⟨fun _ => rfl, fun o h => by cases h⟩
  | f + 1, 0, x, 0 => ⟨fun h => absurd rfl h, fun o h => h⟩
  | f + 1, 0, x, j + 1 => ⟨fun _ => by
      show (HT.node x .nil .nil).get (j + 1) = none
      rw [HT.get_node]
      cases Nat.beq (j % 2) 0 <;> rfl, fun o h => h⟩
  | f + 1, p + 1, x, j => by
    have e : HT.pth (f + 1) (p + 1) x = Bool.rec (.node none .nil (HT.pth f (p / 2) x)) (.node none (HT.pth f (p / 2) x) .nil) (Nat.beq (p % 2) 0) := rfl
    rw [e]
    constructor
    · intro hj
      cases j with
      | zero => cases Nat.beq (p % 2) 0 <;> rfl
      | succ q =>
        cases hp : Nat.beq (p % 2) 0 with
        | true =>
          rw [HT.get_node]
          cases hq : Nat.beq (q % 2) 0 with
          | true =>
            refine (HT.get_pth f (p / 2) x (q / 2)).1 fun e => hj ?_
            have := Nat.eq_of_beq_eq_true hp
            have := Nat.eq_of_beq_eq_true hq
            omega
          | false => rfl
        | false =>
          rw [HT.get_node]
          cases hq : Nat.beq (q % 2) 0 with
          | true => rfl
          | false =>
            refine (HT.get_pth f (p / 2) x (q / 2)).1 fun e => hj ?_
            have := Nat.ne_of_beq_eq_false hp
            have := Nat.ne_of_beq_eq_false hq
            omega
    · intro o h
      cases hp : Nat.beq (p % 2) 0 with
      | true =>
        rw [hp] at h
        rw [HT.get_node, hp] at h
        exact (HT.get_pth f (p / 2) x 0).2 o h
      | false =>
        rw [hp] at h
        rw [HT.get_node, hp] at h
        exact (HT.get_pth f (p / 2) x 0).2 o h
theorem HT.get_set' : ∀ (h : HT) (k : Nat) (x : Option XB) (j : Nat), (j ≠ k → (h.set k x).get j = h.get j) ∧ (∀ o, (h.set k x).get k = some o → x = some o) := by
  intro h
  induction h with
  | nil => exact fun k x j => HT.get_pth 60 k x j
  | node b l r ihl ihr =>
    intro k x j
    cases k with
    | zero =>
      refine ⟨fun hj => ?_, fun o h => h⟩
      cases j with
      | zero => exact absurd rfl hj
      | succ q => rfl
    | succ p =>
      have e : (HT.node b l r).set (p + 1) x = Bool.rec (.node b l (r.set (p / 2) x)) (.node b (l.set (p / 2) x) r) (Nat.beq (p % 2) 0) := rfl
      rw [e]
      constructor
      · intro hj
        cases j with
        | zero => cases Nat.beq (p % 2) 0 <;> rfl
        | succ q =>
          rw [HT.get_node b l r]
          cases hp : Nat.beq (p % 2) 0 with
          | true =>
            rw [HT.get_node]
            cases hq : Nat.beq (q % 2) 0 with
            | true =>
              refine (ihl (p / 2) x (q / 2)).1 fun e => hj ?_
              have := Nat.eq_of_beq_eq_true hp
              have := Nat.eq_of_beq_eq_true hq
              omega
            | false => rfl
          | false =>
            rw [HT.get_node]
            cases hq : Nat.beq (q % 2) 0 with
            | true => rfl
            | false =>
              refine (ihr (p / 2) x (q / 2)).1 fun e => hj ?_
              have := Nat.ne_of_beq_eq_false hp
              have := Nat.ne_of_beq_eq_false hq
              omega
      · intro o h
        cases hp : Nat.beq (p % 2) 0 with
        | true =>
          rw [hp, HT.get_node, hp] at h
          exact (ihl (p / 2) x 0).2 o h
        | false =>
          rw [hp, HT.get_node, hp] at h
          exact (ihr (p / 2) x 0).2 o h
theorem HT.get_other (h : HT) {k j : Nat} (x : Option XB) (hj : j ≠ k) : (h.set k x).get j = h.get j := (HT.get_set' h k x j).1 hj
theorem HT.get_same {h : HT} {k : Nat} {x : Option XB} {o : XB} (hg : (h.set k x).get k = some o) : x = some o := (HT.get_set' h k x 0).2 o hg
def XB.stamp : XB → Nat
  | .cells _ _ s => s
  | .map _ _ s => s
def conV (G : Nat) : Nat → Value → Bool
  | 0, _ => false
  | n + 1, v => match v with
    | .bool _ => true
    | .int _ _ => true
    | .string _ => true
    | .pointer none => true
    | .pointer (some a) => Nat.blt a.block G
    | .slice none _ _ => true
    | .slice (some a) _ c => Nat.blt a.block G && Nat.blt c capU
    | .map none => true
    | .nilFunc => true
    | .nilIface => true
    | .func _ ⟨xs⟩ ⟨ys⟩ => xs.all (conV G n) && ys.all (conV G n)
    | .iface _ v => conV G n v
    | .agg ⟨xs⟩ => xs.all (conV G n)
    | .tuple ⟨xs⟩ => xs.all (conV G n)
    | _ => false
/-- Its constants are known, no load is empty. -/
def Ex.kc (G : Nat) : Ex → Bool
  | .var _ => true
  | .const v => conV G 8 v
  | .op1 _ x => x.kc G
  | .op2 _ x y => x.kc G && y.kc G
  | .op3 _ x y z => x.kc G && (y.kc G && z.kc G)
  | .eqx _ _ x y => x.kc G && y.kc G
  | .pick c a b => c.kc G && (a.kc G && b.kc G)
  | .ld sz x => (match sz with | some 0 => false | _ => true) && x.kc G
  | .bstr x => x.kc G
end Go.Eng
