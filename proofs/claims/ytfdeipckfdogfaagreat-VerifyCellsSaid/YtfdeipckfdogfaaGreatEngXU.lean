/- Engine, part XU: a stretch of commands is run; of its memory no more is kept than is wanted. -/
import Derived.Test.YtfdeipckfdogfaaGreatEngXT
set_option linter.unusedSimpArgs false
set_option linter.unusedVariables false
set_option linter.unusedSectionVars false
namespace Go.Eng
def beqXB : XB → XB → Bool
  | .cells c T s, .cells c' T' s' => all2 (beqV 8) c c' && (Nat.beq T T' && Nat.beq s s')
  | _, _ => false
theorem beqXB_eq {a b : XB} (h : beqXB a b = true) : a = b := by
  cases a <;> cases b <;> first | (cases h; done) | skip
  simp only [beqXB, Bool.and_eq_true] at h
  rw [all2_eq (beqV_eq 8) _ _ h.1, Nat.eq_of_beq_eq_true h.2.1, Nat.eq_of_beq_eq_true h.2.2]
def leXB : Option XB → Option XB → Bool
  | none, _ => true
  | some a, some b => beqXB a b
  | some _, none => false
theorem leXB_some {a : XB} {y : Option XB} (h : leXB (some a) y = true) : y = some a := by
  cases y with
  | none => cases h
  | some b => rw [beqXB_eq (show beqXB a b = true from h)]
/-- All blocks of the first memory are the second one's. -/
def subH : HT → HT → Bool
  | .nil, _ => true
  | .node b l r, .node b' l' r' => leXB b b' && (subH l l' && subH r r')
  | .node b l r, .nil => leXB b none && (subH l .nil && subH r .nil)
theorem HT.get_nil (k : Nat) : HT.nil.get k = none := rfl
theorem HT.get_zero (b : Option XB) (l r : HT) : (HT.node b l r).get 0 = b := rfl
theorem HT.get_succ (b : Option XB) (l r : HT) (p : Nat) : (HT.node b l r).get (p + 1) = Bool.rec (r.get (Nat.div p 2)) (l.get (Nat.div p 2)) (Nat.beq (Nat.mod p 2) 0) := rfl
theorem subH_get : ∀ (a b : HT), subH a b = true → ∀ k o, a.get k = some o → b.get k = some o := by
  intro a
  induction a with
  | nil => intro b _ k o h; cases h
  | node x l r ihl ihr =>
    intro b hs k o h
    cases b with
    | nil =>
      simp only [subH, Bool.and_eq_true] at hs
      cases k with
      | zero => rw [HT.get_zero] at h; subst h; cases hs.1
      | succ p =>
        rw [HT.get_succ] at h
        cases e : Nat.beq (Nat.mod p 2) 0 with
        | true => rw [e] at h; exact absurd (ihl .nil hs.2.1 _ _ h) (by rw [HT.get_nil]; intro h; cases h)
        | false => rw [e] at h; exact absurd (ihr .nil hs.2.2 _ _ h) (by rw [HT.get_nil]; intro h; cases h)
    | node x' l' r' =>
      simp only [subH, Bool.and_eq_true] at hs
      cases k with
      | zero => rw [HT.get_zero] at h ⊢; subst h; exact leXB_some hs.1
      | succ p =>
        rw [HT.get_succ] at h ⊢
        cases e : Nat.beq (Nat.mod p 2) 0 with
        | true => rw [e] at h; exact ihl l' hs.2.1 _ _ h
        | false => rw [e] at h; exact ihr r' hs.2.2 _ _ h
/-- A slot's value, or nothing. -/
def leV (a b : Value) : Bool := match isUndef a with
  | true => true
  | false => beqV 8 a b
def leEnv : Env → Env → Bool := all2N leV
where all2N (f : Value → Value → Bool) : List Value → List Value → Bool
  | [], [] => true
  | a :: r, b :: r' => f a b && all2N f r r'
  | _, _ => false
def isNormal (x : Exit) : Bool := match x with
  | .normal => true
  | _ => false
/-- The stretch ends as told: what is kept of its slots and of its memory, the next block, the next stamp. -/
noncomputable def ends (env : Env) (h : HT) (m s : Nat) (x : XS) : Bool := XS.rec false (fun x e g m' s' _ => isNormal x && (leEnv env e && (subH h g && (Nat.beq m m' && Nat.beq s s')))) x
end Go.Eng
