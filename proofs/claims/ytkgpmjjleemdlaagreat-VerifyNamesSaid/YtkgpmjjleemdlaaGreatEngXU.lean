/- Engine, part XU: a stretch of commands is run; of its memory no more is kept than is wanted. -/
import Derived.Test.YtkgpmjjleemdlaaGreatEngXT
set_option linter.unusedSimpArgs false
set_option linter.unusedVariables false
set_option linter.unusedSectionVars false
namespace Go.Eng
noncomputable section
/-- Values that are the same, places and all. -/
def eqW : Nat → Value → Value → Bool
  | 0, _, _ => false
  | n + 1, a, b => match a, b with
    | .slice (some ⟨b, o, none⟩) x y, .slice (some ⟨b', o', none⟩) x' y' => Nat.beq b b' && (Nat.beq o o' && (Nat.beq x x' && Nat.beq y y'))
    | .map (some b), .map (some b') => Nat.beq b b'
    | .iface t u, .iface t' u' => Nat.beq t t' && eqW n u u'
    | .agg ⟨xs⟩, .agg ⟨ys⟩ => all2 (eqW n) xs ys
    | .tuple ⟨xs⟩, .tuple ⟨ys⟩ => all2 (eqW n) xs ys
    | .func (.func f) ⟨xs⟩ ⟨ys⟩, .func (.func f') ⟨xs'⟩ ⟨ys'⟩ => Nat.beq f f' && (all2 (eqW n) xs xs' && all2 (eqW n) ys ys')
    | a, b => beqV 8 a b
theorem eqW_eq : ∀ (n : Nat) (a b : Value), eqW n a b = true → a = b := by
  intro n
  induction n with
  | zero => intro a b h; cases h
  | succ n ih =>
    intro a b h
    unfold eqW at h
    split at h
    · simp only [Bool.and_eq_true] at h
      obtain ⟨h1, h2, h3, h4⟩ := h
      rw [Nat.eq_of_beq_eq_true h1, Nat.eq_of_beq_eq_true h2, Nat.eq_of_beq_eq_true h3, Nat.eq_of_beq_eq_true h4]
    · rw [Nat.eq_of_beq_eq_true h]
    · simp only [Bool.and_eq_true] at h
      rw [Nat.eq_of_beq_eq_true h.1, ih _ _ h.2]
    · rw [all2_eq ih _ _ h]
    · rw [all2_eq ih _ _ h]
    · simp only [Bool.and_eq_true] at h
      rw [Nat.eq_of_beq_eq_true h.1, all2_eq ih _ _ h.2.1, all2_eq ih _ _ h.2.2]
    · exact beqV_eq 8 _ _ h
def beqXB : XB → XB → Bool
  | .cells c T s, .cells c' T' s' => all2 (eqW 8) c c' && (Nat.beq T T' && Nat.beq s s')
  | _, _ => false
theorem beqXB_eq {a b : XB} (h : beqXB a b = true) : a = b := by
  cases a <;> cases b <;> first | (cases h; done) | skip
  simp only [beqXB, Bool.and_eq_true] at h
  rw [all2_eq (eqW_eq 8) _ _ h.1, Nat.eq_of_beq_eq_true h.2.1, Nat.eq_of_beq_eq_true h.2.2]
def leXB : Option XB → Option XB → Bool
  | none, _ => true
  | some a, some b => beqXB a b
  | some _, none => false
theorem leXB_some {a : XB} {y : Option XB} (h : leXB (some a) y = true) : y = some a := by
  cases y with
  | none => cases h
  | some b => rw [beqXB_eq (show beqXB a b = true from h)]
/-- All blocks of the first memory are the second one's. -/
def subH : HT → HT → Bool
  | .nil, _ => true
  | .node b l r, .node b' l' r' => leXB b b' && (subH l l' && subH r r')
  | .node b l r, .nil => leXB b none && (subH l .nil && subH r .nil)
theorem HT.get_nil (k : Nat) : HT.nil.get k = none := rfl
theorem HT.get_zero (b : Option XB) (l r : HT) : (HT.node b l r).get 0 = b := rfl
theorem HT.get_succ (b : Option XB) (l r : HT) (p : Nat) : (HT.node b l r).get (p + 1) = Bool.rec (r.get (Nat.div p 2)) (l.get (Nat.div p 2)) (Nat.beq (Nat.mod p 2) 0) := rfl
theorem subH_get : ∀ (a b : HT), subH a b = true → ∀ k o, a.get k = some o → b.get k = some o := by
  intro a
  induction a with
  | nil => intro b _ k o h; cases h
  | node x l r ihl ihr =>
    intro b hs k o h
    cases b with
    | nil =>
      simp only [subH, Bool.and_eq_true] at hs
      cases k with
      | zero => rw [HT.get_zero] at h; subst h; cases hs.1
      | succ p =>
        rw [HT.get_succ] at h
        cases e : Nat.beq (Nat.mod p 2) 0 with
        | true => rw [e] at h; exact absurd (ihl .nil hs.2.1 _ _ h) (by rw [HT.get_nil]; intro h; cases h)
        | false => rw [e] at h; exact absurd (ihr .nil hs.2.2 _ _ h) (by rw [HT.get_nil]; intro h; cases h)
    | node x' l' r' =>
      simp only [subH, Bool.and_eq_true] at hs
      cases k with
      | zero => rw [HT.get_zero] at h ⊢; subst h; exact leXB_some hs.1
      | succ p =>
        rw [HT.get_succ] at h ⊢
        cases e : Nat.beq (Nat.mod p 2) 0 with
        | true => rw [e] at h; exact ihl l' hs.2.1 _ _ h
        | false => rw [e] at h; exact ihr r' hs.2.2 _ _ h
/-- A slot's value, or nothing. -/
def leV (a b : Value) : Bool := match isUndef a with
  | true => true
  | false => eqW 8 a b
def leEnv : Env → Env → Bool := all2N leV
where all2N (f : Value → Value → Bool) : List Value → List Value → Bool
  | [], [] => true
  | a :: r, b :: r' => f a b && all2N f r r'
  | _, _ => false
def isNormal (x : Exit) : Bool := match x with
  | .normal => true
  | _ => false
/-- The stretch ends as told: what is kept of its slots and of its memory, the next block, the next stamp. -/
noncomputable def ends (env : Env) (h : HT) (m s : Nat) (x : XS) : Bool := XS.rec false (fun x e g m' s' _ => isNormal x && (leEnv env e && (subH h g && (Nat.beq m m' && Nat.beq s s')))) x
theorem get_leaf (b : Option XB) (k : Nat) : (HT.node b .nil .nil).get (k + 1) = none := by
  rw [HT.get_succ]
  cases Nat.beq (Nat.mod k 2) 0 <;> rfl
/-- A row of numbers that is there from the start. -/
theorem begin_row {w : World} {b : Nat} {k : IntKind} {xs : List Int} (hx : xs ≠ []) (h : ∀ (i : Nat) x, xs[i]? = some x → wcell w b i = some (.int k x)) : ∃ (c' : Array Value) (T' : TypeId) (fz : Nat × Nat), w.heap[b]? = some (.cells c' T' fz) ∧ ∀ (i : Nat) v, (xs.map (Value.int k))[i]? = some v → c'[i]? = some v := by
  cases xs with
  | nil => exact absurd rfl hx
  | cons a r =>
    have h0 := h 0 a rfl
    unfold wcell at h h0
    split at h0
    · rename_i c T fz hb
      refine ⟨c, T, fz, hb, fun i v hv => ?_⟩
      rw [List.getElem?_map, Option.map_eq_some_iff] at hv
      obtain ⟨x, hx, rfl⟩ := hv
      have := h i x hx
      rw [hb] at this
      exact this
    · cases h0
/-- Two rows of numbers. -/
def rows2 (k0 : IntKind) (x0 : List Int) (k1 : IntKind) (x1 : List Int) : HT := .node (some (.cells (x0.map (Value.int k0)) 0 0)) (.node (some (.cells (x1.map (Value.int k1)) 0 0)) .nil .nil) .nil
theorem begin2 {w : World} {k0 k1 : IntKind} {x0 x1 : List Int} (n0 : x0 ≠ []) (n1 : x1 ≠ []) (h0 : ∀ (i : Nat) x, x0[i]? = some x → wcell w 0 i = some (.int k0 x)) (h1 : ∀ (i : Nat) x, x1[i]? = some x → wcell w 1 i = some (.int k1 x)) : Begin 2 (rows2 k0 x0 k1 x1) w := by
  obtain ⟨c0, T0, f0, g0, e0⟩ := begin_row n0 h0
  obtain ⟨c1, T1, f1, g1, e1⟩ := begin_row n1 h1
  have con : ∀ (k : IntKind) (x : List Int), ∀ v ∈ x.map (Value.int k), conV 2 8 v = true := fun k x v hv => by
    obtain ⟨n, _, rfl⟩ := List.mem_map.1 hv
    rfl
  refine ⟨(Array.getElem?_eq_some_iff.1 g1).1, fun b o h => ?_⟩
  match b, h with
  | 0, h => obtain rfl := Option.some.inj h; exact ⟨by decide, _, _, c0, T0, f0, rfl, g0, e0, con _ _⟩
  | 1, h => obtain rfl := Option.some.inj (show some _ = some o from h); exact ⟨by decide, _, _, c1, T1, f1, rfl, g1, e1, con _ _⟩
  | n + 2, h =>
    unfold rows2 at h
    rw [HT.get_succ] at h
    cases e : Nat.beq (Nat.mod (n + 1) 2) 0 with
    | false => rw [e] at h; cases h
    | true =>
      rw [e] at h
      cases n with
      | zero => cases e
      | succ n =>
        have hd : Nat.div (n + 1 + 1) 2 = n / 2 + 1 := Nat.add_div_right n (show 0 < 2 by decide)
        rw [hd] at h
        rw [show (Bool.rec (HT.nil.get (n / 2 + 1)) ((HT.node (some (.cells (x1.map (Value.int k1)) 0 0)) .nil .nil).get (n / 2 + 1)) true : Option XB) = (HT.node (some (.cells (x1.map (Value.int k1)) 0 0)) .nil .nil).get (n / 2 + 1) from rfl, get_leaf] at h
        cases h
/-- Three rows of numbers. -/
def rows3 (k0 : IntKind) (x0 : List Int) (k1 : IntKind) (x1 : List Int) (k2 : IntKind) (x2 : List Int) : HT := .node (some (.cells (x0.map (Value.int k0)) 0 0)) (.node (some (.cells (x1.map (Value.int k1)) 0 0)) .nil .nil) (.node (some (.cells (x2.map (Value.int k2)) 0 0)) .nil .nil)
theorem begin3 {w : World} {k0 k1 k2 : IntKind} {x0 x1 x2 : List Int} (n0 : x0 ≠ []) (n1 : x1 ≠ []) (n2 : x2 ≠ []) (h0 : ∀ (i : Nat) x, x0[i]? = some x → wcell w 0 i = some (.int k0 x)) (h1 : ∀ (i : Nat) x, x1[i]? = some x → wcell w 1 i = some (.int k1 x))
    (h2 : ∀ (i : Nat) x, x2[i]? = some x → wcell w 2 i = some (.int k2 x)) : Begin 3 (rows3 k0 x0 k1 x1 k2 x2) w := by
  obtain ⟨c0, T0, f0, g0, e0⟩ := begin_row n0 h0
  obtain ⟨c1, T1, f1, g1, e1⟩ := begin_row n1 h1
  obtain ⟨c2, T2, f2, g2, e2⟩ := begin_row n2 h2
  have con : ∀ (k : IntKind) (x : List Int), ∀ v ∈ x.map (Value.int k), conV 3 8 v = true := fun k x v hv => by
    obtain ⟨n, _, rfl⟩ := List.mem_map.1 hv
    rfl
  refine ⟨(Array.getElem?_eq_some_iff.1 g2).1, fun b o h => ?_⟩
  match b, h with
  | 0, h => obtain rfl := Option.some.inj h; exact ⟨by decide, _, _, c0, T0, f0, rfl, g0, e0, con _ _⟩
  | 1, h => obtain rfl := Option.some.inj (show some _ = some o from h); exact ⟨by decide, _, _, c1, T1, f1, rfl, g1, e1, con _ _⟩
  | 2, h => obtain rfl := Option.some.inj (show some _ = some o from h); exact ⟨by decide, _, _, c2, T2, f2, rfl, g2, e2, con _ _⟩
  | n + 3, h =>
    have hd : Nat.div (n + 2) 2 = n / 2 + 1 := Nat.add_div_right n (by decide)
    unfold rows3 at h
    rw [HT.get_succ, hd, get_leaf, get_leaf] at h
    cases e : Nat.beq (Nat.mod (n + 2) 2) 0 with
    | true => rw [e] at h; cases h
    | false => rw [e] at h; cases h
end
end Go.Eng
