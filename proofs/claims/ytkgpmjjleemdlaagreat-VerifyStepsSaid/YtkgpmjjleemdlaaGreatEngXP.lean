/- Engine, part XP: two orders of the same commands. -/
import Derived.Test.YtkgpmjjleemdlaaGreatEngXI
set_option linter.unusedSimpArgs false
set_option linter.unusedVariables false
set_option linter.unusedSectionVars false
namespace Go.Eng
/-! Two orders of the same: commands held against each other. -/
def all2 {α : Type} (f : α → α → Bool) : List α → List α → Bool
  | [], [] => true
  | a :: r, b :: r' => f a b && all2 f r r'
  | _, _ => false
theorem all2_eq {α : Type} {f : α → α → Bool} (hf : ∀ a b, f a b = true → a = b) : ∀ (l l' : List α), all2 f l l' = true → l = l'
  | [], [], _ => rfl
  | a :: r, b :: r', h => by
    simp only [all2, Bool.and_eq_true] at h
    rw [hf a b h.1, all2_eq hf r r' h.2]
  | [], _ :: _, h => by cases h
  | _ :: _, [], h => by cases h
def beqB (a b : Bool) : Bool := match a, b with
  | true, true => true
  | false, false => true
  | _, _ => false
theorem beqB_eq {a b : Bool} (h : beqB a b = true) : a = b := by cases a <;> cases b <;> first | rfl | cases h
def beqO (a b : Option Nat) : Bool := match a, b with
  | none, none => true
  | some x, some y => Nat.beq x y
  | _, _ => false
theorem beqO_eq {a b : Option Nat} (h : beqO a b = true) : a = b := by
  cases a <;> cases b <;> first | rfl | (cases h; done) | rw [Nat.eq_of_beq_eq_true h]
def beqU1 : U1 → U1 → Bool
  | .isnil k n, .isnil k' n' => Nat.beq k k' && beqB n n'
  | .un o, .un o' => decide (o = o')
  | .conv k, .conv k' => decide (k = k')
  | .cstr, .cstr => true
  | .proj i, .proj j => Nat.beq i j
  | .part s o, .part s' o' => beqO s s' && Nat.beq o o'
  | .offp k, .offp k' => Nat.beq k k'
  | .nn, .nn => true
  | .len b, .len b' => beqB b b'
  | .mkif t, .mkif t' => Nat.beq t t'
  | .s2a n, .s2a n' => Nat.beq n n'
  | _, _ => false
theorem kix_inj {k k' : IntKind} (h : Nat.beq (kix k) (kix k') = true) : k = k' := by rw [kix_eq] at h; exact of_decide_eq_true h
theorem beqU1_eq {a b : U1} (h : beqU1 a b = true) : a = b := by
  cases a <;> cases b <;> first
    | rfl
    | (cases h; done)
    | (simp only [beqU1, Bool.and_eq_true] at h; rw [Nat.eq_of_beq_eq_true h.1, beqB_eq h.2])
    | (simp only [beqU1, Bool.and_eq_true] at h; rw [beqO_eq h.1, Nat.eq_of_beq_eq_true h.2])
    | (simp only [beqU1, decide_eq_true_eq] at h; rw [h])
    | (simp only [beqU1] at h; rw [Nat.eq_of_beq_eq_true h])
    | (simp only [beqU1] at h; rw [beqB_eq h])
def beqU2 : U2 → U2 → Bool
  | .bin o, .bin o' => decide (o = o')
  | .idxAgg s e n, .idxAgg s' e' n' => beqO s s' && (Nat.beq e e' && Nat.beq n n')
  | .idxStr, .idxStr => true
  | .ixArr n e, .ixArr n' e' => Nat.beq n n' && Nat.beq e e'
  | .ixSl e, .ixSl e' => Nat.beq e e'
  | .upd o s, .upd o' s' => Nat.beq o o' && Nat.beq s s'
  | .fst1, .fst1 => true
  | .cap1, .cap1 => true
  | .mn, .mn => true
  | .mx, .mx => true
  | _, _ => false
theorem beqU2_eq {a b : U2} (h : beqU2 a b = true) : a = b := by
  cases a <;> cases b <;> first
    | rfl
    | (cases h; done)
    | (simp only [beqU2, decide_eq_true_eq] at h; rw [h])
    | (simp only [beqU2, Bool.and_eq_true] at h; rw [beqO_eq h.1, Nat.eq_of_beq_eq_true h.2.1, Nat.eq_of_beq_eq_true h.2.2])
    | (simp only [beqU2, Bool.and_eq_true] at h; rw [Nat.eq_of_beq_eq_true h.1, Nat.eq_of_beq_eq_true h.2])
    | (simp only [beqU2] at h; rw [Nat.eq_of_beq_eq_true h])
def beqV0 : Nat → Value → Value → Bool
  | 0, _, _ => false
  | n + 1, a, b => match a, b with
    | .bool x, .bool y => decide (x = y)
    | .int k x, .int k' y => decide (k = k') && decide (x = y)
    | .string x, .string y => decide (x.data.toList = y.data.toList)
    | .pointer none, .pointer none => true
    | .pointer (some ⟨b, o, none⟩), .pointer (some ⟨b', o', none⟩) => decide (b = b') && decide (o = o')
    | .slice none x y, .slice none x' y' => decide (x = x') && decide (y = y')
    | .map none, .map none => true
    | .chan (some x), .chan (some x') => decide (x = x')
    | .nilFunc, .nilFunc => true
    | .nilIface, .nilIface => true
    | .agg ⟨xs⟩, .agg ⟨ys⟩ => all2 (beqV0 n) xs ys
    | .tuple ⟨xs⟩, .tuple ⟨ys⟩ => all2 (beqV0 n) xs ys
    | _, _ => false
theorem beqV0_eq : ∀ (n : Nat) (a b : Value), beqV0 n a b = true → a = b := by
  intro n
  induction n with
  | zero => intro a b h; cases h
  | succ n ih =>
    intro a b h
    unfold beqV0 at h
    split at h
    · rw [of_decide_eq_true h]
    · simp only [Bool.and_eq_true, decide_eq_true_eq] at h
      rw [h.1, h.2]
    · rename_i x y
      obtain ⟨x⟩ := x
      obtain ⟨y⟩ := y
      have h1 : x.toList = y.toList := of_decide_eq_true h
      rw [Array.toList_inj.1 h1]
    · rfl
    · simp only [Bool.and_eq_true, decide_eq_true_eq] at h
      rw [h.1, h.2]
    · simp only [Bool.and_eq_true, decide_eq_true_eq] at h
      rw [h.1, h.2]
    · rfl
    · rw [of_decide_eq_true h]
    · rfl
    · rfl
    · rw [all2_eq ih _ _ h]
    · rw [all2_eq ih _ _ h]
    · cases h
def beqE0 : Ex → Ex → Bool
  | .var i, .var j => Nat.beq i j
  | .const u, .const v => beqV0 8 u v
  | .op1 o x, .op1 o' x' => beqU1 o o' && beqE0 x x'
  | .op2 o x y, .op2 o' x' y' => beqU2 o o' && (beqE0 x x' && beqE0 y y')
  | .op3 o x y z, .op3 o' x' y' z' => decide (o = o') && (beqE0 x x' && (beqE0 y y' && beqE0 z z'))
  | .eqx n d x y, .eqx n' d' x' y' => decide (n = n') && (decide (d = d') && (beqE0 x x' && beqE0 y y'))
  | .pick x y z, .pick x' y' z' => beqE0 x x' && (beqE0 y y' && beqE0 z z')
  | .ld sz x, .ld sz' x' => beqO sz sz' && beqE0 x x'
  | .bstr x, .bstr x' => beqE0 x x'
  | _, _ => false
theorem beqE0_eq : ∀ (a b : Ex), beqE0 a b = true → a = b := by
  intro a
  induction a with
  | var i => intro b h; cases b <;> first | (cases h; done) | (simp only [beqE0] at h; rw [Nat.eq_of_beq_eq_true h])
  | const v => intro b h; cases b <;> first | (cases h; done) | rw [beqV0_eq 8 _ _ h]
  | op1 o x ih => intro b h; cases b <;> first | (cases h; done) | (simp only [beqE0, Bool.and_eq_true] at h; rw [beqU1_eq h.1, ih _ h.2])
  | op2 o x y ih1 ih2 => intro b h; cases b <;> first | (cases h; done) | (simp only [beqE0, Bool.and_eq_true] at h; rw [beqU2_eq h.1, ih1 _ h.2.1, ih2 _ h.2.2])
  | op3 o x y z ih1 ih2 ih3 => intro b h; cases b <;> first | (cases h; done) | (simp only [beqE0, Bool.and_eq_true, decide_eq_true_eq] at h; rw [h.1, ih1 _ h.2.1, ih2 _ h.2.2.1, ih3 _ h.2.2.2])
  | eqx n d x y ih1 ih2 => intro b h; cases b <;> first | (cases h; done) | (simp only [beqE0, Bool.and_eq_true, decide_eq_true_eq] at h; rw [h.1, h.2.1, ih1 _ h.2.2.1, ih2 _ h.2.2.2])
  | pick x y z ih1 ih2 ih3 => intro b h; cases b <;> first | (cases h; done) | (simp only [beqE0, Bool.and_eq_true] at h; rw [ih1 _ h.1, ih2 _ h.2.1, ih3 _ h.2.2])
  | ld sz x ih => intro b h; cases b <;> first | (cases h; done) | (simp only [beqE0, Bool.and_eq_true] at h; rw [beqO_eq h.1, ih _ h.2])
  | bstr x ih => intro b h; cases b <;> first | (cases h; done) | (rw [ih _ h])
/-! The same, made for the kernel. -/
noncomputable def all2R {α : Type} (f : α → α → Bool) (l : List α) : List α → Bool :=
  List.rec (fun l' => List.rec true (fun _ _ _ => false) l') (fun a _ ih l' => List.rec false (fun b r' _ => Bool.rec false (ih r') (f a b)) l') l
theorem all2R_eq {α : Type} (f : α → α → Bool) : ∀ (l l' : List α), all2R f l l' = all2 f l l'
  | [], [] => rfl
  | a :: r, b :: r' => by
    show (Bool.rec false (all2R f r r') (f a b) : Bool) = (f a b && all2 f r r')
    rw [all2R_eq f r r']
    cases f a b <;> rfl
  | [], _ :: _ => rfl
  | _ :: _, [] => rfl
theorem all2_congr {α : Type} {f g : α → α → Bool} (h : ∀ a b, f a b = g a b) : ∀ (l l' : List α), all2 f l l' = all2 g l l'
  | [], [] => rfl
  | a :: r, b :: r' => by simp only [all2, h, all2_congr h r r']
  | [], _ :: _ => rfl
  | _ :: _, [] => rfl
noncomputable def beqV1 (ih : Value → Value → Bool) (a b : Value) : Bool := match a, b with
  | .bool x, .bool y => Bool.rec (Bool.rec true false y) y x
  | .int k x, .int k' y => Bool.rec false (ieq x y) (Nat.beq (kix k) (kix k'))
  | .string x, .string y => decide (x.data.toList = y.data.toList)
  | .pointer none, .pointer none => true
  | .pointer (some ⟨b, o, none⟩), .pointer (some ⟨b', o', none⟩) => Bool.rec false (Nat.beq o o') (Nat.beq b b')
  | .slice none x y, .slice none x' y' => Bool.rec false (Nat.beq y y') (Nat.beq x x')
  | .map none, .map none => true
  | .chan (some x), .chan (some x') => Nat.beq x x'
  | .nilFunc, .nilFunc => true
  | .nilIface, .nilIface => true
  | .agg ⟨xs⟩, .agg ⟨ys⟩ => all2R ih xs ys
  | .tuple ⟨xs⟩, .tuple ⟨ys⟩ => all2R ih xs ys
  | _, _ => false
noncomputable def beqV (n : Nat) : Value → Value → Bool := Nat.rec (fun _ _ => false) (fun _ ih => beqV1 ih) n
theorem beqN_dec (a b : Nat) : Nat.beq a b = decide (a = b) := by
  rw [beq_dec]
theorem rec_and (a b : Bool) : (Bool.rec false b a : Bool) = (a && b) := by cases a <;> rfl
theorem beqV_eq0 : ∀ (n : Nat) (a b : Value), beqV n a b = beqV0 n a b := by
  intro n
  induction n with
  | zero => intro a b; rfl
  | succ n ih =>
    intro a b
    show beqV1 (beqV n) a b = beqV0 (n + 1) a b
    unfold beqV1 beqV0
    split
    · rename_i x y; cases x <;> cases y <;> rfl
    · rename_i k x k' y
      rw [rec_and, kix_eq, ieq_eq]
      congr 1
    · rfl
    · rfl
    · rw [rec_and, beqN_dec, beqN_dec]
    · rw [rec_and, beqN_dec, beqN_dec]
    · rfl
    · exact beqN_dec _ _
    · rfl
    · rfl
    · rw [all2R_eq]; exact all2_congr ih _ _
    · rw [all2R_eq]; exact all2_congr ih _ _
    · rfl
theorem beqV_eq (n : Nat) (a b : Value) (h : beqV n a b = true) : a = b := beqV0_eq n a b (by rw [← beqV_eq0]; exact h)
noncomputable def beqE (a : Ex) : Ex → Bool := Ex.rec (motive := fun _ => Ex → Bool)
  (fun i b => match b with | .var j => Nat.beq i j | _ => false)
  (fun u b => match b with | .const v => beqV 8 u v | _ => false)
  (fun o _ ih b => match b with | .op1 o' x' => Bool.rec false (ih x') (beqU1 o o') | _ => false)
  (fun o _ _ ih1 ih2 b => match b with | .op2 o' x' y' => Bool.rec false (Bool.rec false (ih2 y') (ih1 x')) (beqU2 o o') | _ => false)
  (fun o _ _ _ ih1 ih2 ih3 b => match b with | .op3 o' x' y' z' => Bool.rec false (Bool.rec false (Bool.rec false (ih3 z') (ih2 y')) (ih1 x')) (decide (o = o')) | _ => false)
  (fun n d _ _ ih1 ih2 b => match b with | .eqx n' d' x' y' => Bool.rec false (Bool.rec false (Bool.rec false (ih2 y') (ih1 x')) (decide (d = d'))) (decide (n = n')) | _ => false)
  (fun _ _ _ ih1 ih2 ih3 b => match b with | .pick x' y' z' => Bool.rec false (Bool.rec false (ih3 z') (ih2 y')) (ih1 x') | _ => false)
  (fun sz _ ih b => match b with | .ld sz' x' => Bool.rec false (ih x') (beqO sz sz') | _ => false)
  (fun _ ih b => match b with | .bstr x' => ih x' | _ => false) a
theorem beqE_eq0 : ∀ (a b : Ex), beqE a b = beqE0 a b := by
  intro a
  induction a with
  | var i => intro b; cases b <;> rfl
  | const v => intro b; cases b <;> first | rfl | exact beqV_eq0 8 _ _
  | op1 o x ih => intro b; cases b <;> first | rfl | (rename_i o' x'; show (Bool.rec false (beqE x x') (beqU1 o o') : Bool) = _; rw [rec_and, ih]; rfl)
  | op2 o x y ih1 ih2 => intro b; cases b <;> first | rfl | (rename_i o' x' y'; show (Bool.rec false (Bool.rec false (beqE y y') (beqE x x')) (beqU2 o o') : Bool) = _; rw [rec_and, rec_and, ih1, ih2]; rfl)
  | op3 o x y z ih1 ih2 ih3 => intro b; cases b <;> first | rfl | (rename_i o' x' y' z'; show (Bool.rec false (Bool.rec false (Bool.rec false (beqE z z') (beqE y y')) (beqE x x')) (decide (o = o')) : Bool) = _; rw [rec_and, rec_and, rec_and, ih1, ih2, ih3]; rfl)
  | eqx n d x y ih1 ih2 => intro b; cases b <;> first | rfl | (rename_i n' d' x' y'; show (Bool.rec false (Bool.rec false (Bool.rec false (beqE y y') (beqE x x')) (decide (d = d'))) (decide (n = n')) : Bool) = _; rw [rec_and, rec_and, rec_and, ih1, ih2]; rfl)
  | pick x y z ih1 ih2 ih3 => intro b; cases b <;> first | rfl | (rename_i x' y' z'; show (Bool.rec false (Bool.rec false (beqE z z') (beqE y y')) (beqE x x') : Bool) = _; rw [rec_and, rec_and, ih1, ih2, ih3]; rfl)
  | ld sz x ih => intro b; cases b <;> first | rfl | (rename_i sz' x'; show (Bool.rec false (beqE x x') (beqO sz sz') : Bool) = _; rw [rec_and, ih]; rfl)
  | bstr x ih => intro b; cases b <;> first | rfl | exact ih _
theorem beqE_eq (a b : Ex) (h : beqE a b = true) : a = b := beqE0_eq a b (by rw [← beqE_eq0]; exact h)
/-- Every one of the first is of the second. -/
noncomputable def subE (l l' : List Ex) : Bool := l.all fun e => l'.any (beqE e)
theorem subE_mem {l l' : List Ex} (h : subE l l' = true) : ∀ e ∈ l, e ∈ l' := by
  intro e he
  obtain ⟨x, hx, hb⟩ := List.any_eq_true.1 (List.all_eq_true.1 h e he)
  rw [beqE_eq _ _ hb]; exact hx
def beqTag : Tag → Tag → Bool
  | .mk t, .mk t' => decide (t = t')
  | .cv s d, .cv s' d' => decide (s = s') && decide (d = d')
  | .sl3 t, .sl3 t' => decide (t = t')
  | .mkm t, .mkm t' => decide (t = t')
  | .look t ok, .look t' ok' => decide (t = t') && decide (ok = ok')
  | .upd t, .upd t' => decide (t = t')
  | .ext f, .ext f' => decide (f = f')
  | _, _ => false
theorem beqTag_eq {a b : Tag} (h : beqTag a b = true) : a = b := by
  cases a <;> cases b <;> first | (cases h; done) | (simp only [beqTag, Bool.and_eq_true, decide_eq_true_eq] at h; first | rw [h] | rw [h.1, h.2])
def biIx : Builtin → Nat
  | .append => 1
  | .clear => 2
  | _ => 0
/-- The same, but that the second one's list of what must stay may be longer. -/
noncomputable def atomLe : Cmd → Cmd → Bool
  | .skip, .skip => true
  | .draw, .draw => true
  | .chk a, .chk a' => subE a a'
  | .set i e, .set i' e' => decide (i = i') && beqE e e'
  | .clr l, .clr l' => decide (l = l')
  | .call d f a st, .call d' f' a' st' => decide (d = d') && (decide (f = f') && (all2 beqE a a' && subE st st'))
  | .dyn d f a st, .dyn d' f' a' st' => decide (d = d') && (beqE f f' && (all2 beqE a a' && subE st st'))
  | .bi d b ts ty a st, .bi d' b' ts' ty' a' st' => decide (d = d') && ((decide (biIx b = biIx b') && decide (biIx b ≠ 0)) && (decide (ts = ts') && (decide (ty = ty') && (all2 beqE a a' && subE st st'))))
  | .sem d g a st, .sem d' g' a' st' => decide (d = d') && (beqTag g g' && (all2 beqE a a' && subE st st'))
  | .store n x v st, .store n' x' v' st' => decide (n = n') && (beqE x x' && (beqE v v' && subE st st'))
  | .new d T e _, .new d' T' e' _ => decide (d = d') && (Nat.beq T T' && beqE e e')
  | .row d T n e _, .row d' T' n' e' _ => decide (d = d') && (Nat.beq T T' && (Nat.beq n n' && beqE e e'))
  | _, _ => false
theorem stab_sub {l l' : List Ex} (h : subE l l' = true) {env : Env} {w w' : World} (hs : Stab l' env w w') : Stab l env w w' := fun e he v hv => hs e (subE_mem h e he) v hv
theorem evs_each {env : Env} {w : World} : ∀ {es : List Ex} {vs : List Value}, evs env w es = some vs → ∀ e ∈ es, ∃ v, e.ev env w = some v
  | [], _, _, e, he => by cases he
  | a :: r, vs, h, e, he => by
    simp only [evs, Option.bind_eq_some_iff] at h
    obtain ⟨v, hv, us, hus, _⟩ := h
    rcases List.mem_cons.1 he with rfl | he
    · exact ⟨v, hv⟩
    · exact evs_each hus e he
theorem evs_all {env : Env} {w : World} : ∀ {es : List Ex}, (∀ e ∈ es, ∃ v, e.ev env w = some v) → ∃ vs, evs env w es = some vs
  | [], _ => ⟨[], rfl⟩
  | a :: r, h => by
    obtain ⟨v, hv⟩ := h a List.mem_cons_self
    obtain ⟨vs, hvs⟩ := evs_all fun e he => h e (List.mem_cons_of_mem _ he)
    exact ⟨v :: vs, by simp only [evs, hv, hvs, Option.bind_some]⟩
theorem atomLe_wp {P : Program} {c c' : Cmd} (h : atomLe c c' = true) {Q : Exit → Env → World → Prop} {env : Env} {w : World} (hw : c'.wp P Q env w) : c.wp P Q env w := by
  cases c <;> cases c' <;> try (cases h; done)
  · exact hw
  · obtain ⟨vs, hvs, hw⟩ := Ok_inv hw
    obtain ⟨us, hus⟩ := evs_all fun e he => evs_each hvs e (subE_mem (h : subE _ _ = true) e he)
    simp only [Cmd.wp, hus, Ok_some]
    exact hw
  · simp only [atomLe, Bool.and_eq_true, decide_eq_true_eq] at h
    rw [h.1, beqE_eq _ _ h.2]; exact hw
  · simp only [atomLe, decide_eq_true_eq] at h
    rw [h]; exact hw
  · exact hw
  · simp only [atomLe, Bool.and_eq_true, decide_eq_true_eq] at h
    rw [h.1, h.2.1, all2_eq beqE_eq _ _ h.2.2.1]
    obtain ⟨vs, hvs, hw⟩ := Ok_inv hw
    simp only [Cmd.wp, hvs, Ok_some]
    exact hw.mono fun v w' k => ⟨stab_sub h.2.2.2 k.1, k.2⟩
  · simp only [atomLe, Bool.and_eq_true, decide_eq_true_eq] at h
    rw [h.1, beqE_eq _ _ h.2.1, all2_eq beqE_eq _ _ h.2.2.1]
    obtain ⟨fv, hfv, hw⟩ := Ok_inv hw
    obtain ⟨vs, hvs, hw⟩ := Ok_inv hw
    simp only [Cmd.wp, hfv, hvs, Ok_some]
    exact hw.mono fun v w' k => ⟨stab_sub h.2.2.2 k.1, k.2⟩
  · rename_i d b ts ty a st d' b' ts' ty' a' st'
    simp only [atomLe, Bool.and_eq_true, decide_eq_true_eq] at h
    have hb : b = b' := by
      obtain ⟨h1, h2⟩ := h.2.1
      cases b <;> simp [biIx] at h2 <;> cases b' <;> simp [biIx] at h1 <;> rfl
    rw [h.1, hb, h.2.2.1, h.2.2.2.1, all2_eq beqE_eq _ _ h.2.2.2.2.1]
    obtain ⟨vs, hvs, hw⟩ := Ok_inv hw
    simp only [Cmd.wp, hvs, Ok_some]
    exact Result.to_mono hw fun v w' k => ⟨stab_sub h.2.2.2.2.2 k.1, k.2⟩
  · simp only [atomLe, Bool.and_eq_true, decide_eq_true_eq] at h
    rw [h.1, beqTag_eq h.2.1, all2_eq beqE_eq _ _ h.2.2.1]
    obtain ⟨vs, hvs, hw⟩ := Ok_inv hw
    simp only [Cmd.wp, hvs, Ok_some]
    exact RunTo.mono hw fun v w' k => ⟨stab_sub h.2.2.2 k.1, k.2⟩
  · simp only [atomLe, Bool.and_eq_true, decide_eq_true_eq] at h
    rw [h.1, beqE_eq _ _ h.2.1, beqE_eq _ _ h.2.2.1]
    obtain ⟨x, hx, hw⟩ := Ok_inv hw
    obtain ⟨v, hv, hw⟩ := Ok_inv hw
    obtain ⟨u, hu, hw⟩ := Ok_inv hw
    simp only [Cmd.wp, hx, hv, hu, Ok_some]
    exact ⟨stab_sub h.2.2.2 hw.1, hw.2⟩
  · simp only [atomLe, Bool.and_eq_true, decide_eq_true_eq] at h
    rw [h.1, Nat.eq_of_beq_eq_true h.2.1, beqE_eq _ _ h.2.2]
    exact hw
  · simp only [atomLe, Bool.and_eq_true, decide_eq_true_eq] at h
    rw [h.1, Nat.eq_of_beq_eq_true h.2.1, Nat.eq_of_beq_eq_true h.2.2.1, beqE_eq _ _ h.2.2.2]
    exact hw
/-- The slots that it writes. -/
def wr : Cmd → List Nat
  | .set i _ => [i]
  | .clr l => l
  | .call (some d) _ _ _ => [d]
  | .dyn (some d) _ _ _ => [d]
  | .bi (some d) _ _ _ _ _ => [d]
  | .sem (some d) _ _ _ => [d]
  | .new (some d) _ _ _ => [d]
  | .row (some d) _ _ _ _ => [d]
  | _ => []
theorem setO_keep {d : Option Nat} {env : Env} {v : Value} {i : Nat} (h : ∀ j, d = some j → i ≠ j) : (setO d env v)[i]? = env[i]? := by
  cases d with
  | none => rfl
  | some j => exact List.getElem?_set_ne (fun e => h j rfl e.symm)
theorem clr_keep {i : Nat} : ∀ (l : List Nat) (env : Env), i ∉ l → (l.foldl (fun env i => env.set i undef) env)[i]? = env[i]?
  | [], _, _ => rfl
  | a :: r, env, h => by
    rw [List.foldl_cons, clr_keep r _ (fun g => h (List.mem_cons_of_mem _ g))]
    exact List.getElem?_set_ne (fun e => h (by rw [e]; exact List.mem_cons_self))
/-- An atom leaves what it doesn't write. -/
theorem atom_keep {P : Program} {c c' : Cmd} (h : atomLe c c' = true) {Q : Exit → Env → World → Prop} {env : Env} {w : World} (hw : c.wp P Q env w) : c.wp P (fun x e u => Q x e u ∧ ∀ i, i ∉ wr c → e[i]? = env[i]?) env w := by
  have hd : ∀ (d : Option Nat) (l : List Nat), (∀ j, d = some j → j ∈ l) → ∀ (v : Value) i, i ∉ l → (setO d env v)[i]? = env[i]? := fun d l hl v i hi => setO_keep fun j hj e => hi (e ▸ hl j hj)
  cases c <;> try (cases c' <;> cases h; done)
  · exact ⟨hw, fun i _ => rfl⟩
  · obtain ⟨a, ha, hw⟩ := Ok_inv hw; simp only [Cmd.wp, ha, Ok_some]; exact ⟨hw, fun i _ => trivial⟩
  · obtain ⟨a, ha, hw⟩ := Ok_inv hw; simp only [Cmd.wp, ha, Ok_some]
    exact ⟨hw, fun i hi => List.getElem?_set_ne (fun e => hi (by rw [e]; exact List.mem_cons_self))⟩
  · exact ⟨hw, fun i hi => clr_keep _ _ hi⟩
  · exact ⟨hw, fun i _ => rfl⟩
  · rename_i d f a st
    obtain ⟨vs, hvs, hw⟩ := Ok_inv hw; simp only [Cmd.wp, hvs, Ok_some]
    exact hw.mono fun v w' k => ⟨k.1, k.2, fun i hi => hd d _ (fun j hj => by subst hj; exact List.mem_cons_self) v i hi⟩
  · rename_i d f a st
    obtain ⟨fv, hfv, hw⟩ := Ok_inv hw; obtain ⟨vs, hvs, hw⟩ := Ok_inv hw; simp only [Cmd.wp, hfv, hvs, Ok_some]
    exact hw.mono fun v w' k => ⟨k.1, k.2, fun i hi => hd d _ (fun j hj => by subst hj; exact List.mem_cons_self) v i hi⟩
  · rename_i d b ts ty a st
    obtain ⟨vs, hvs, hw⟩ := Ok_inv hw; simp only [Cmd.wp, hvs, Ok_some]
    exact Result.to_mono hw fun v w' k => ⟨k.1, k.2, fun i hi => hd d _ (fun j hj => by subst hj; exact List.mem_cons_self) v i hi⟩
  · rename_i d g a st
    obtain ⟨vs, hvs, hw⟩ := Ok_inv hw; simp only [Cmd.wp, hvs, Ok_some]
    exact RunTo.mono hw fun v w' k => ⟨k.1, k.2, fun i hi => hd d _ (fun j hj => by subst hj; exact List.mem_cons_self) v i hi⟩
  · obtain ⟨x, hx, hw⟩ := Ok_inv hw
    obtain ⟨v, hv, hw⟩ := Ok_inv hw
    obtain ⟨u, hu, hw⟩ := Ok_inv hw
    simp only [Cmd.wp, hx, hv, hu, Ok_some]
    exact ⟨hw.1, hw.2, fun i _ => trivial⟩
  · rename_i d T e st
    obtain ⟨a, ha, hw⟩ := Ok_inv hw; simp only [Cmd.wp, ha, Ok_some]
    exact ⟨hw, fun i hi => hd d _ (fun j hj => by subst hj; exact List.mem_cons_self) _ i hi⟩
  · rename_i d T n e st
    obtain ⟨a, ha, hw⟩ := Ok_inv hw; simp only [Cmd.wp, ha, Ok_some]
    exact ⟨hw, fun i hi => hd d _ (fun j hj => by subst hj; exact List.mem_cons_self) _ i hi⟩
theorem setO_len (d : Option Nat) (env : Env) (v : Value) : (setO d env v).length = env.length := by cases d <;> simp [setO]
theorem clr_length : ∀ (l : List Nat) (env : Env), (l.foldl (fun env i => env.set i undef) env).length = env.length
  | [], _ => rfl
  | a :: r, env => by rw [List.foldl_cons, clr_length r, List.length_set]
/-- An atom leaves how many slots there are. -/
theorem atom_len {P : Program} {c c' : Cmd} (h : atomLe c c' = true) {Q : Exit → Env → World → Prop} {env : Env} {w : World} (hw : c.wp P Q env w) : c.wp P (fun x e u => Q x e u ∧ e.length = env.length) env w := by
  cases c <;> try (cases c' <;> cases h; done)
  · exact ⟨hw, rfl⟩
  · obtain ⟨a, ha, hw⟩ := Ok_inv hw; simp only [Cmd.wp, ha, Ok_some]; exact ⟨hw, trivial⟩
  · obtain ⟨a, ha, hw⟩ := Ok_inv hw; simp only [Cmd.wp, ha, Ok_some]
    exact ⟨hw, List.length_set⟩
  · exact ⟨hw, clr_length _ _⟩
  · exact ⟨hw, rfl⟩
  · obtain ⟨vs, hvs, hw⟩ := Ok_inv hw; simp only [Cmd.wp, hvs, Ok_some]
    exact hw.mono fun v w' k => ⟨k.1, k.2, setO_len _ _ _⟩
  · obtain ⟨fv, hfv, hw⟩ := Ok_inv hw; obtain ⟨vs, hvs, hw⟩ := Ok_inv hw; simp only [Cmd.wp, hfv, hvs, Ok_some]
    exact hw.mono fun v w' k => ⟨k.1, k.2, setO_len _ _ _⟩
  · obtain ⟨vs, hvs, hw⟩ := Ok_inv hw; simp only [Cmd.wp, hvs, Ok_some]
    exact Result.to_mono hw fun v w' k => ⟨k.1, k.2, setO_len _ _ _⟩
  · obtain ⟨vs, hvs, hw⟩ := Ok_inv hw; simp only [Cmd.wp, hvs, Ok_some]
    exact RunTo.mono hw fun v w' k => ⟨k.1, k.2, setO_len _ _ _⟩
  · obtain ⟨x, hx, hw⟩ := Ok_inv hw
    obtain ⟨v, hv, hw⟩ := Ok_inv hw
    obtain ⟨u, hu, hw⟩ := Ok_inv hw
    simp only [Cmd.wp, hx, hv, hu, Ok_some]
    exact ⟨hw.1, hw.2, trivial⟩
  · obtain ⟨a, ha, hw⟩ := Ok_inv hw; simp only [Cmd.wp, ha, Ok_some]
    exact ⟨hw, setO_len _ _ _⟩
  · obtain ⟨a, ha, hw⟩ := Ok_inv hw; simp only [Cmd.wp, ha, Ok_some]
    exact ⟨hw, setO_len _ _ _⟩
/-- It reads none of these slots and no memory. -/
def Ex.apart (l : List Nat) : Ex → Bool
  | .var i => !(l.any fun j => decide (j = i))
  | .const _ => true
  | .op1 _ x => x.apart l
  | .op2 _ x y => x.apart l && y.apart l
  | .op3 _ x y z => x.apart l && (y.apart l && z.apart l)
  | .pick c a b => c.apart l && (a.apart l && b.apart l)
  | _ => false
theorem Ex.apart_ev {l : List Nat} {env env2 : Env} {w w2 : World} (hk : ∀ i, i ∉ l → env2[i]? = env[i]?) : ∀ (e : Ex), e.apart l = true → e.ev env2 w2 = e.ev env w := by
  intro e
  induction e with
  | var i =>
    intro h
    have hi : i ∉ l := fun hm => by
      have h2 : (l.any fun j => decide (j = i)) = true := List.any_eq_true.2 ⟨i, hm, by simp⟩
      simp only [Ex.apart, h2] at h
      cases h
    simp only [Ex.ev, hk i hi]
  | const v => intro _; rfl
  | op1 o x ih => intro h; simp only [Ex.ev, ih h]
  | op2 o x y ih1 ih2 => intro h; simp only [Ex.apart, Bool.and_eq_true] at h; simp only [Ex.ev, ih1 h.1, ih2 h.2]
  | op3 o x y z ih1 ih2 ih3 => intro h; simp only [Ex.apart, Bool.and_eq_true] at h; simp only [Ex.ev, ih1 h.1, ih2 h.2.1, ih3 h.2.2]
  | pick c a b ih1 ih2 ih3 => intro h; simp only [Ex.apart, Bool.and_eq_true] at h; simp only [Ex.ev, ih1 h.1, ih2 h.2.1, ih3 h.2.2]
  | _ => intro h; cases h
/-- What an allocation makes: a variable, a row, a slice by make (of a type; its length, its capacity). -/
inductive PK where
  | new
  | row (n : Nat)
  | mk (t : TypeId) (l c : Ex)
noncomputable def beqK : PK → PK → Bool
  | .new, .new => true
  | .row n, .row n' => Nat.beq n n'
  | .mk t l c, .mk t' l' c' => Nat.beq t t' && (beqE l l' && beqE c c')
  | _, _ => false
theorem beqK_eq {a b : PK} (h : beqK a b = true) : a = b := by
  cases a <;> cases b <;> first
    | rfl
    | (cases h; done)
    | (simp only [beqK, Bool.and_eq_true] at h; rw [Nat.eq_of_beq_eq_true h.1, beqE_eq _ _ h.2.1, beqE_eq _ _ h.2.2])
    | (simp only [beqK] at h; rw [Nat.eq_of_beq_eq_true h])
/-- An allocation: its key, its slot, its elements' type, what is made, what lies in it; of make: a zero element. -/
structure Pd where
  j : Nat
  d : Nat
  T : TypeId
  k : PK
  e : Ex
  z : List Value
def Pd.x (p : Pd) : XC := match p.k with
  | .new => .newR p.j p.d p.T p.e
  | .row n => .rowR p.j p.d p.T n p.e
  | .mk _ l c => .mkR p.j p.d p.T p.z l c
inductive LA where
  | al (p : Pd)
  | at (c : Cmd) (x : XC)
def LA.x : LA → XC
  | .al p => p.x
  | .at _ x => x
def chain : List LA → XC
  | [] => .skip
  | a :: r => .seq a.x (chain r)
structure Al where
  d : Nat
  T : TypeId
  k : PK
  e : Ex
  z : List Value
def asAlloc (E : TypeId → Option (TypeId × List Value)) : Cmd → Option Al
  | .new (some d) T e _ => some ⟨d, T, .new, e, []⟩
  | .row (some d) T n e _ => some ⟨d, T, .row n, e, []⟩
  | .sem (some d) (.mk t) [l, c] _ => match E t with
    | some (T, z) => some ⟨d, T, .mk t l c, .const (.bool true), z⟩
    | none => none
  | _ => none
noncomputable def findAl (a : Al) : List LA → Option Pd
  | [] => none
  | .al p :: r => match decide (p.d = a.d) && (decide (p.T = a.T) && (beqK p.k a.k && beqE p.e a.e)) with
    | true => some p
    | false => findAl a r
  | .at _ _ :: r => findAl a r
def takeP (j : Nat) : List Pd → Option (List Pd)
  | [] => none
  | p :: r => match decide (p.j = j) with
    | true => some r
    | false => match takeP j r with
      | some r' => some (p :: r')
      | none => none
/-- The canonical order comes to allocations that were made before. -/
def catchUp : List LA → List Pd → List LA × List Pd
  | .al p :: r, pend => match takeP p.j pend with
    | some pend' => catchUp r pend'
    | none => (.al p :: r, pend)
  | l, pend => (l, pend)
def als : List LA → List Pd
  | [] => []
  | .al p :: r => p :: als r
  | .at _ _ :: r => als r
/-- The slots of allocations that weren't made yet. -/
def unal (l : List LA) (pend : List Pd) : List Nat := ((als l).filter fun p => !(pend.any fun q => decide (q.d = p.d))).map (·.d)
/-- A check of what allocations hold. -/
noncomputable def skipC (A : List Pd) (un : List Nat) : Cmd → Bool
  | .chk es => match A with
    | [] => false
    | _ => es.all fun e => (A.any fun p => beqE p.e e) && e.apart un
  | _ => false
def Pd.ap (p : Pd) (l : List Nat) : Bool := p.e.apart l
noncomputable def linA (a : Cmd) (pend : List Pd) (l : List LA) : Option (List Pd × List LA) := match catchUp l pend with
  | (.at c x :: l', pend') => match atomLe a c with
    | true => some (pend', l')
    | false => none
  | _ => none
noncomputable def linS (E : TypeId → Option (TypeId × List Value)) (A : List Pd) (a : Cmd) (pend : List Pd) (l : List LA) : Option (List Pd × List LA) :=
  match skipC A (unal l pend) a with
  | true => some (pend, l)
  | false => match asAlloc E a with
    | some al => match findAl al l with
      | some p => match (pend.all fun q => !(decide (q.d = p.d))) && p.e.apart (unal l pend) with
        | true => some (p :: pend, l)
        | false => none
      | none => linA a pend l
    | none => linA a pend l
noncomputable def linE (r : Option (List Pd × List LA)) : Bool := match r with
  | some (pend, l) => match catchUp l pend with
    | ([], []) => true
    | _ => false
  | none => false
noncomputable def lin (E : TypeId → Option (TypeId × List Value)) (A : List Pd) : Cmd → List Pd → List LA → Bool
  | .alt a b, pend, l => lin E A a pend l && lin E A b pend l
  | .seq a b, pend, l => match linS E A a pend l with
    | some (pend', l') => lin E A b pend' l'
    | none => false
  | c, pend, l => linE (linS E A c pend l)
def allWr : List LA → List Nat
  | [] => []
  | .al p :: r => p.d :: allWr r
  | .at c _ :: r => wr c ++ allWr r
def isAlloc : Cmd → Bool
  | .new .. => true
  | .row .. => true
  | _ => false
def headC : Cmd → Cmd
  | .seq a _ => headC a
  | .alt a _ => headC a
  | c => c
/-- The atoms of the order that is taken: allocations late. -/
def leafC : Cmd → List Cmd
  | .seq a b => leafC a ++ leafC b
  | .alt a b => match isAlloc (headC a) && !(isAlloc (headC b)) with
    | true => leafC b
    | false => leafC a
  | c => [c]
/-- What an allocation holds, a nil pointer in place of what other allocations told. -/
def thin (ds : List Nat) : Ex → Option Ex
  | .op2 (.upd o n) a (.var d) => match ds.any fun j => decide (j = d) with
    | true => match n, thin ds a with
      | 1, some a' => some (.op2 (.upd o 1) a' (.const (.pointer none)))
      | _, _ => none
    | false => match thin ds a with
      | some a' => some (.op2 (.upd o n) a' (.var d))
      | none => none
  | .op2 (.upd o n) a b => match b.apart ds, thin ds a with
    | true, some a' => some (.op2 (.upd o n) a' b)
    | _, _ => none
  | e => match e.apart ds with
    | true => some e
    | false => none
/-- Which allocations may be made early. -/
def isAl (ds bad : List Nat) (a : Al) : Bool := (match thin ds a.e with
  | some e' => e'.apart bad && e'.apart ds
  | none => false) && (match a.k with
  | .mk _ l c => l.apart (bad ++ ds) && c.apart (bad ++ ds)
  | _ => true)
def mkLA (E : TypeId → Option (TypeId × List Value)) (f : Cmd → Option XC) : List Nat → List Nat → Nat → List Cmd → Option (List LA)
  | _, _, _, [] => some []
  | ds, bad, j, c :: r => match asAlloc E c with
    | some a => match isAl ds bad a with
      | true => match mkLA E f ds bad (j + 1) r with
        | some l => some (.al ⟨j, a.d, a.T, a.k, a.e, a.z⟩ :: l)
        | none => none
      | false => match f c, mkLA E f (ds.filter fun d => !(decide (d = a.d))) (a.d :: bad) j r with
        | some x, some l => some (.at c x :: l)
        | _, _ => none
    | none => match f c, mkLA E f ds bad j r with
      | some x, some l => some (.at c x :: l)
      | _, _ => none
def alSlots (E : TypeId → Option (TypeId × List Value)) (l : List Cmd) : List Nat := l.filterMap fun c => (asAlloc E c).map (·.d)
def atSlots (E : TypeId → Option (TypeId × List Value)) (l : List Cmd) : List Nat := (l.filter fun c => (asAlloc E c).isNone).flatMap wr
def pairB (l : List Nat) : Bool := match l with
  | [] => true
  | a :: r => !(r.any fun b => decide (a = b)) && pairB r
def atomX : XC → Bool
  | .skip => true
  | .chk _ => true
  | .set _ _ => true
  | .clr _ => true
  | .call _ _ _ _ => true
  | .dyn _ _ _ _ => true
  | .app _ _ _ _ _ _ => true
  | .clear _ _ _ => true
  | .mk _ _ _ _ _ _ => true
  | .mkmap _ _ _ => true
  | .look _ _ _ _ _ _ _ => true
  | .add64 _ _ _ _ _ => true
  | .upd _ _ _ _ _ => true
  | .store _ _ _ _ => true
  | .new _ _ _ => true
  | .row _ _ _ _ => true
  | _ => false
def oW : Option Nat → List Nat
  | none => []
  | some d => [d]
def wrX : XC → List Nat
  | .set i _ => [i]
  | .clr l => l
  | .call d _ _ _ => oW d
  | .dyn d _ _ _ => oW d
  | .app d _ _ _ _ _ => oW d
  | .mk d _ _ _ _ _ => oW d
  | .mkmap d _ _ => oW d
  | .look d _ _ _ _ _ _ => oW d
  | .add64 d _ _ _ _ => oW d
  | .new d _ _ => oW d
  | .row d _ _ _ => oW d
  | _ => []
def free2 (ds l : List Nat) : Bool := ds.all fun d => !(l.any fun j => decide (j = d))
/-- What is asked of the atoms of an order: they write none of these slots. -/
def atsOk (ds : List Nat) : List LA → Bool
  | [] => true
  | .al _ :: r => atsOk ds r
  | .at c x :: r => (atomX x && (free2 ds (wrX x) && free2 ds (wr c))) && atsOk ds r
noncomputable def dropC (A : List Pd) : LA → Bool
  | .at c _ => !(skipC A [] c)
  | .al _ => true
/-- make's length and capacity are in order. -/
def mkE (l c : Ex) : Ex := .pick (.bin .leq l c) (.pick (.bin .leq c (.const (.int .i64 100000))) (.pick (.bin .leq (.const (.int .i64 0)) l) (.const (.bool true)) (.op1 .nn (.const (.bool true)))) (.op1 .nn (.const (.bool true)))) (.op1 .nn (.const (.bool true)))
def Pd.cks (ds : List Nat) (p : Pd) : List Ex := (thin ds p.e).toList ++ match p.k with
  | .mk _ l c => [mkE l c]
  | _ => []
def Pd.okB (G : Nat) (ds W : List Nat) (n : Nat) (p : Pd) : Bool := p.e.kc G && ((match thin ds p.e with
  | some e' => e'.apart W
  | none => false) && (decide (p.j < n) && match p.k with
  | .mk _ l c => l.kc G && (c.kc G && (l.apart W && c.apart W))
  | _ => true))
def setAll : List Nat → XC
  | [] => .skip
  | d :: r => .seq (.set d (.const (.bool true))) (setAll r)
noncomputable def altX (G : Nat) (E : TypeId → Option (TypeId × List Value)) (f : Cmd → Option XC) (c : Cmd) : Option XC := match mkLA E f (alSlots E (leafC c)) (atSlots E (leafC c)) 0 (leafC c) with
  | some l0 => match l0.filter (dropC (als l0)) with
    | l => match lin E (als l) c [] l && (atsOk ((als l).map (·.d)) l && (pairB ((als l).map (·.j)) && (pairB ((als l).map (·.d)) && ((als l).all (·.okB G ((als l).map (·.d)) (allWr l) (als l).length))))) with
      | true => some (.seq (.resv (als l).length) (.seq (setAll ((als l).map (·.d))) (.seq (.chk ((als l).map fun p => .var p.d)) (.seq (.clr ((als l).map (·.d))) (.seq (.chk ((als l).flatMap (·.cks ((als l).map (·.d))))) (chain l))))))
      | false => none
  | none => none
def EqD.noPtr : EqD → Bool
  | .ptr => false
  | .cons _ _ d r => d.noPtr && r.noPtr
  | _ => true
/-- Reads no memory. -/
def Ex.noLd : Ex → Bool
  | .var _ => true
  | .const _ => true
  | .op1 _ x => x.noLd
  | .op2 _ x y => x.noLd && y.noLd
  | .op3 _ x y z => x.noLd && (y.noLd && z.noLd)
  | .eqx _ d x y => d.noPtr && (x.noLd && y.noLd)
  | .pick c a b => c.noLd && (a.noLd && b.noLd)
  | .ld _ _ => false
  | .bstr _ => false
/-- What must stay: a load from a place that no memory tells. -/
def stOk (G : Nat) : Ex → Bool
  | .ld _ a => a.kc G && a.noLd
  | e => e.noLd

def gd {α : Type} (b : Bool) (x : α) : Option α := match b with
  | true => some x
  | false => none
/-- Of a slice type: its elements' type, how many cells, the zero value's. -/
def elT (P : Program) (t : TypeId) : Option (TypeId × Nat × List Value) := match P.underlying t with
  | some (.slice e) => match P.info? e with
    | some i => match i.zero with
      | some z => gd (Nat.beq z.cells.size i.size && Nat.ble i.bytes 65536) (e, i.size, z.cells.toList)
      | none => none
    | none => none
  | _ => none
def isSl (P : Program) (t : TypeId) : Bool := match P.underlying t with
  | some (.slice _) => true
  | _ => false
/-- Of a map type whose keys are numbers: their kind, the elements' zero value. -/
def mapT (P : Program) (t : TypeId) : Option (IntKind × Value) := match P.underlying t with
  | some (.map k e) => match P.underlying k, P.info? e with
    | some (.int kk), some i => match i.zero with
      | some z => some (kk, z)
      | none => none
    | _, _ => none
  | _ => none
def biX (P : Program) (G : Nat) (d : Option Nat) (b : Builtin) (ats : List TypeId) (a st : List Ex) : Option XC := match b, ats, a with
  | .append, [t, t2], [x, y] => match elT P t with
    | some (e, sz, _) => gd (isSl P t2 && (x.kc G && (y.kc G && st.all (stOk G)))) (.app d e sz x y st)
    | none => none
  | .clear, [t], [x] => match d, elT P t with
    | none, some (_, _, zl) => gd (zl.all (conV G 8) && (zl.all (·.oneCell') && (x.kc G && st.all (stOk G)))) (.clear zl x st)
    | _, _ => none
  | .copy, [t, t2], [x, y] => match elT P t with
    | some (_, sz, _) => gd (decide (sz = 1) && (x.kc G && (y.kc G && st.all (stOk G)))) (.copy d 1 x y st)
    | none => none
  | .len, [t], [x] => match mapT P t with
    | some _ => gd (x.kc G && st.all (stOk G)) (.mlen d x st)
    | none => none
  | .delete, [t, _], [x, i] => match d, mapT P t with
    | none, some (k, _) => gd (x.kc G && (i.kc G && st.all (stOk G))) (.mdel k x i st)
    | _, _ => none
  | _, _, _ => none
def semX (P : Program) (G A : Nat) (d : Option Nat) (g : Tag) (a st : List Ex) : Option XC := match g, a with
  | .mk t, [l, c] => match elT P t with
    | some (e, _, zl) => gd (zl.all (conV G 8) && (l.kc G && (c.kc G && st.all (stOk G)))) (.mk d e zl l c st)
    | none => none
  | .mkm t, [] => match mapT P t with
    | some (k, _) => gd (st.all (stOk G)) (.mkmap d k st)
    | none => none
  | .cv t t2, [x] => match P.underlying t, P.underlying t2 with
    | some .string, some (.slice e) => match P.underlying e with
      | some (.int .u8) => gd (x.kc G && st.all (stOk G)) (.cvs d x st)
      | _ => none
    | _, _ => none
  | .look t ok, [x, i] => match mapT P t with
    | some (k, z) => gd (conV G 8 z && (x.kc G && (i.kc G && st.all (stOk G)))) (.look d z ok k x i st)
    | none => none
  | .upd t, [x, i, v] => match d, mapT P t with
    | none, some (k, _) => gd (x.kc G && (i.kc G && (v.kc G && st.all (stOk G)))) (.upd k x i v st)
    | _, _ => none
  | .sl3 t, [x, l, h, m] => match d, elT P t with
    | none, some _ => gd (x.kc G && (l.kc G && (h.kc G && (m.kc G && st.all (stOk G))))) (.sl3n x l h m st)
    | _, _ => none
  | .ext f, [x, y, c] => gd (Nat.beq f A && (x.kc G && (y.kc G && (c.kc G && st.all (stOk G))))) (.add64 d x y c st)
  | _, _ => none
def toA (P : Program) (G A : Nat) : Cmd → Option XC
  | .skip => some .skip
  | .chk es => gd (es.all (·.kc G)) (.chk es)
  | .set i e => gd (e.kc G) (.set i e)
  | .clr l => some (.clr l)
  | .draw => some .skip
  | .call d f a st => gd (a.all (·.kc G) && st.all (stOk G)) (.call d f a st)
  | .dyn d f a st => gd (f.kc G && (a.all (·.kc G) && st.all (stOk G))) (.dyn d f a st)
  | .bi d b ats ty a st => biX P G d b ats a st
  | .sem d g a st => semX P G A d g a st
  | .die => none
  | .store n x v st => gd (x.kc G && (v.kc G && st.all (stOk G))) (.store n x v st)
  | .new d T e _ => gd (e.kc G) (.new d T e)
  | .row d T n e _ => gd (e.kc G) (.row d T n e)
  | .exit id => some (.exit id)
  | .ret => some .ret
  | _ => none
/-- What the interpreter doesn't know: a run that comes to it fails. -/
def badX : XC := .bytes none 0 (.var 0)
def orBad (x : Option XC) : Option XC := match x with
  | some x => some x
  | none => some badX
/-- Of a slice type: its elements' type and zero value, as make wants them. -/
def elZ (P : Program) (G : Nat) (t : TypeId) : Option (TypeId × List Value) := match elT P t with
  | some (e, _, zl) => gd (zl.all (conV G 8)) (e, zl)
  | none => none
noncomputable def toX (P : Program) (G A : Nat) : Cmd → Option XC
  | .seq a b => match toX P G A a with
    | some x => match toX P G A b with
      | some y => some (.seq x y)
      | none => none
    | none => none
  | .alt a b => orBad (altX G (elZ P G) (toA P G A) (.alt a b))
  | .cond e a b => match e.kc G with
    | true => match toX P G A a with
      | some x => match toX P G A b with
        | some y => some (.cond e x y)
        | none => none
      | none => none
    | false => some badX
  | .block id a => match toX P G A a with
    | some x => some (.block id x)
    | none => none
  | .loop ks a => match toX P G A a with
    | some x => some (.loop ks x)
    | none => none
  | c => orBad (toA P G A c)

def maskX : List Nat → Nat → Env → Env
  | _, _, [] => []
  | [], i, v :: r => undef :: maskX [] (i + 1) r
  | j :: ks, i, v :: r => if j = i then v :: maskX ks (i + 1) r else undef :: maskX (j :: ks) (i + 1) r
def updL (n : Int) (v : Value) : List (Int × Value) → List (Int × Value)
  | [] => [(n, v)]
  | e :: r => if n = e.1 then (e.1, v) :: r else e :: updL n v r
def AddOk (P : Program) (A : FuncId) : Prop := ∀ (x y c : Nat) (w : World), c ≤ 1 → (callFunc A #[.int .u64 x, .int .u64 y, .int .u64 c]).run P w =
  .ok (.value (.tuple #[.int .u64 (((x + y + c) % 18446744073709551616 : Nat) : Int), .int .u64 (((x + y + c) / 18446744073709551616 : Nat) : Int)])) w
/-- Does a run tell just this value? -/
noncomputable def tells (v : Value) (r : XR) : Bool := XR.rec false (fun u _ _ _ => beqV (nat_lit 3) u v) r
end Go.Eng
