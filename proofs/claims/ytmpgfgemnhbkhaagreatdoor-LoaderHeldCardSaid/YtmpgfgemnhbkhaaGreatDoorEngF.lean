/- Engine, part F: that the command's precondition is enough for the code: lemmas on expressions, checks, paths. -/
import Derived.Test.YtmpgfgemnhbkhaaGreatDoorEngE
set_option linter.unusedSimpArgs false
set_option linter.unusedVariables false
namespace Go.Eng

theorem posV_spec : ∀ {V : List Nat} {t i : Nat}, posV V t = some i → i < V.length ∧ V[i]? = some t
  | [], t, i, h => by simp [posV] at h
  | x :: r, t, i, h => by
    simp only [posV] at h
    split at h
    · rename_i hx; simp at h; subst h; subst hx; simp
    · obtain ⟨j, hj, rfl⟩ := map_inv h
      obtain ⟨h1, h2⟩ := posV_spec hj
      exact ⟨by simp; omega, by simpa using h2⟩

theorem posV_inj {V : List Nat} {t t' i : Nat} (h : posV V t = some i) (h' : posV V t' = some i) : t = t' := by
  have h1 := (posV_spec h).2
  have h2 := (posV_spec h').2
  rw [h1] at h2
  exact Option.some.inj h2

theorem valBeq_eq {a b : Value} (h : valBeq a b = true) : a = b := by
  unfold valBeq at h
  split at h <;> simp_all

theorem Ex.beq_eq : ∀ {a b : Ex}, a.beq b = true → a = b := by
  intro a
  induction a with
  | var i => intro b h; cases b <;> simp [Ex.beq] at h; rw [h]
  | const v => intro b h; cases b <;> simp [Ex.beq] at h; rw [valBeq_eq h]
  | op1 o x ih => intro b h; cases b <;> simp [Ex.beq] at h; rw [h.1, ih h.2]
  | op2 o x y ih1 ih2 => intro b h; cases b <;> simp [Ex.beq] at h; rw [h.1.1, ih1 h.1.2, ih2 h.2]
  | op3 o x y z ih1 ih2 ih3 => intro b h; cases b <;> simp [Ex.beq] at h; rw [h.1.1.1, ih1 h.1.1.2, ih2 h.1.2, ih3 h.2]
  | eqx n d x y ih1 ih2 => intro b h; cases b <;> simp [Ex.beq] at h; rw [h.1.1.1, h.1.1.2, ih1 h.1.2, ih2 h.2]
  | pick c a b ih1 ih2 ih3 => intro b h; cases b <;> simp [Ex.beq] at h; rw [ih1 h.1.1, ih2 h.1.2, ih3 h.2]
  | ld s x ih => intro b h; cases b <;> simp [Ex.beq] at h; rw [h.1, ih h.2]
  | bstr x ih => intro b h; cases b <;> simp [Ex.beq] at h; rw [ih h]

def Fine (env : Env) (w : World) (e : Ex) : Prop := ∃ v, e.ev env w = some v

theorem isC_fine {e : Ex} (h : isC e = true) (env : Env) (w : World) : Fine env w e := by
  cases e <;> simp [isC] at h
  exact ⟨_, rfl⟩

theorem inside_fine {env : Env} {w : World} : ∀ (c e : Ex), inside e c = true → Fine env w c → Fine env w e := by
  intro c
  induction c with
  | var i =>
    intro e h hf
    simp only [inside, Bool.or_eq_true] at h
    rcases h with h | h
    · rw [Ex.beq_eq h]; exact hf
    · exact isC_fine h env w
  | const v =>
    intro e h hf
    simp only [inside, Bool.or_eq_true] at h
    rcases h with h | h
    · rw [Ex.beq_eq h]; exact hf
    · exact isC_fine h env w
  | op1 o x ih =>
    intro e h hf
    simp only [inside, Bool.or_eq_true] at h
    rcases h with h | h
    · rw [Ex.beq_eq h]; exact hf
    · obtain ⟨v, hv⟩ := hf; simp only [Ex.ev] at hv; obtain ⟨u, hu, hv⟩ := bind_inv hv; exact ih e h ⟨u, hu⟩
  | op2 o x y ih1 ih2 =>
    intro e h hf
    simp only [inside, Bool.or_eq_true] at h
    rcases h with (h | h) | h
    · rw [Ex.beq_eq h]; exact hf
    · obtain ⟨v, hv⟩ := hf; simp only [Ex.ev] at hv; obtain ⟨u, hu, hv⟩ := bind_inv hv; exact ih1 e h ⟨u, hu⟩
    · obtain ⟨v, hv⟩ := hf; simp only [Ex.ev] at hv; obtain ⟨u, hu, hv⟩ := bind_inv hv; obtain ⟨u2, hu2, hv⟩ := bind_inv hv; exact ih2 e h ⟨u2, hu2⟩
  | op3 o x y z ih1 ih2 ih3 =>
    intro e h hf
    simp only [inside, Bool.or_eq_true] at h
    rcases h with ((h | h) | h) | h
    · rw [Ex.beq_eq h]; exact hf
    · obtain ⟨v, hv⟩ := hf; simp only [Ex.ev] at hv; obtain ⟨u, hu, hv⟩ := bind_inv hv; exact ih1 e h ⟨u, hu⟩
    · obtain ⟨v, hv⟩ := hf; simp only [Ex.ev] at hv; obtain ⟨u, hu, hv⟩ := bind_inv hv; obtain ⟨u2, hu2, hv⟩ := bind_inv hv; exact ih2 e h ⟨u2, hu2⟩
    · obtain ⟨v, hv⟩ := hf; simp only [Ex.ev] at hv; obtain ⟨u, hu, hv⟩ := bind_inv hv; obtain ⟨u2, hu2, hv⟩ := bind_inv hv; obtain ⟨u3, hu3, hv⟩ := bind_inv hv; exact ih3 e h ⟨u3, hu3⟩
  | eqx n d x y ih1 ih2 =>
    intro e h hf
    simp only [inside, Bool.or_eq_true] at h
    rcases h with (h | h) | h
    · rw [Ex.beq_eq h]; exact hf
    · obtain ⟨v, hv⟩ := hf; simp only [Ex.ev] at hv; obtain ⟨u, hu, hv⟩ := bind_inv hv; exact ih1 e h ⟨u, hu⟩
    · obtain ⟨v, hv⟩ := hf; simp only [Ex.ev] at hv; obtain ⟨u, hu, hv⟩ := bind_inv hv; obtain ⟨u2, hu2, hv⟩ := bind_inv hv; exact ih2 e h ⟨u2, hu2⟩
  | pick c a b ihc iha ihb =>
    intro e h hf
    simp only [inside, Bool.or_eq_true] at h
    rcases h with (h | h) | h
    · rw [Ex.beq_eq h]; exact hf
    · obtain ⟨v, hv⟩ := hf; simp only [Ex.ev] at hv; obtain ⟨u, hu, hv⟩ := bind_inv hv; exact ihc e h ⟨u, hu⟩
    · cases e <;> simp at h
      rename_i g x y
      obtain ⟨hg, h⟩ := h
      have hg' := Ex.beq_eq hg
      subst hg'
      obtain ⟨v, hv⟩ := hf
      simp only [Ex.ev] at hv
      obtain ⟨u, hu, hv⟩ := bind_inv hv
      cases u <;> simp only [pickV, reduceCtorEq] at hv
      rename_i bb
      rcases h with ⟨hy, h⟩ | ⟨hx, h⟩
      · cases bb
        · obtain ⟨r, hr⟩ := isC_fine hy env w
          exact ⟨r, by simp [Ex.ev, hu, pickV, hr]⟩
        · obtain ⟨r, hr⟩ := iha x h ⟨v, by simpa using hv⟩
          exact ⟨r, by simp [Ex.ev, hu, pickV, hr]⟩
      · cases bb
        · obtain ⟨r, hr⟩ := ihb y h ⟨v, by simpa using hv⟩
          exact ⟨r, by simp [Ex.ev, hu, pickV, hr]⟩
        · obtain ⟨r, hr⟩ := isC_fine hx env w
          exact ⟨r, by simp [Ex.ev, hu, pickV, hr]⟩
  | ld s x ih =>
    intro e h hf
    simp only [inside, Bool.or_eq_true] at h
    rcases h with h | h
    · rw [Ex.beq_eq h]; exact hf
    · obtain ⟨v, hv⟩ := hf; simp only [Ex.ev] at hv; obtain ⟨u, hu, hv⟩ := bind_inv hv; exact ih e h ⟨u, hu⟩
  | bstr x ih =>
    intro e h hf
    simp only [inside, Bool.or_eq_true] at h
    rcases h with h | h
    · rw [Ex.beq_eq h]; exact hf
    · obtain ⟨v, hv⟩ := hf; simp only [Ex.ev] at hv; obtain ⟨u, hu, hv⟩ := bind_inv hv; exact ih e h ⟨u, hu⟩

def AllFine (env : Env) (w : World) (l : List Ex) : Prop := ∀ e ∈ l, Fine env w e

theorem reduce_fine {env : Env} {w : World} : ∀ (l cov : List Ex), AllFine env w (reduce l cov) → AllFine env w cov → AllFine env w l
  | [], cov, _, _ => by intro e he; cases he
  | x :: r, cov, h, hc => by
    simp only [reduce] at h
    split at h
    · rename_i hx
      have hr := reduce_fine r cov h hc
      intro e he
      rcases List.mem_cons.1 he with rfl | he
      · simp only [Bool.or_eq_true, List.any_eq_true] at hx
        rcases hx with hx | ⟨c, hc1, hc2⟩
        · exact isC_fine hx env w
        · exact inside_fine c _ hc2 (hc c hc1)
      · exact hr e he
    · have hx : Fine env w x := h x (by simp)
      have hr := reduce_fine r (x :: cov) (fun e he => h e (by simp [he])) (fun e he => by
        rcases List.mem_cons.1 he with rfl | he
        · exact hx
        · exact hc e he)
      intro e he
      rcases List.mem_cons.1 he with rfl | he
      · exact hx
      · exact hr e he

theorem evs_fine {env : Env} {w : World} : ∀ (l : List Ex) {vs : List Value}, evs env w l = some vs → AllFine env w l
  | [], _, _ => by intro e he; cases he
  | x :: r, vs, h => by
    simp only [evs] at h
    obtain ⟨u, hu, h⟩ := bind_inv h
    obtain ⟨us, hus, h⟩ := bind_inv h
    intro e he
    rcases List.mem_cons.1 he with rfl | he
    · exact ⟨u, hu⟩
    · exact evs_fine r hus e he
theorem fine_evs {env : Env} {w : World} : ∀ (l : List Ex), AllFine env w l → ∃ vs, evs env w l = some vs
  | [], _ => ⟨[], rfl⟩
  | x :: r, h => by
    obtain ⟨u, hu⟩ := h x (by simp)
    obtain ⟨us, hus⟩ := fine_evs r fun e he => h e (by simp [he])
    exact ⟨u :: us, by simp [evs, hu, hus]⟩

/-! What an expression hangs on. -/
theorem ev_set {env : Env} {w : World} {i : Nat} {v : Value} : ∀ (e : Ex), e.uses i = false → e.ev (env.set i v) w = e.ev env w := by
  intro e
  induction e with
  | var j => intro h; simp [Ex.uses] at h; simp only [Ex.ev]; rw [List.getElem?_set_ne h]
  | const c => intro h; rfl
  | op1 o x ih => intro h; simp only [Ex.uses] at h; simp only [Ex.ev, ih h]
  | op2 o x y ih1 ih2 => intro h; simp only [Ex.uses, Bool.or_eq_false_iff] at h; simp only [Ex.ev, ih1 h.1, ih2 h.2]
  | op3 o x y z ih1 ih2 ih3 => intro h; simp only [Ex.uses, Bool.or_eq_false_iff] at h; simp only [Ex.ev, ih1 h.1.1, ih2 h.1.2, ih3 h.2]
  | eqx n d x y ih1 ih2 => intro h; simp only [Ex.uses, Bool.or_eq_false_iff] at h; simp only [Ex.ev, ih1 h.1, ih2 h.2]
  | pick c a b ih1 ih2 ih3 => intro h; simp only [Ex.uses, Bool.or_eq_false_iff] at h; simp only [Ex.ev, ih1 h.1.1, ih2 h.1.2, ih3 h.2]
  | ld s x ih => intro h; simp only [Ex.uses] at h; simp only [Ex.ev, ih h]
  | bstr x ih => intro h; simp only [Ex.uses] at h; simp only [Ex.ev, ih h]

theorem ev_world {env : Env} (w w' : World) : ∀ (e : Ex), e.dep = false → e.ev env w = e.ev env w' := by
  intro e
  induction e with
  | var j => intro h; rfl
  | const c => intro h; rfl
  | op1 o x ih => intro h; simp only [Ex.dep] at h; simp only [Ex.ev, ih h]
  | op2 o x y ih1 ih2 => intro h; simp only [Ex.dep, Bool.or_eq_false_iff] at h; simp only [Ex.ev, ih1 h.1, ih2 h.2]
  | op3 o x y z ih1 ih2 ih3 => intro h; simp only [Ex.dep, Bool.or_eq_false_iff] at h; simp only [Ex.ev, ih1 h.1.1, ih2 h.1.2, ih3 h.2]
  | eqx n d x y ih1 ih2 => intro h; simp [Ex.dep] at h
  | pick c a b ih1 ih2 ih3 => intro h; simp only [Ex.dep, Bool.or_eq_false_iff] at h; simp only [Ex.ev, ih1 h.1.1, ih2 h.1.2, ih3 h.2]
  | ld s x ih => intro h; simp [Ex.dep] at h
  | bstr x ih => intro h; simp [Ex.dep] at h

theorem ev_heap {env : Env} {w w' : World} (hh : w.heap = w'.heap) (e : Ex) : e.ev env w = e.ev env w' := by
  have h1 : HeapLe w w' := fun b o h => by rw [← hh]; exact h
  have h2 : HeapLe w' w := fun b o h => by rw [hh]; exact h
  cases ha : e.ev env w with
  | some v => rw [ev_mono h1 e ha]
  | none =>
    cases hb : e.ev env w' with
    | none => rfl
    | some v => rw [ev_mono h2 e hb] at ha; cases ha

/-! Paths. -/
def PathHolds (tmps : Array Value) (p : List (Nat × Bool)) : Prop := ∀ x ∈ p, tmps.getD x.1 undef = .bool x.2

theorem pathHolds_sub {tmps : Array Value} {p q : List (Nat × Bool)} (h : isPre p q = true) (hq : PathHolds tmps q) : PathHolds tmps p := by
  intro x hx
  unfold isPre at h
  rw [List.all_eq_true] at h
  have := h x hx
  exact hq x (by simpa using this)

theorem pathHolds_append {tmps : Array Value} {p q : List (Nat × Bool)} : PathHolds tmps (p ++ q) ↔ PathHolds tmps p ∧ PathHolds tmps q := by
  constructor
  · intro h; exact ⟨fun x hx => h x (by simp [hx]), fun x hx => h x (by simp [hx])⟩
  · rintro ⟨h1, h2⟩ x hx
    rcases List.mem_append.1 hx with hx | hx
    · exact h1 x hx
    · exact h2 x hx

structure EntOk (env : Env) (w : World) (tmps : Array Value) (en : Ent) : Prop where
  yes : PathHolds tmps en.path → ∀ v, en.ex.ev env w = some v → tmps.getD en.tmp undef = v
  no : ¬ PathHolds tmps en.path → tmps.getD en.tmp undef = undef

structure Inv (V : List Nat) (N : Nat) (s : List Ent) (env : Env) (w : World) (tmps : Array Value) : Prop where
  len : env.length = V.length
  size : tmps.size = N
  agree : ∀ t i v, posV V t = some i → env[i]? = some v → isUndef v = true ∨ tmps.getD t undef = v
  ents : ∀ en ∈ s, EntOk env w tmps en

section
variable {V : List Nat} {N : Nat} {s : List Ent} {env : Env} {w : World}

theorem findE_spec {t : Nat} {en : Ent} (h : findE s t = some en) : en ∈ s ∧ en.tmp = t := by
  unfold findE at h
  exact ⟨List.mem_of_find?_eq_some h, by simpa using List.find?_some h⟩

theorem lookT_spec {tmps : Array Value} (inv : Inv V N s env w tmps) {p : List (Nat × Bool)} (hp : PathHolds tmps p) {t : Nat} {e : Ex} {v : Value}
    (h : lookT V s p t = some e) (hv : e.ev env w = some v) : tmps.getD t undef = v := by
  have slot : (posV V t).map Ex.var = some e → tmps.getD t undef = v := by
    intro h
    obtain ⟨i, hi, rfl⟩ := map_inv h
    simp only [Ex.ev] at hv
    obtain ⟨u, hu, hv⟩ := bind_inv hv
    unfold varV at hv
    split at hv <;> simp at hv
    subst hv
    rcases inv.agree t i u hi hu with h1 | h1
    · simp_all
    · exact h1
  unfold lookT at h
  split at h
  · rename_i en hen
    split at h
    · simp at h
      subst h
      obtain ⟨hm, rfl⟩ := findE_spec hen
      exact (inv.ents en hm).yes (pathHolds_sub ‹_› hp) v hv
    · exact slot h
  · exact slot h

theorem look_rel {a : Act} (inv : Inv V N s env w a.tmps) {p : List (Nat × Bool)} (hp : PathHolds a.tmps p) : Rel (look V s p) a.eval env w := by
  intro x e v h hv
  cases x with
  | tmp t => exact lookT_spec inv hp h hv
  | const c => simp [look] at h; subst h; simp [Ex.ev] at hv; exact hv
  | global g => simp [look] at h; subst h; simp [Ex.ev] at hv; exact hv
  | func f => simp [look] at h; subst h; simp [Ex.ev] at hv; exact hv

theorem wrapP_spec {tmps : Array Value} (inv : Inv V N s env w tmps) : ∀ (r pre : List (Nat × Bool)) (e x : Ex) (u : Value),
    wrapP V s pre r e = some x → PathHolds tmps pre → x.ev env w = some u →
    (PathHolds tmps (pre ++ r) ∧ e.ev env w = some u) ∨ (¬ PathHolds tmps (pre ++ r) ∧ u = .bool false)
  | [], pre, e, x, u, h, hp, hu => by
    simp [wrapP] at h; subst h
    exact .inl ⟨by simpa using hp, hu⟩
  | (t, b) :: r, pre, e, x, u, h, hp, hu => by
    simp only [wrapP] at h
    split at h
    · rename_i g x' hg hx
      simp at h; subst h
      have key : ∃ c, g.ev env w = some (.bool c) ∧ (if c = b then x'.ev env w = some u else u = .bool false) := by
        cases b <;> simp only [Bool.false_eq_true, if_false, if_true, Ex.ev] at hu <;> obtain ⟨gv, hgv, hu⟩ := bind_inv hu <;> cases gv <;> simp only [pickV, reduceCtorEq] at hu
        · rename_i c
          refine ⟨c, hgv, ?_⟩
          cases c <;> simp at hu ⊢ <;> simp [hu]
        · rename_i c
          refine ⟨c, hgv, ?_⟩
          cases c <;> simp at hu ⊢ <;> simp [hu]
      obtain ⟨c, hc, hif⟩ := key
      have ht := lookT_spec inv hp hg hc
      split at hif
      · rename_i hcb
        subst hcb
        have hp' : PathHolds tmps (pre ++ [(t, c)]) := pathHolds_append.2 ⟨hp, fun y hy => by simp at hy; subst hy; exact ht⟩
        have := wrapP_spec inv r (pre ++ [(t, c)]) e x' u hx hp' hif
        simpa using this
      · rename_i hcb
        refine .inr ⟨?_, hif⟩
        intro hall
        have h1 := hall (t, b) (by simp)
        simp only at h1
        rw [ht] at h1
        simp at h1
        exact hcb h1
    · cases h

theorem wanted_path {ops : Array Oper} {tmps : Array Value} (inv : Inv V N s env w tmps) {o : Oper} {p : List (Nat × Bool)} (h : opPath ops s o = some p) :
    Region.wanted o (yielded ops tmps) = true ↔ PathHolds tmps p := by
  unfold opPath at h
  unfold Region.wanted
  split at h
  · rename_i hg
    simp at h; subst h
    simp only [hg, true_iff]
    intro x hx; cases hx
  · rename_i j b hg
    simp only [hg]
    split at h
    · rename_i tg htg
      have hy : (yielded ops tmps j == some b) = true ↔ tmps.getD tg undef = .bool b := by
        unfold yielded
        simp only [htg, Option.bind_some]
        rw [Array.getD_eq_getD_getElem?]
        cases hq : tmps[tg]? with
        | none => simp [undef]
        | some q => cases q <;> simp
      rw [hy]
      split at h
      · rename_i en hen
        simp at h; subst h
        obtain ⟨hm, rfl⟩ := findE_spec hen
        rw [pathHolds_append]
        constructor
        · intro hb
          refine ⟨?_, fun x hx => by simp at hx; subst hx; exact hb⟩
          by_cases hp : PathHolds tmps en.path
          · exact hp
          · have := (inv.ents en hm).no hp
            rw [hb] at this; simp [undef] at this
        · rintro ⟨_, h2⟩
          exact h2 (en.tmp, b) (by simp)
      · simp at h; subst h
        constructor
        · intro hb x hx; simp at hx; subst hx; exact hb
        · intro h2; exact h2 (tg, b) (by simp)
    · cases h
end
end Go.Eng
