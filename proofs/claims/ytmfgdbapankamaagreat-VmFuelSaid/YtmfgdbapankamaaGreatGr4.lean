/- Engine, parts F to K: that the command's precondition is enough for the code: expressions, steps, regions that draw their order, operations, regions, a whole function. -/
import Derived.Test.YtmfgdbapankamaaGreatGr3
import Derived.Orders
set_option linter.unusedSimpArgs false
set_option linter.unusedVariables false
namespace Go.Eng
theorem posV_spec : ∀ {V : List Nat} {t i : Nat}, posV V t = some i → i < V.length ∧ V[i]? = some t
  | [], t, i, h => by simp [posV] at h
  | x :: r, t, i, h => by
    simp only [posV] at h
    split at h
    · rename_i hx; simp at h; subst h; subst hx; simp
    · obtain ⟨j, hj, rfl⟩ := map_inv h
      obtain ⟨h1, h2⟩ := posV_spec hj
      exact ⟨by simp; omega, by simpa using h2⟩
theorem posV_inj {V : List Nat} {t t' i : Nat} (h : posV V t = some i) (h' : posV V t' = some i) : t = t' := by
  have h1 := (posV_spec h).2
  have h2 := (posV_spec h').2
  rw [h1] at h2
  exact Option.some.inj h2
theorem valBeq_eq {a b : Value} (h : valBeq a b = true) : a = b := by
  unfold valBeq at h
  split at h <;> simp_all
theorem Ex.beq_eq : ∀ {a b : Ex}, a.beq b = true → a = b := by
  intro a
  induction a with
  | var i => intro b h; cases b <;> simp [Ex.beq] at h; rw [h]
  | const v => intro b h; cases b <;> simp [Ex.beq] at h; rw [valBeq_eq h]
  | op1 o x ih => intro b h; cases b <;> simp [Ex.beq] at h; rw [h.1, ih h.2]
  | op2 o x y ih1 ih2 => intro b h; cases b <;> simp [Ex.beq] at h; rw [h.1.1, ih1 h.1.2, ih2 h.2]
  | op3 o x y z ih1 ih2 ih3 => intro b h; cases b <;> simp [Ex.beq] at h; rw [h.1.1.1, ih1 h.1.1.2, ih2 h.1.2, ih3 h.2]
  | eqx n d x y ih1 ih2 => intro b h; cases b <;> simp [Ex.beq] at h; rw [h.1.1.1, h.1.1.2, ih1 h.1.2, ih2 h.2]
  | pick c a b ih1 ih2 ih3 => intro b h; cases b <;> simp [Ex.beq] at h; rw [ih1 h.1.1, ih2 h.1.2, ih3 h.2]
  | ld s x ih => intro b h; cases b <;> simp [Ex.beq] at h; rw [h.1, ih h.2]
  | bstr x ih => intro b h; cases b <;> simp [Ex.beq] at h; rw [ih h]
def Fine (env : Env) (w : World) (e : Ex) : Prop := ∃ v, e.ev env w = some v
theorem isC_fine {e : Ex} (h : isC e = true) (env : Env) (w : World) : Fine env w e := by
  cases e <;> simp [isC] at h
  exact ⟨_, rfl⟩
theorem inside_fine {env : Env} {w : World} : ∀ (c e : Ex), inside e c = true → Fine env w c → Fine env w e := by
  intro c
  induction c with
  | var i =>
    intro e h hf
    simp only [inside, Bool.or_eq_true] at h
    rcases h with h | h
    · rw [Ex.beq_eq h]; exact hf
    · exact isC_fine h env w
  | const v =>
    intro e h hf
    simp only [inside, Bool.or_eq_true] at h
    rcases h with h | h
    · rw [Ex.beq_eq h]; exact hf
    · exact isC_fine h env w
  | op1 o x ih =>
    intro e h hf
    simp only [inside, Bool.or_eq_true] at h
    rcases h with h | h
    · rw [Ex.beq_eq h]; exact hf
    · obtain ⟨v, hv⟩ := hf; simp only [Ex.ev] at hv; obtain ⟨u, hu, hv⟩ := bind_inv hv; exact ih e h ⟨u, hu⟩
  | op2 o x y ih1 ih2 =>
    intro e h hf
    simp only [inside, Bool.or_eq_true] at h
    rcases h with (h | h) | h
    · rw [Ex.beq_eq h]; exact hf
    · obtain ⟨v, hv⟩ := hf; simp only [Ex.ev] at hv; obtain ⟨u, hu, hv⟩ := bind_inv hv; exact ih1 e h ⟨u, hu⟩
    · obtain ⟨v, hv⟩ := hf; simp only [Ex.ev] at hv; obtain ⟨u, hu, hv⟩ := bind_inv hv; obtain ⟨u2, hu2, hv⟩ := bind_inv hv; exact ih2 e h ⟨u2, hu2⟩
  | op3 o x y z ih1 ih2 ih3 =>
    intro e h hf
    simp only [inside, Bool.or_eq_true] at h
    rcases h with ((h | h) | h) | h
    · rw [Ex.beq_eq h]; exact hf
    · obtain ⟨v, hv⟩ := hf; simp only [Ex.ev] at hv; obtain ⟨u, hu, hv⟩ := bind_inv hv; exact ih1 e h ⟨u, hu⟩
    · obtain ⟨v, hv⟩ := hf; simp only [Ex.ev] at hv; obtain ⟨u, hu, hv⟩ := bind_inv hv; obtain ⟨u2, hu2, hv⟩ := bind_inv hv; exact ih2 e h ⟨u2, hu2⟩
    · obtain ⟨v, hv⟩ := hf; simp only [Ex.ev] at hv; obtain ⟨u, hu, hv⟩ := bind_inv hv; obtain ⟨u2, hu2, hv⟩ := bind_inv hv; obtain ⟨u3, hu3, hv⟩ := bind_inv hv; exact ih3 e h ⟨u3, hu3⟩
  | eqx n d x y ih1 ih2 =>
    intro e h hf
    simp only [inside, Bool.or_eq_true] at h
    rcases h with (h | h) | h
    · rw [Ex.beq_eq h]; exact hf
    · obtain ⟨v, hv⟩ := hf; simp only [Ex.ev] at hv; obtain ⟨u, hu, hv⟩ := bind_inv hv; exact ih1 e h ⟨u, hu⟩
    · obtain ⟨v, hv⟩ := hf; simp only [Ex.ev] at hv; obtain ⟨u, hu, hv⟩ := bind_inv hv; obtain ⟨u2, hu2, hv⟩ := bind_inv hv; exact ih2 e h ⟨u2, hu2⟩
  | pick c a b ihc iha ihb =>
    intro e h hf
    simp only [inside, Bool.or_eq_true] at h
    rcases h with (h | h) | h
    · rw [Ex.beq_eq h]; exact hf
    · obtain ⟨v, hv⟩ := hf; simp only [Ex.ev] at hv; obtain ⟨u, hu, hv⟩ := bind_inv hv; exact ihc e h ⟨u, hu⟩
    · cases e <;> simp at h
      rename_i g x y
      obtain ⟨hg, h⟩ := h
      have hg' := Ex.beq_eq hg
      subst hg'
      obtain ⟨v, hv⟩ := hf
      simp only [Ex.ev] at hv
      obtain ⟨u, hu, hv⟩ := bind_inv hv
      cases u <;> simp only [pickV, reduceCtorEq] at hv
      rename_i bb
      rcases h with ⟨hy, h⟩ | ⟨hx, h⟩
      · cases bb
        · obtain ⟨r, hr⟩ := isC_fine hy env w
          exact ⟨r, by simp [Ex.ev, hu, pickV, hr]⟩
        · obtain ⟨r, hr⟩ := iha x h ⟨v, by simpa using hv⟩
          exact ⟨r, by simp [Ex.ev, hu, pickV, hr]⟩
      · cases bb
        · obtain ⟨r, hr⟩ := ihb y h ⟨v, by simpa using hv⟩
          exact ⟨r, by simp [Ex.ev, hu, pickV, hr]⟩
        · obtain ⟨r, hr⟩ := isC_fine hx env w
          exact ⟨r, by simp [Ex.ev, hu, pickV, hr]⟩
  | ld s x ih =>
    intro e h hf
    simp only [inside, Bool.or_eq_true] at h
    rcases h with h | h
    · rw [Ex.beq_eq h]; exact hf
    · obtain ⟨v, hv⟩ := hf; simp only [Ex.ev] at hv; obtain ⟨u, hu, hv⟩ := bind_inv hv; exact ih e h ⟨u, hu⟩
  | bstr x ih =>
    intro e h hf
    simp only [inside, Bool.or_eq_true] at h
    rcases h with h | h
    · rw [Ex.beq_eq h]; exact hf
    · obtain ⟨v, hv⟩ := hf; simp only [Ex.ev] at hv; obtain ⟨u, hu, hv⟩ := bind_inv hv; exact ih e h ⟨u, hu⟩
def AllFine (env : Env) (w : World) (l : List Ex) : Prop := ∀ e ∈ l, Fine env w e
theorem reduce_fine {env : Env} {w : World} : ∀ (l cov : List Ex), AllFine env w (reduce l cov) → AllFine env w cov → AllFine env w l
  | [], cov, _, _ => by intro e he; cases he
  | x :: r, cov, h, hc => by
    simp only [reduce] at h
    split at h
    · rename_i hx
      have hr := reduce_fine r cov h hc
      intro e he
      rcases List.mem_cons.1 he with rfl | he
      · simp only [Bool.or_eq_true, List.any_eq_true] at hx
        rcases hx with hx | ⟨c, hc1, hc2⟩
        · exact isC_fine hx env w
        · exact inside_fine c _ hc2 (hc c hc1)
      · exact hr e he
    · have hx : Fine env w x := h x (by simp)
      have hr := reduce_fine r (x :: cov) (fun e he => h e (by simp [he])) (fun e he => by
        rcases List.mem_cons.1 he with rfl | he
        · exact hx
        · exact hc e he)
      intro e he
      rcases List.mem_cons.1 he with rfl | he
      · exact hx
      · exact hr e he
theorem evs_fine {env : Env} {w : World} : ∀ (l : List Ex) {vs : List Value}, evs env w l = some vs → AllFine env w l
  | [], _, _ => by intro e he; cases he
  | x :: r, vs, h => by
    simp only [evs] at h
    obtain ⟨u, hu, h⟩ := bind_inv h
    obtain ⟨us, hus, h⟩ := bind_inv h
    intro e he
    rcases List.mem_cons.1 he with rfl | he
    · exact ⟨u, hu⟩
    · exact evs_fine r hus e he
theorem fine_evs {env : Env} {w : World} : ∀ (l : List Ex), AllFine env w l → ∃ vs, evs env w l = some vs
  | [], _ => ⟨[], rfl⟩
  | x :: r, h => by
    obtain ⟨u, hu⟩ := h x (by simp)
    obtain ⟨us, hus⟩ := fine_evs r fun e he => h e (by simp [he])
    exact ⟨u :: us, by simp [evs, hu, hus]⟩
theorem ev_set {env : Env} {w : World} {i : Nat} {v : Value} : ∀ (e : Ex), e.uses i = false → e.ev (env.set i v) w = e.ev env w := by
  intro e
  induction e with
  | var j => intro h; simp [Ex.uses] at h; simp only [Ex.ev]; rw [List.getElem?_set_ne h]
  | const c => intro h; rfl
  | op1 o x ih => intro h; simp only [Ex.uses] at h; simp only [Ex.ev, ih h]
  | op2 o x y ih1 ih2 => intro h; simp only [Ex.uses, Bool.or_eq_false_iff] at h; simp only [Ex.ev, ih1 h.1, ih2 h.2]
  | op3 o x y z ih1 ih2 ih3 => intro h; simp only [Ex.uses, Bool.or_eq_false_iff] at h; simp only [Ex.ev, ih1 h.1.1, ih2 h.1.2, ih3 h.2]
  | eqx n d x y ih1 ih2 => intro h; simp only [Ex.uses, Bool.or_eq_false_iff] at h; simp only [Ex.ev, ih1 h.1, ih2 h.2]
  | pick c a b ih1 ih2 ih3 => intro h; simp only [Ex.uses, Bool.or_eq_false_iff] at h; simp only [Ex.ev, ih1 h.1.1, ih2 h.1.2, ih3 h.2]
  | ld s x ih => intro h; simp only [Ex.uses] at h; simp only [Ex.ev, ih h]
  | bstr x ih => intro h; simp only [Ex.uses] at h; simp only [Ex.ev, ih h]
theorem ev_world {env : Env} (w w' : World) : ∀ (e : Ex), e.dep = false → e.ev env w = e.ev env w' := by
  intro e
  induction e with
  | var j => intro h; rfl
  | const c => intro h; rfl
  | op1 o x ih => intro h; simp only [Ex.dep] at h; simp only [Ex.ev, ih h]
  | op2 o x y ih1 ih2 => intro h; simp only [Ex.dep, Bool.or_eq_false_iff] at h; simp only [Ex.ev, ih1 h.1, ih2 h.2]
  | op3 o x y z ih1 ih2 ih3 => intro h; simp only [Ex.dep, Bool.or_eq_false_iff] at h; simp only [Ex.ev, ih1 h.1.1, ih2 h.1.2, ih3 h.2]
  | eqx n d x y ih1 ih2 => intro h; simp [Ex.dep] at h
  | pick c a b ih1 ih2 ih3 => intro h; simp only [Ex.dep, Bool.or_eq_false_iff] at h; simp only [Ex.ev, ih1 h.1.1, ih2 h.1.2, ih3 h.2]
  | ld s x ih => intro h; simp [Ex.dep] at h
  | bstr x ih => intro h; simp [Ex.dep] at h
def PathHolds (tmps : Array Value) (p : List (Nat × Bool)) : Prop := ∀ x ∈ p, tmps.getD x.1 undef = .bool x.2
theorem pathHolds_sub {tmps : Array Value} {p q : List (Nat × Bool)} (h : isPre p q = true) (hq : PathHolds tmps q) : PathHolds tmps p := by
  intro x hx
  unfold isPre at h
  rw [List.all_eq_true] at h
  have := h x hx
  exact hq x (by simpa using this)
theorem pathHolds_append {tmps : Array Value} {p q : List (Nat × Bool)} : PathHolds tmps (p ++ q) ↔ PathHolds tmps p ∧ PathHolds tmps q := by
  constructor
  · intro h; exact ⟨fun x hx => h x (by simp [hx]), fun x hx => h x (by simp [hx])⟩
  · rintro ⟨h1, h2⟩ x hx
    rcases List.mem_append.1 hx with hx | hx
    · exact h1 x hx
    · exact h2 x hx
structure EntOk (env : Env) (w : World) (tmps : Array Value) (en : Ent) : Prop where
  yes : PathHolds tmps en.path → ∀ v, en.ex.ev env w = some v → tmps.getD en.tmp undef = v
  no : ¬ PathHolds tmps en.path → tmps.getD en.tmp undef = undef
structure Inv (V : List Nat) (N : Nat) (s : List Ent) (env : Env) (w : World) (tmps : Array Value) : Prop where
  len : env.length = V.length
  size : tmps.size = N
  agree : ∀ t i v, posV V t = some i → env[i]? = some v → isUndef v = true ∨ tmps.getD t undef = v
  ents : ∀ en ∈ s, EntOk env w tmps en
section
variable {V : List Nat} {N : Nat} {s : List Ent} {env : Env} {w : World}
theorem findE_spec {t : Nat} {en : Ent} (h : findE s t = some en) : en ∈ s ∧ en.tmp = t := by
  unfold findE at h
  exact ⟨List.mem_of_find?_eq_some h, by simpa using List.find?_some h⟩
theorem lookT_spec {tmps : Array Value} (inv : Inv V N s env w tmps) {p : List (Nat × Bool)} (hp : PathHolds tmps p) {t : Nat} {e : Ex} {v : Value}
    (h : lookT V s p t = some e) (hv : e.ev env w = some v) : tmps.getD t undef = v := by
  have slot : (posV V t).map Ex.var = some e → tmps.getD t undef = v := by
    intro h
    obtain ⟨i, hi, rfl⟩ := map_inv h
    simp only [Ex.ev] at hv
    obtain ⟨u, hu, hv⟩ := bind_inv hv
    unfold varV at hv
    split at hv <;> simp at hv
    subst hv
    rcases inv.agree t i u hi hu with h1 | h1
    · simp_all
    · exact h1
  unfold lookT at h
  split at h
  · rename_i en hen
    split at h
    · simp at h
      subst h
      obtain ⟨hm, rfl⟩ := findE_spec hen
      exact (inv.ents en hm).yes (pathHolds_sub ‹_› hp) v hv
    · exact slot h
  · exact slot h
theorem look_rel {a : Act} (inv : Inv V N s env w a.tmps) {p : List (Nat × Bool)} (hp : PathHolds a.tmps p) : Rel (look V s p) a.eval env w := by
  intro x e v h hv
  cases x with
  | tmp t => exact lookT_spec inv hp h hv
  | const c => simp [look] at h; subst h; simp [Ex.ev] at hv; exact hv
  | global g => simp [look] at h; subst h; simp [Ex.ev] at hv; exact hv
  | func f => simp [look] at h; subst h; simp [Ex.ev] at hv; exact hv
theorem wrapP_spec {tmps : Array Value} (inv : Inv V N s env w tmps) : ∀ (r pre : List (Nat × Bool)) (e x : Ex) (u : Value),
    wrapP V s pre r e = some x → PathHolds tmps pre → x.ev env w = some u →
    (PathHolds tmps (pre ++ r) ∧ e.ev env w = some u) ∨ (¬ PathHolds tmps (pre ++ r) ∧ u = .bool false)
  | [], pre, e, x, u, h, hp, hu => by
    simp [wrapP] at h; subst h
    exact .inl ⟨by simpa using hp, hu⟩
  | (t, b) :: r, pre, e, x, u, h, hp, hu => by
    simp only [wrapP] at h
    split at h
    · rename_i g x' hg hx
      simp at h; subst h
      have key : ∃ c, g.ev env w = some (.bool c) ∧ (if c = b then x'.ev env w = some u else u = .bool false) := by
        cases b <;> simp only [Bool.false_eq_true, if_false, if_true, Ex.ev] at hu <;> obtain ⟨gv, hgv, hu⟩ := bind_inv hu <;> cases gv <;> simp only [pickV, reduceCtorEq] at hu
        · rename_i c
          refine ⟨c, hgv, ?_⟩
          cases c <;> simp at hu ⊢ <;> simp [hu]
        · rename_i c
          refine ⟨c, hgv, ?_⟩
          cases c <;> simp at hu ⊢ <;> simp [hu]
      obtain ⟨c, hc, hif⟩ := key
      have ht := lookT_spec inv hp hg hc
      split at hif
      · rename_i hcb
        subst hcb
        have hp' : PathHolds tmps (pre ++ [(t, c)]) := pathHolds_append.2 ⟨hp, fun y hy => by simp at hy; subst hy; exact ht⟩
        have := wrapP_spec inv r (pre ++ [(t, c)]) e x' u hx hp' hif
        simpa using this
      · rename_i hcb
        refine .inr ⟨?_, hif⟩
        intro hall
        have h1 := hall (t, b) (by simp)
        simp only at h1
        rw [ht] at h1
        simp at h1
        exact hcb h1
    · cases h
theorem wanted_path {ops : Array Oper} {tmps : Array Value} (inv : Inv V N s env w tmps) {o : Oper} {p : List (Nat × Bool)} (h : opPath ops s o = some p) :
    Region.wanted o (yielded ops tmps) = true ↔ PathHolds tmps p := by
  unfold opPath at h
  unfold Region.wanted
  split at h
  · rename_i hg
    simp at h; subst h
    simp only [hg, true_iff]
    intro x hx; cases hx
  · rename_i j b hg
    simp only [hg]
    split at h
    · rename_i tg htg
      have hy : (yielded ops tmps j == some b) = true ↔ tmps.getD tg undef = .bool b := by
        unfold yielded
        simp only [htg, Option.bind_some]
        rw [Array.getD_eq_getD_getElem?]
        cases hq : tmps[tg]? with
        | none => simp [undef]
        | some q => cases q <;> simp
      rw [hy]
      split at h
      · rename_i en hen
        simp at h; subst h
        obtain ⟨hm, rfl⟩ := findE_spec hen
        rw [pathHolds_append]
        constructor
        · intro hb
          refine ⟨?_, fun x hx => by simp at hx; subst hx; exact hb⟩
          by_cases hp : PathHolds tmps en.path
          · exact hp
          · have := (inv.ents en hm).no hp
            rw [hb] at this; simp [undef] at this
        · rintro ⟨_, h2⟩
          exact h2 (en.tmp, b) (by simp)
      · simp at h; subst h
        constructor
        · intro hb x hx; simp at hx; subst hx; exact hb
        · intro h2; exact h2 (tg, b) (by simp)
    · cases h
end
end Go.Eng
namespace Go.Eng
section
variable {V : List Nat} {N : Nat} {s : List Ent} {env : Env} {w : World} {tmps : Array Value}
theorem getD_set_ne' {t t' : Nat} (v : Value) (h : t' ≠ t) : (tmps.setIfInBounds t v).getD t' undef = tmps.getD t' undef := by
  simp only [Array.getD_eq_getD_getElem?, Array.getElem?_setIfInBounds_ne (Ne.symm h)]
theorem getD_set_self {t : Nat} (v : Value) (h : t < tmps.size) : (tmps.setIfInBounds t v).getD t undef = v := by
  simp [Array.getD_eq_getD_getElem?, h]
theorem pathHolds_set {t : Nat} (v : Value) {p : List (Nat × Bool)} (h : (p.all fun x => x.1 != t) = true) : PathHolds (tmps.setIfInBounds t v) p ↔ PathHolds tmps p := by
  rw [List.all_eq_true] at h
  constructor
  · intro hp x hx
    have h1 := h x hx
    have h2 := hp x hx
    rwa [getD_set_ne' v (by simpa using h1)] at h2
  · intro hp x hx
    have h1 := h x hx
    rw [getD_set_ne' v (by simpa using h1)]
    exact hp x hx
theorem entOk_set {en : Ent} {t : Nat} (v : Value) (h : EntOk env w tmps en) (h1 : en.tmp ≠ t) (h2 : (en.path.all fun x => x.1 != t) = true) : EntOk env w (tmps.setIfInBounds t v) en where
  yes := fun hp u hu => by rw [getD_set_ne' v h1]; exact h.yes ((pathHolds_set v h2).1 hp) u hu
  no := fun hp => by rw [getD_set_ne' v h1]; exact h.no fun hq => hp ((pathHolds_set v h2).2 hq)
theorem inv_tmp (inv : Inv V N s env w tmps) {t : Nat} (hV : posV V t = none) (ht : t < N) (hf : freshT s t = true) {p : List (Nat × Bool)} {e : Ex} {v : Value}
    (hpt : (p.all fun x => x.1 != t) = true) (hy : PathHolds tmps p → ∀ u, e.ev env w = some u → v = u) (hn : ¬ PathHolds tmps p → v = undef) :
    Inv V N (⟨t, p, e⟩ :: s) env w (tmps.setIfInBounds t v) where
  len := inv.len
  size := by simp [inv.size]
  agree := fun t' i u hi hu => by
    have hne : t' ≠ t := fun h => by rw [h, hV] at hi; cases hi
    rw [getD_set_ne' v hne]
    exact inv.agree t' i u hi hu
  ents := fun en hen => by
    rcases List.mem_cons.1 hen with rfl | hen
    · refine ⟨fun hp u hu => ?_, fun hp => ?_⟩
      · rw [getD_set_self v (by rw [inv.size]; exact ht)]
        exact hy ((pathHolds_set v hpt).1 hp) u hu
      · rw [getD_set_self v (by rw [inv.size]; exact ht)]
        exact hn fun hq => hp ((pathHolds_set v hpt).2 hq)
    · unfold freshT at hf
      rw [List.all_eq_true] at hf
      have h := hf en hen
      simp only [Bool.and_eq_true, bne_iff_ne] at h
      exact entOk_set v (inv.ents en hen) h.1 h.2
theorem inv_var (inv : Inv V N s env w tmps) {t k : Nat} (hV : posV V t = some k) (ht : t < N) {v u : Value} (hu : isUndef u = true ∨ v = u) :
    Inv V N (killV k t s) (env.set k u) w (tmps.setIfInBounds t v) where
  len := by simp [inv.len]
  size := by simp [inv.size]
  agree := fun t' i u' hi hu' => by
    by_cases hik : i = k
    · subst hik
      have := posV_inj hi hV
      subst this
      rw [getD_set_self v (by rw [inv.size]; exact ht)]
      have hlt : i < env.length := by rw [inv.len]; exact (posV_spec hi).1
      rw [List.getElem?_set_self hlt] at hu'
      simp at hu'; subst hu'
      exact hu
    · have hne : t' ≠ t := fun h => by rw [h, hV] at hi; simp at hi; exact hik hi.symm
      rw [getD_set_ne' v hne]
      rw [List.getElem?_set_ne (Ne.symm hik)] at hu'
      exact inv.agree t' i u' hi hu'
  ents := fun en hen => by
    unfold killV at hen
    rw [List.mem_filter] at hen
    obtain ⟨hen, h⟩ := hen
    simp only [Bool.and_eq_true, Bool.not_eq_true', bne_iff_ne] at h
    have := entOk_set v (inv.ents en hen) h.1.2 h.2
    exact ⟨fun hp u' hu' => this.yes hp u' (by rw [ev_set _ h.1.1] at hu'; exact hu'), this.no⟩
theorem inv_entP (inv : Inv V N s env w tmps) {t k : Nat} (hV : posV V t = some k) {p : List (Nat × Bool)} (hno : isNilP p = false → ¬ PathHolds tmps p → tmps.getD t undef = undef) :
    Inv V N (entP p t k s) env w tmps := by
  unfold entP
  split
  · exact inv
  · rename_i hp
    refine ⟨inv.len, inv.size, inv.agree, fun en hen => ?_⟩
    rcases List.mem_cons.1 hen with rfl | hen
    · refine ⟨fun _ v hv => ?_, hno (by simpa using hp)⟩
      simp only [Ex.ev] at hv
      obtain ⟨u, hu, hv⟩ := bind_inv hv
      unfold varV at hv
      split at hv <;> simp at hv
      subst hv
      rcases inv.agree t k u hV hu with h1 | h1
      · simp_all
      · exact h1
    · exact inv.ents en hen
theorem inv_entE (inv : Inv V N s env w tmps) {dst : Option Nat} {p : List (Nat × Bool)} (hno : ∀ t, dst = some t → ¬ PathHolds tmps p → tmps.getD t undef = undef) : Inv V N (entE V p dst s) env w tmps := by
  unfold entE
  cases dst with
  | none => exact inv
  | some t =>
    simp only
    cases hV : posV V t with
    | none => exact inv
    | some k => exact inv_entP inv hV fun _ => hno t rfl
theorem inv_killT (inv : Inv V N s env w tmps) {t : Nat} (hV : posV V t = none) (v : Value) : Inv V N (killT t s) env w (tmps.setIfInBounds t v) where
  len := inv.len
  size := by simp [inv.size]
  agree := fun t' i u hi hu => by
    have hne : t' ≠ t := fun h => by rw [h, hV] at hi; cases hi
    rw [getD_set_ne' v hne]
    exact inv.agree t' i u hi hu
  ents := fun en hen => by
    unfold killT at hen
    rw [List.mem_filter] at hen
    obtain ⟨hen, h⟩ := hen
    simp only [Bool.and_eq_true, bne_iff_ne] at h
    exact entOk_set v (inv.ents en hen) h.1 h.2
theorem inv_world (inv : Inv V N s env w tmps) (w' : World) : Inv V N (killW s) env w' tmps where
  len := inv.len
  size := inv.size
  agree := inv.agree
  ents := fun en hen => by
    unfold killW at hen
    rw [List.mem_filter] at hen
    obtain ⟨hen, h⟩ := hen
    have h := inv.ents en hen
    rename_i hd
    have hd' : en.ex.dep = false := by simpa using hd
    exact ⟨fun hp u hu => h.yes hp u (by rw [ev_world w w' _ hd']; exact hu), h.no⟩
theorem inv_nil (inv : Inv V N s env w tmps) (w' : World) : Inv V N [] env w' tmps where
  len := inv.len
  size := inv.size
  agree := inv.agree
  ents := fun en hen => by cases hen
theorem inv_mask (inv : Inv V N s env w tmps) (ks : List Nat) : Inv V N [] (mask ks env) w tmps where
  len := by simp [mask, inv.len]
  size := inv.size
  agree := fun t i v hi hv => by
    unfold mask at hv
    rw [List.getElem?_mapIdx] at hv
    obtain ⟨u, hu, rfl⟩ := map_inv hv
    split
    · exact inv.agree t i u hi hu
    · exact .inl rfl
  ents := fun en hen => by cases hen
def putT (tmps : Array Value) (dst : Option Nat) (v : Value) : Array Value :=
  match dst with
  | some t => tmps.setIfInBounds t v
  | none => tmps
theorem inv_eff (inv : Inv V N s env w tmps) (w' : World) {dst : Option Nat} (hd : ∀ t, dst = some t → t < N) (v : Value) :
    Inv V N (killE V dst s) (setO (dst.bind (posV V)) env v) w' (putT tmps dst v) := by
  have h := inv_world inv w'
  cases dst with
  | none => exact h
  | some t =>
    simp only [killE, Option.bind_some]
    cases hp : posV V t with
    | none => exact inv_killT h hp v
    | some k => exact inv_var h hp (hd t rfl) (.inr rfl)
theorem inv_noeff (inv : Inv V N s env w tmps) (w' : World) {dst : Option Nat} (hd : ∀ t, dst = some t → t < N) (v : Value) :
    Inv V N (killE V dst s) ((dst.bind (posV V)).toList.foldl (fun env i => env.set i undef) env) w' (putT tmps dst v) := by
  have h := inv_world inv w'
  cases dst with
  | none => exact h
  | some t =>
    simp only [killE, Option.bind_some]
    cases hp : posV V t with
    | none => exact inv_killT h hp v
    | some k => exact inv_var h hp (hd t rfl) (.inl rfl)
theorem put_tmps (a : Act) (dst : Option Nat) (v : Value) : (a.put dst v).tmps = putT a.tmps dst v := by
  cases dst <;> rfl
theorem put_defers (a : Act) (dst : Option Nat) (v : Value) : (a.put dst v).defers = a.defers := by
  cases dst <;> rfl
end
section
variable {P : Program} {V : List Nat} {N : Nat} {s : List Ent} {env : Env} {w : World}
theorem stillEx_sound {a : Act} (inv : Inv V N s env w a.tmps) {p : List (Nat × Bool)} (hp : PathHolds a.tmps p) {o : Oper} {e : Ex} {v : Value}
    (h : stillEx P V s p o.op = some e) (hv : e.ev env w = some v) : (execOp a.eval o).run P w = .ok (.value v) w := by
  have gen : opEx P (look V s p) o.op = some e → (execOp a.eval o).run P w = .ok (.value v) w :=
    fun h => opEx_sound (look_rel inv hp) (fun v => rfl) h hv
  obtain ⟨dst, op, type, pos, after, guard⟩ := o
  cases op with
  | pick c x y =>
    cases c with
    | tmp c =>
      simp only [stillEx] at h
      split at h
      · rename_i ce xe ye hc hx hy
        simp at h; subst h
        simp only [Ex.ev] at hv
        obtain ⟨cv, hcv, hv⟩ := bind_inv hv
        cases cv <;> simp only [pickV, reduceCtorEq] at hv
        rename_i b
        have ec := look_rel inv hp _ _ _ hc hcv
        have hpc : ∀ b', b = b' → PathHolds a.tmps (p ++ [(c, b')]) := fun b' hb => pathHolds_append.2 ⟨hp, fun z hz => by
          simp at hz; subst hz; subst hb; exact ec⟩
        cases b
        · have ey := look_rel inv (hpc false rfl) _ _ _ hy (by simpa using hv)
          simp [execOp, ec, asBool, ey]
        · have ex := look_rel inv (hpc true rfl) _ _ _ hx (by simpa using hv)
          simp [execOp, ec, asBool, ex]
      · cases h
    | _ => simp [stillEx] at h
  | _ => exact gen (by simpa [stillEx] using h)
structure StillStep (P : Program) (ops : Array Oper) (V : List Nat) (N : Nat) (s : List Ent) (p : List (Nat × Bool)) (o : Oper) (e : Ex) (env : Env) (w : World) (a : Act) (v : Value) : Prop where
  run : Region.wanted o (yielded ops a.tmps) = true → (execOp a.eval o).run P w = .ok (.value v) w
  skip : Region.wanted o (yielded ops a.tmps) = false → v = undef
  yes : PathHolds a.tmps p → e.ev env w = some v
  no : ¬ PathHolds a.tmps p → v = undef
theorem stillStep {ops : Array Oper} {a : Act} (inv : Inv V N s env w a.tmps) {o : Oper} {p : List (Nat × Bool)} (hp : opPath ops s o = some p) {e x : Ex}
    (he : stillEx P V s p o.op = some e) (hx : wrapP V s [] p e = some x) (hf : Fine env w x) : ∃ v, StillStep P ops V N s p o e env w a v := by
  obtain ⟨u, hu⟩ := hf
  have hw := wanted_path inv hp
  rcases wrapP_spec inv p [] e x u hx (by intro y hy; cases hy) hu with ⟨h1, h2⟩ | ⟨h1, h2⟩
  · simp at h1
    exact ⟨u, fun _ => stillEx_sound inv h1 he h2, (fun hn => by rw [hw.2 h1] at hn; cases hn), fun _ => h2, fun hn => absurd h1 hn⟩
  · simp at h1
    exact ⟨undef, fun hy => absurd (hw.1 hy) h1, fun _ => rfl, fun hy => absurd hy h1, fun _ => rfl⟩
end
end Go.Eng
namespace Go.Eng
section
variable {P : Program} {ops : Array Oper} {Q : Exit → Act → World → Prop}
abbrev Cls := List (Nat × (World → Prop))
def Keep (ops : Array Oper) (Cs : Cls) (i : Nat) (w : World) : Prop := ∀ x ∈ Cs, waitsT ops ops.size i x.1 = false → x.2 w
def After (P : Program) (ops : Array Oper) (Cs : Cls) (i : Nat) (w w' : World) : Prop := if stillAt P ops i then w' = w else Keep ops Cs i w'
def wpAnyX (P : Program) (ops : Array Oper) (Q : Exit → Act → World → Prop) (Cs : Cls) : Nat → Array Bool → Act → World → Prop
  | 0, listed, a, w => Region.ready .any ops listed = [] ∧ Q .normal a w
  | fuel + 1, listed, a, w =>
    (Region.ready .any ops listed = [] → Q .normal a w) ∧
    ∀ i ∈ Region.ready .any ops listed, wpOp P ops Q i (fun a' w' => After P ops Cs i w w' ∧ wpAnyX P ops Q Cs fuel (listed.setIfInBounds i true) a' w') a w
theorem wpAny_of_X {Cs : Cls} : ∀ (fuel : Nat) (listed : Array Bool) (a : Act) (w : World), wpAnyX P ops Q Cs fuel listed a w → wpAny P .any ops Q fuel listed a w
  | 0, _, _, _, h => h
  | fuel + 1, _, _, _, h => ⟨h.1, fun i hi => wpOp_mono (fun a' w' h' => wpAny_of_X fuel _ a' w' h'.2) (h.2 i hi)⟩
theorem After.tail {c : Nat × (World → Prop)} {Cs : Cls} {i : Nat} {w w' : World} (h : After P ops (c :: Cs) i w w') : After P ops Cs i w w' := by
  unfold After at *
  split
  · rename_i hs; simpa [hs] using h
  · rename_i hs; simp only [hs] at h; exact fun x hx => h x (by simp [hx])
theorem wpAnyX_tail {c : Nat × (World → Prop)} {Cs : Cls} : ∀ (fuel : Nat) (listed : Array Bool) (a : Act) (w : World), wpAnyX P ops Q (c :: Cs) fuel listed a w → wpAnyX P ops Q Cs fuel listed a w
  | 0, _, _, _, h => h
  | fuel + 1, _, _, _, h => ⟨h.1, fun i hi => wpOp_mono (fun a' w' h' => ⟨After.tail h'.1, wpAnyX_tail fuel _ a' w' h'.2⟩) (h.2 i hi)⟩
def Closed (ops : Array Oper) (listed : Array Bool) : Prop :=
  ∀ (j : Nat) (oj : Oper), ops[j]? = some oj → listed.getD j true = true → ∀ e ∈ oj.after, Region.binds .any e = true → listed.getD e.on false = true
theorem getD_false_true {listed : Array Bool} {i : Nat} (h : listed.getD i false = true) : listed.getD i true = true := by
  rw [Array.getD_eq_getD_getElem?] at *
  cases hq : listed[i]? <;> simp_all
theorem Closed.set {listed : Array Bool} (h : Closed ops listed) {i : Nat} (hi : i ∈ Region.ready .any ops listed) : Closed ops (listed.setIfInBounds i true) := by
  obtain ⟨h0, oi, hoi, hall⟩ := mem_ready.1 hi
  have mono : ∀ k, listed.getD k false = true → (listed.setIfInBounds i true).getD k false = true := by
    intro k hk
    by_cases hik : i = k
    · subst hik
      have := getD_false_true hk
      rw [h0] at this; cases this
    · rw [getD_set_ne false hik]; exact hk
  intro j oj hj hl e he hb
  by_cases hij : i = j
  · subst hij
    have : oj = oi := Option.some.inj (hj.symm.trans hoi)
    subst this
    exact mono _ (hall e he hb)
  · rw [getD_set_ne true hij] at hl
    exact mono _ (h j oj hj hl e he hb)
theorem masksTo_length (ops : Array Oper) : ∀ k, (masksTo ops k).length = k
  | 0 => rfl
  | k + 1 => by simp [masksTo, masksTo_length ops k]
theorem fold_bit (l : List Nat) (j : Nat) : ∀ (es : List Edge) (m : Nat), (es.foldl (fun m e => if Region.binds .any e then m ||| (2 ^ e.on ||| l.getD e.on 0) else m) m).testBit j = true →
    m.testBit j = true ∨ ∃ e ∈ es, Region.binds .any e = true ∧ (e.on = j ∨ (l.getD e.on 0).testBit j = true)
  | [], m, h => .inl h
  | e :: es, m, h => by
    rw [List.foldl_cons] at h
    rcases fold_bit l j es _ h with h | ⟨e', he, h⟩
    · by_cases hb : Region.binds .any e = true
      · rw [if_pos hb, Nat.testBit_or, Nat.testBit_or, Nat.testBit_two_pow] at h
        simp only [Bool.or_eq_true, decide_eq_true_eq] at h
        rcases h with h | h
        · exact .inl h
        · exact .inr ⟨e, List.mem_cons_self, hb, h⟩
      · rw [if_neg hb] at h
        exact .inl h
    · exact .inr ⟨e', List.mem_cons_of_mem _ he, h⟩
theorem waits_listed {listed : Array Bool} (hc : Closed ops listed) : ∀ (n i j : Nat) (oi : Oper), ops[i]? = some oi →
    (∀ e ∈ oi.after, Region.binds .any e = true → listed.getD e.on false = true) → waitsT ops n i j = true → listed.getD j false = true
  | 0, i, j, oi, _, _, h => by simp [waitsT, masksTo] at h
  | n + 1, i, j, oi, hi, hall, h => by
    unfold waitsT masksTo at h
    have hlen := masksTo_length ops n
    rw [List.getD_eq_getElem?_getD] at h
    by_cases hin : i < n
    · rw [List.getElem?_append_left (by omega), ← List.getD_eq_getElem?_getD] at h
      exact waits_listed hc n i j oi hi hall h
    · rw [List.getElem?_append_right (by omega), hlen] at h
      by_cases hie : i = n
      · subst hie
        rw [Nat.sub_self, hi] at h
        simp only [List.getElem?_cons_zero, Option.getD_some, maskOf] at h
        rcases fold_bit _ j _ _ h with h | ⟨e, he, hb, h⟩
        · simp at h
        · have hl := hall e (Array.mem_toList_iff.1 he) hb
          rcases h with h | h
          · subst h; exact hl
          · have hlt : e.on < i := by
              rcases Nat.lt_or_ge e.on i with h' | h'
              · exact h'
              · rw [List.getD_eq_getElem?_getD, List.getElem?_eq_none (by omega)] at h; simp at h
            have hsz : i < ops.size := (Array.getElem?_eq_some_iff.1 hi).1
            have ho : ops[e.on]? = some (ops[e.on]'(by omega)) := Array.getElem?_eq_getElem (by omega)
            exact waits_listed hc i e.on j _ ho (hc e.on _ ho (getD_false_true hl)) h
      · rw [List.getElem?_eq_none (by simp; omega)] at h
        simp at h
def YieldsC (P : Program) (ops : Array Oper) (C : World → Prop) (o : Oper) (v : Value) (a : Act) : Prop :=
  (Region.wanted o (yielded ops a.tmps) = true ∧ ∀ w, C w → (execOp a.eval o).run P w = .ok (.value v) w) ∨
  (Region.wanted o (yielded ops a.tmps) = false ∧ v = undef)
theorem YieldsC.wpOp {C : World → Prop} {i : Nat} {o : Oper} {v : Value} {a : Act} (hi : ops[i]? = some o) (hy : YieldsC P ops C o v a)
    {K : Act → World → Prop} {w : World} (hC : C w) (h : K (a.put o.dst v) w) : wpOp P ops Q i K a w := by
  unfold Go.wpOp
  simp only [hi]
  rcases hy with ⟨hw, hv⟩ | ⟨hw, rfl⟩
  · simp only [hw, if_true, Oper.wp, hv w hC, Oper.upon]; exact .inl h
  · simp only [hw, Bool.false_eq_true, if_false]; exact h
theorem YieldsC.of_same {C : World → Prop} {o : Oper} {v : Value} {a a' : Act} (hy : YieldsC P ops C o v a) (he : execOp a'.eval o = execOp a.eval o)
    (hw : Region.wanted o (yielded ops a'.tmps) = Region.wanted o (yielded ops a.tmps)) : YieldsC P ops C o v a' := by
  unfold YieldsC at *
  rw [he, hw]
  exact hy
theorem wpOp_putC {C : World → Prop} {j : Nat} {oi oj : Oper} {v : Value} (hj : ops[j]? = some oj) (hap : oi.apart ops oj = true)
    (hsi : ∀ cs b, oi.op ≠ .select cs b) (hsj : ∀ cs b, oj.op ≠ .select cs b)
    (hQ : ∀ c a w, Q (.panic c) (a.put oi.dst v) w → Q (.panic c) a w) {K : Act → World → Prop} {a : Act} {w : World}
    (hy : YieldsC P ops C oi v a) (h : wpOp P ops Q j K (a.put oi.dst v) w) :
    wpOp P ops Q j (fun a' w' => YieldsC P ops C oi v a' ∧ K (a'.put oi.dst v) w') a w := by
  obtain ⟨h1, h2, h3⟩ := Oper.apart_spec hap
  have keep : ∀ (a : Act), YieldsC P ops C oi v a → ∀ u, YieldsC P ops C oi v (a.put oj.dst u) := fun a hy u =>
    hy.of_same (execOp_put oi hsi a oj.dst u h3) (wanted_put oi a oj.dst u h3)
  have keepD : ∀ d, YieldsC P ops C oi v { a with defers := d :: a.defers } := fun d => hy.of_same rfl rfl
  unfold wpOp at *
  simp only [hj] at *
  rw [wanted_put oj a oi.dst v h1] at h
  split
  · rename_i hw
    simp only [hw, if_true] at h
    rcases h with h | ⟨hasks, hlets⟩
    case inr => exact .inr ⟨by unfold Oper.asks at *; rw [execOp_put oj hsj a oi.dst v h1] at hasks; exact hasks, hlets⟩
    refine .inl ?_
    unfold Oper.wp at *
    rw [execOp_put oj hsj a oi.dst v h1] at h
    generalize (execOp a.eval oj).run P w = r at *
    cases r with
    | ok n w' =>
      cases n <;> simp only [Oper.upon] at h ⊢
      case value u => exact ⟨keep a hy u, by rw [← Act.put_comm a v u h2]; exact h⟩
      case skip => exact ⟨keep a hy _, by rw [← Act.put_comm a v undef h2]; exact h⟩
      case defer d =>
        refine ⟨keep _ (keepD d) _, ?_⟩
        rw [← Act.put_comm _ v undef h2, ← Act.put_defers]
        exact h
      case enter f args =>
        refine Calls.mono h fun e w'' he => ?_
        cases e with
        | returned u => exact ⟨keep a hy u, by rw [← Act.put_comm a v u h2]; exact he⟩
        | panicked c => exact hQ _ _ _ he
        | outgrown => exact he
      case row row args => exact Rows.mono h fun u w'' he => ⟨keep a hy u, by rw [← Act.put_comm a v u h2]; exact he⟩
    | halt x w' =>
      cases x <;> simp only [Oper.upon] at h ⊢
      case panic u => exact hQ _ _ _ h
  · rename_i hw
    simp only [hw] at h
    exact ⟨keep a hy _, by rw [← Act.put_comm a v undef h2]; exact h⟩
theorem wpAnyX_first {Cs : Cls} {C : World → Prop} {i : Nat} {oi : Oper} {v : Value} (hi : ops[i]? = some oi) (hsel : ∀ (j : Nat) (o : Oper) cs b, ops[j]? = some o → o.op ≠ .select cs b)
    (hQ : ∀ c a w, Q (.panic c) (a.put oi.dst v) w → Q (.panic c) a w) (hst : stillAt P ops i = true) :
    ∀ (fuel : Nat) (listed : Array Bool) (a : Act) (w : World), Closed ops listed →
      (∀ j oj, ops[j]? = some oj → j ≠ i → listed.getD j true = false → (∀ e ∈ oj.after, Region.binds .any e = true → e.on ≠ i) → oi.apart ops oj = true) →
      i ∈ Region.ready .any ops listed → YieldsC P ops C oi v a → C w →
      wpAnyX P ops Q ((i, C) :: Cs) fuel (listed.setIfInBounds i true) (a.put oi.dst v) w → wpAnyX P ops Q Cs (fuel + 1) listed a w := by
  have hself : ∀ w, After P ops Cs i w w := fun w => by unfold After; rw [if_pos hst]
  intro fuel
  induction fuel with
  | zero =>
    intro listed a w _ _ hr hy hC H
    refine ⟨fun h => (by rw [h] at hr; cases hr), fun j hj => ?_⟩
    by_cases hji : j = i
    · subst hji; exact hy.wpOp hi hC ⟨hself w, wpAnyX_tail _ _ _ _ H⟩
    · have := ready_mono hj hji
      rw [H.1] at this
      cases this
  | succ fuel ih =>
    intro listed a w hcl hfree hr hy hC H
    refine ⟨fun h => (by rw [h] at hr; cases hr), fun j hj => ?_⟩
    by_cases hji : j = i
    · subst hji; exact hy.wpOp hi hC ⟨hself w, wpAnyX_tail _ _ _ _ H⟩
    · have h1 := H.2 j (ready_mono hj hji)
      obtain ⟨hjun, oj, hoj, hall⟩ := mem_ready.1 hj
      have hiun : listed.getD i false = false := by
        have h0 := (mem_ready.1 hr).1
        rw [Array.getD_eq_getD_getElem?] at *
        cases hq : listed[i]? <;> simp_all
      have hnot : ∀ e ∈ oj.after, Region.binds .any e = true → e.on ≠ i := fun e he hb heq => by
        have h1 := hall e he hb
        rw [heq, hiun] at h1; cases h1
      have hnw : waitsT ops ops.size j i = false := by
        cases hq : waitsT ops ops.size j i with
        | false => rfl
        | true => have := waits_listed hcl _ _ _ oj hoj hall hq; rw [hiun] at this; cases this
      have h2 := wpOp_putC hoj (hfree j oj hoj hji hjun hnot) (fun cs b => hsel i oi cs b hi) (fun cs b => hsel j oj cs b hoj) hQ hy h1
      have hfree' : ∀ k ok, ops[k]? = some ok → k ≠ i → (listed.setIfInBounds j true).getD k true = false →
          (∀ e ∈ ok.after, Region.binds .any e = true → e.on ≠ i) → oi.apart ops ok = true := fun k ok hk hki hun hno => by
        refine hfree k ok hk hki ?_ hno
        by_cases hjk : j = k
        · subst hjk; exact hjun
        · rw [getD_set_ne true hjk] at hun; exact hun
      refine wpOp_mono (fun a' w' h3 => ?_) h2
      obtain ⟨hy', hk', hx'⟩ := h3
      have hC' : C w' := by
        unfold After at hk'
        split at hk'
        · rw [hk']; exact hC
        · exact hk' (i, C) (by simp) hnw
      refine ⟨After.tail hk', ih (listed.setIfInBounds j true) a' w' (hcl.set hj) hfree' (ready_mono hr (Ne.symm hji)) hy' hC' ?_⟩
      rw [Array.setIfInBounds_comm _ _ hji]
      exact hx'
theorem wp_region_X {id : Nat} {a : Act} {w : World} (hm : P.follows .mixedOrders = true)
    (h : wpAnyX P ops Q [] ops.size (Array.replicate ops.size false) a w.drew) : (Code.region id ops true).wp P Q a w :=
  wp_region_any hm (wpAny_of_X _ _ _ _ h)
theorem closed_start : Closed ops (Array.replicate ops.size false) := by
  intro j oj hj hl
  have hlt : j < ops.size := (Array.getElem?_eq_some_iff.1 hj).1
  simp [Array.getD_eq_getD_getElem?, hlt] at hl
end
end Go.Eng
namespace Go.Eng
section
variable {P : Program} {V : List Nat} {N : Nat} {s : List Ent} {env : Env} {w : World}
theorem stillEx_any (w1 : World) {a : Act} (inv : Inv V N s env w a.tmps) {p : List (Nat × Bool)} (hp : PathHolds a.tmps p) {o : Oper} {e : Ex} {v : Value}
    (h : stillEx P V s p o.op = some e) (hv : e.ev env w = some v) (hr : reader e = false ∨ isMove o.op = true) : (execOp a.eval o).run P w1 = .ok (.value v) w1 := by
  by_cases hpick : ∃ c x y, o.op = .pick c x y
  · obtain ⟨c, x, y, hpick⟩ := hpick
    have h0 := stillEx_sound (P := P) inv hp h hv
    obtain ⟨dst, op, type, pos, after, guard⟩ := o
    simp only at hpick
    subst hpick
    simp only [execOp] at h0 ⊢
    generalize a.eval c = cv at h0 ⊢
    cases cv <;> simp [asBool] at h0 ⊢
    rename_i b
    cases b <;> simp at h0 ⊢ <;> exact h0
  · have h' : opEx P (look V s p) o.op = some e := by
      obtain ⟨dst, op, type, pos, after, guard⟩ := o
      cases op <;> first | (simpa [stillEx] using h) | (exact absurd ⟨_, _, _, rfl⟩ hpick)
    exact opEx_sound' w1 (look_rel inv hp) (fun v => rfl) h' hv (.inl hr)
theorem buildEx_reader {place : Nat → Option (Nat × Nat)} {look : Operand → Option Ex} : ∀ (l : List (Nat × Operand)) (b e : Ex), reader b = false → buildEx place look b l = some e → reader e = false
  | [], b, e, hb, h => by simp [buildEx] at h; subst h; exact hb
  | (i, x) :: r, b, e, hb, h => by
    simp only [buildEx] at h
    split at h
    · exact buildEx_reader r _ e rfl h
    · cases h
theorem foldEx_reader {f : Ex → Ex → Ex} {look : Operand → Option Ex} (hf : ∀ b e, reader (f b e) = false) : ∀ (l : List Operand) (b e : Ex), reader b = false → foldEx f look b l = some e → reader e = false
  | [], b, e, hb, h => by simp [foldEx] at h; subst h; exact hb
  | x :: r, b, e, hb, h => by
    simp only [foldEx] at h
    split at h
    · exact foldEx_reader hf r _ e (hf _ _) h
    · cases h
theorem opEx_reader {look : Operand → Option Ex} {op : Op} {e : Ex} (h : opEx P look op = some e) (hr : reader e = true) (hm : isMove op = false) :
    (∃ t a, op = .load t a) ∨ (∃ s d x, op = .convert s d x) ∨ (∃ b t x y yt, op = .binOp b t x y yt) := by
  have no : ∀ {x : Operand} {f : Ex → Ex}, (look x).map f = some e → (∀ b, reader (f b) = false) → False := by
    intro x f h hf
    obtain ⟨a, ha, rfl⟩ := map_inv h
    rw [hf] at hr; cases hr
  cases op with
  | load t a => exact .inl ⟨_, _, rfl⟩
  | convert s d x => exact .inr (.inl ⟨_, _, _, rfl⟩)
  | binOp b t x y yt => exact .inr (.inr ⟨_, _, _, _, _, rfl⟩)
  | move x => simp [isMove] at hm
  | assign x => simp [isMove] at hm
  | pick c x y => simp [isMove] at hm
  | nilCheck x => exact (no h fun b => rfl).elim
  | sliceToArrayPointer arr x =>
    simp only [opEx] at h
    split at h
    · exact (no h fun b => rfl).elim
    · cases h
  | unOp o t x => exact (no h fun b => rfl).elim
  | extract x i => exact (no h fun b => rfl).elim
  | makeInterface t x =>
    simp only [opEx] at h
    split at h
    · cases h
    · exact (no h fun b => rfl).elim
    · cases h
  | makeFunc fn f c =>
    simp only [opEx] at h
    obtain ⟨b, h1, h2⟩ := bind_inv h
    have := foldEx_reader (fun b e => rfl) _ _ _ rfl h1
    have := foldEx_reader (fun b e => rfl) _ _ _ this h2
    rw [this] at hr; cases hr
  | build t ps =>
    simp only [opEx] at h
    split at h
    · split at h
      · obtain ⟨b, h1, h2⟩ := bind_inv h
        have := buildEx_reader _ _ _ rfl h2
        rw [this] at hr; cases hr
      · obtain ⟨b, h1, h2⟩ := bind_inv h
        have := buildEx_reader _ _ _ rfl h2
        rw [this] at hr; cases hr
      · cases h
    · cases h
  | slice t x lo hi mx =>
    cases mx with
    | some m => simp [opEx] at h
    | none =>
      simp only [opEx, sliceEx] at h
      split at h <;> (try cases h) <;> split at h <;> simp at h <;> subst h <;> simp [reader] at hr
  | fieldAddr t x f =>
    simp only [opEx] at h
    split at h <;> (try cases h)
    split at h <;> (try cases h)
    split at h <;> (try cases h)
    exact (no h fun b => rfl).elim
  | field t x f =>
    simp only [opEx] at h
    split at h <;> (try cases h)
    split at h <;> (try cases h)
    split at h <;> (try cases h)
    exact (no h fun b => rfl).elim
  | indexAddr t x i =>
    simp only [opEx] at h
    split at h <;> (try cases h)
    split at h <;> (try cases h)
    · obtain ⟨sz, hz, rfl⟩ := map_inv h; simp [reader] at hr
    · obtain ⟨sz, hz, rfl⟩ := map_inv h; simp [reader] at hr
  | index t x i =>
    simp only [opEx] at h
    split at h <;> (try cases h)
    split at h <;> (try cases h)
    · split at h <;> simp at h; subst h; simp [reader] at hr
    · simp [reader] at hr
  | call c =>
    obtain ⟨callee, args, argTypes⟩ := c
    cases callee with
    | value f => simp [opEx] at h
    | invoke r m => simp [opEx] at h
    | builtin b =>
      cases b <;> try (simp [opEx] at h; done)
      · simp only [opEx] at h
        split at h <;> (try cases h)
        split at h <;> (try cases h)
        · exact (no h fun b => rfl).elim
        · exact (no h fun b => rfl).elim
      · simp only [opEx] at h
        split at h <;> (try cases h)
        split at h <;> simp at h; subst h; simp [reader] at hr
      · simp only [opEx] at h
        split at h <;> (try cases h)
        split at h <;> simp at h; subst h; simp [reader] at hr
  | _ => simp [opEx] at h
theorem reader_sound {a : Act} (inv : Inv V N s env w a.tmps) {p : List (Nat × Bool)} (hp : PathHolds a.tmps p) {o : Oper} {e : Ex} {v : Value}
    (h : stillEx P V s p o.op = some e) (hr : reader e = true) (hm : isMove o.op = false) (hf : flat e = true) (hv : e.ev env w = some v) {w1 : World} (hv1 : e.ev env w1 = some v) :
    (execOp a.eval o).run P w1 = .ok (.value v) w1 := by
  have hrel := look_rel inv hp
  obtain ⟨dst, op, type, pos, after, guard⟩ := o
  have h' : opEx P (look V s p) op = some e := by
    cases op <;> first | (simpa [stillEx] using h) | (simp [isMove] at hm)
  rcases opEx_reader h' hr hm with ⟨t, x, rfl⟩ | ⟨s1, d, x, rfl⟩ | ⟨b, t, x, y, yt, rfl⟩
  · simp only [opEx] at h'
    split at h'
    · rename_i sz hz
      obtain ⟨ae, ha, rfl⟩ := map_inv h'
      simp only [Ex.ev] at hv hv1
      obtain ⟨u, hu, hv⟩ := bind_inv hv
      have hd : ae.dep = false := by simpa [flat] using hf
      rw [← ev_world w w1 ae hd, hu] at hv1
      simp only [Option.bind_some] at hv1
      have e1 := hrel _ _ _ ha hu
      simp [execOp, e1, run_loadAt hz hv1]
    · cases h'
  · simp only [opEx] at h'
    split at h'
    · obtain ⟨ae, ha, rfl⟩ := map_inv h'; simp [reader] at hr
    · obtain ⟨ae, ha, rfl⟩ := map_inv h'; simp [reader] at hr
    · rename_i el hs hd0
      split at h'
      · rename_i he
        obtain ⟨ae, ha, rfl⟩ := map_inv h'
        simp only [Ex.ev] at hv hv1
        obtain ⟨u, hu, hv⟩ := bind_inv hv
        have hd : ae.dep = false := by simpa [flat] using hf
        rw [← ev_world w w1 ae hd, hu] at hv1
        simp only [Option.bind_some] at hv1
        have e1 := hrel _ _ _ ha hu
        have h2 := run_bstr (P := P) hv1
        have : ∃ a l c, u = .slice a l c := by
          revert hv1; unfold bstrv; split <;> simp_all
        obtain ⟨aa, l, c, rfl⟩ := this
        simp only [execOp, Sem.run_bind, e1]
        rw [run_convert_bytes_string w1 s1 d _ aa l c hs he hd0, h2]
        rfl
      · cases h'
    · cases h'
  · simp only [opEx, binEx] at h'
    have bad : ∀ {f : Ex → Ex} {z : Operand}, (look V s p z).map f = some e → (∀ b, reader (f b) = false) → False := by
      intro f z h hff
      obtain ⟨a, ha, rfl⟩ := map_inv h
      rw [hff] at hr; cases hr
    split at h'
    · rename_i he
      split at h'
      · split at h'
        · exact (bad h' fun b => rfl).elim
        · cases h'
      · split at h'
        · split at h'
          · exact (bad h' fun b => rfl).elim
          · cases h'
        · simp only [eqEx] at h'
          split at h'
          · obtain ⟨_, _, _, _, rfl⟩ := bin2_inv h'; simp [reader] at hr
          · obtain ⟨_, _, _, _, rfl⟩ := bin2_inv h'; simp [reader] at hr
          · rename_i hni hns
            split at h'
            · cases h'
            · rename_i hg
              split at h'
              · rename_i dd hdd
                obtain ⟨xe, ye, hx, hy, rfl⟩ := bin2_inv h'
                simp only [Ex.ev] at hv hv1
                obtain ⟨u, hu, hv⟩ := bind_inv hv
                obtain ⟨u', hu', hv⟩ := bind_inv hv
                simp only [flat, Bool.and_eq_true, Bool.not_eq_true'] at hf
                rw [← ev_world w w1 xe hf.1, ← ev_world w w1 ye hf.2, hu, hu'] at hv1
                simp only [Option.bind_some] at hv1
                obtain ⟨r, hrr, rfl⟩ := map_inv hv1
                have e1 := hrel _ _ _ hx hu
                have e2 := hrel _ _ _ hy hu'
                obtain ⟨h1, h2⟩ := run_eqx (P := P) he hdd hni hns (by simpa using hg) x y hrr
                simp only [execOp, Sem.run_bind, e1, e2, h1, Result.andThen_ok, h2, Sem.run_pure]
              · cases h'
    · obtain ⟨_, _, _, _, rfl⟩ := bin2_inv h'; simp [reader] at hr
theorem thenTo_self (Q : Exit → Env → World → Prop) : thenTo (Q .normal) Q = Q := by
  funext x; cases x <;> rfl
theorem seqC_wp (a b : Cmd) (Q : Exit → Env → World → Prop) (env : Env) (w : World) : (seqC a b).wp P Q env w ↔ a.wp P (thenTo (b.wp P Q) Q) env w := by
  have hb : ∀ a : Cmd, a.wp P (thenTo (Cmd.skip.wp P Q) Q) env w ↔ a.wp P Q env w := fun a => by
    have : (Cmd.skip.wp P Q) = Q .normal := by funext env w; rfl
    rw [this, thenTo_self]
  unfold seqC
  split
  · rfl
  · exact (hb a).symm
  · rfl
theorem chkC_wp (l : List Ex) (Q : Exit → Env → World → Prop) (env : Env) (w : World) : (chkC l).wp P Q env w ↔ AllFine env w l ∧ Q .normal env w := by
  have : ∀ l, (Cmd.chk l).wp P Q env w ↔ AllFine env w l ∧ Q .normal env w := fun l => by
    simp only [Cmd.wp]
    constructor
    · intro h
      obtain ⟨vs, hvs, h⟩ := Ok_inv h
      exact ⟨evs_fine l hvs, h⟩
    · rintro ⟨h1, h2⟩
      obtain ⟨vs, hvs⟩ := fine_evs l h1
      rw [hvs]; exact h2
  cases l with
  | nil => exact ⟨fun h => ⟨(fun e he => by cases he), h⟩, fun h => h.2⟩
  | cons x r => exact this _
theorem covers_fine (c : Cmd) {Q : Exit → Env → World → Prop} {env : Env} {w : World} (h : c.wp P Q env w) : AllFine env w c.covers := by
  have one : ∀ {e : Ex} {v : Value}, e.ev env w = some v → AllFine env w [e] := fun {e v} h x hx => by
    simp at hx; subst hx; exact ⟨v, h⟩
  have emp : AllFine env w [] := fun e he => by cases he
  cases c with
  | set i e => obtain ⟨v, hv, _⟩ := Ok_inv h; exact one hv
  | call d f args st => obtain ⟨v, hv, _⟩ := Ok_inv h; exact evs_fine _ hv
  | dyn d f args st =>
    obtain ⟨v, hv, h⟩ := Ok_inv h
    obtain ⟨vs, hvs, h⟩ := Ok_inv h
    intro e he
    rcases List.mem_cons.1 he with rfl | he
    · exact ⟨v, hv⟩
    · exact evs_fine _ hvs e he
  | bi d b ats ty args st => obtain ⟨v, hv, _⟩ := Ok_inv h; exact evs_fine _ hv
  | sem d g args st => obtain ⟨v, hv, _⟩ := Ok_inv h; exact evs_fine _ hv
  | store n x v st =>
    obtain ⟨xv, hxv, h⟩ := Ok_inv h
    obtain ⟨vv, hvv, h⟩ := Ok_inv h
    intro e he
    simp [Cmd.covers] at he
    rcases he with rfl | rfl
    · exact ⟨xv, hxv⟩
    · exact ⟨vv, hvv⟩
  | new d T e st => obtain ⟨v, hv, _⟩ := Ok_inv h; exact one hv
  | row d T n e st => obtain ⟨v, hv, _⟩ := Ok_inv h; exact one hv
  | _ => exact emp
theorem nilP_eq {p : List (Nat × Bool)} (h : isNilP p = true) : p = [] := by
  unfold isNilP at h; split at h <;> simp_all
theorem cOps_fine (V : List Nat) (N : Nat) (ops : Array Oper) (draw : Bool) : ∀ (T : PT) (s : List Ent) (pend : List Ex) (live : Live) (dead : List Nat) (z : Cmd × List Ent × List Ex),
    cOps P V N ops draw T s pend live dead = some z → ∀ (Q : Exit → Env → World → Prop) (env : Env) (w : World), z.1.wp P Q env w →
    (∀ env w, Q .normal env w → AllFine env w z.2.2) → AllFine env w pend := by
  intro T
  induction T with
  | nil => intro s pend live dead z h Q env w hw hq; simp [cOps] at h; subst h; exact hq env w hw
  | alt a b iha ihb =>
    intro s pend live dead z h Q env w hw hq
    simp only [cOps] at h
    obtain ⟨x, hx, h⟩ := bind_inv h
    obtain ⟨y, hy, rfl⟩ := map_inv h
    have h1 := (seqC_wp (P := P) _ _ _ _ _).1 hw.1
    exact iha s pend live dead x hx _ env w h1 fun env w h => ((chkC_wp (P := P) _ _ _ _).1 h).1
  | one i r ih =>
    intro s pend live dead z h Q env w hw hq
    simp only [cOps] at h
    obtain ⟨o, ho, h⟩ := bind_inv h
    obtain ⟨p, hp, h⟩ := bind_inv h
    split at h
    · split at h
      · obtain ⟨e, he, h⟩ := bind_inv h
        obtain ⟨x, hx, h⟩ := bind_inv h
        split at h
        · have := ih _ _ _ _ z h Q env w hw hq
          exact fun y hy => this y (by simp [hy])
        · split at h
          · obtain ⟨z', hz', h⟩ := bind_inv h
            split at h
            · simp at h; subst h
              have h1 := (chkC_wp (P := P) _ _ _ _).1 ((seqC_wp (P := P) _ _ _ _ _).1 hw)
              have h2 := (seqC_wp (P := P) _ _ _ _ _).1 h1.2
              exact reduce_fine _ _ h1.1 (covers_fine _ h2)
            · obtain ⟨g, hg, rfl⟩ := map_inv h
              have h1 := (chkC_wp (P := P) _ _ _ _).1 ((seqC_wp (P := P) _ _ _ _ _).1 hw)
              obtain ⟨gv, hgv, _⟩ := Ok_inv ((seqC_wp (P := P) _ _ _ _ _).1 h1.2)
              exact reduce_fine _ _ h1.1 (fun y hy => by simp at hy; subst hy; exact ⟨gv, hgv⟩)
          · split at h
            · have := ih _ _ _ _ z h Q env w hw hq
              exact fun y hy => this y (by simp [hy])
            · cases h
      · obtain ⟨mk, hmk, h⟩ := bind_inv h
        obtain ⟨x, hx, h⟩ := bind_inv h
        split at h
        · obtain ⟨z', hz', h⟩ := map_inv h
          split at h
          · subst h
            have h1 := (chkC_wp (P := P) _ _ _ _).1 ((seqC_wp (P := P) _ _ _ _ _).1 hw)
            have h2 := (seqC_wp (P := P) _ _ _ _ _).1 h1.2
            exact reduce_fine _ _ h1.1 (covers_fine _ h2)
          · subst h
            have h1 := (chkC_wp (P := P) _ _ _ _).1 ((seqC_wp (P := P) _ _ _ _ _).1 hw)
            obtain ⟨gv, hgv, _⟩ := Ok_inv ((seqC_wp (P := P) _ _ _ _ _).1 h1.2)
            exact reduce_fine _ _ h1.1 (fun y hy => by simp at hy; subst hy; exact ⟨gv, hgv⟩)
        · cases h
    · cases h
end
end Go.Eng
namespace Go.Eng
section
variable {P : Program} {V : List Nat} {N : Nat} {ops : Array Oper}
def LiveOk (Cs : Cls) (live : Live) (dead : List Nat) (env : Env) (w : World) : Prop :=
  ∀ x ∈ Cs, x.1 ∈ dead ∨ (x.2 w ∧ ((∀ w', x.2 w') ∨ ∃ e, (x.1, e) ∈ live ∧ (flat e = true → ∃ v, e.ev env w = some v ∧ ∀ w', e.ev env w' = some v → x.2 w')))
theorem liveOk_more {Cs : Cls} {live live' : Live} {dead dead' : List Nat} {env : Env} {w : World} (h : LiveOk Cs live dead env w) (h1 : ∀ x ∈ live, x ∈ live') (h2 : ∀ x ∈ dead, x ∈ dead') : LiveOk Cs live' dead' env w := by
  intro x hx
  rcases h x hx with h | ⟨h3, h4⟩
  · exact .inl (h2 _ h)
  · refine .inr ⟨h3, ?_⟩
    rcases h4 with h4 | ⟨e, he, h5⟩
    · exact .inl h4
    · exact .inr ⟨e, h1 _ he, h5⟩
theorem liveOk_env {Cs : Cls} {live : Live} {dead : List Nat} {env env' : Env} {w : World} (u : Ex → Bool) (hu : ∀ e, u e = false → ∀ w, e.ev env' w = e.ev env w)
    (h : LiveOk Cs live dead env w) : LiveOk Cs (live.filter fun y => !(u y.2)) (dead ++ (live.filter fun y => u y.2).map (·.1)) env' w := by
  intro x hx
  rcases h x hx with h | ⟨h3, h4⟩
  · exact .inl (by simp [h])
  · rcases h4 with h4 | ⟨e, he, h5⟩
    · exact .inr ⟨h3, .inl h4⟩
    · cases hq : u e with
      | true =>
        refine .inl (List.mem_append_right _ (List.mem_map.2 ⟨(x.1, e), List.mem_filter.2 ⟨he, by simpa using hq⟩, rfl⟩))
      | false =>
        refine .inr ⟨h3, .inr ⟨e, List.mem_filter.2 ⟨he, by simp [hq]⟩, fun hf => ?_⟩⟩
        obtain ⟨v, hv, h6⟩ := h5 hf
        exact ⟨v, by rw [hu e hq]; exact hv, fun w' hw' => h6 w' (by rw [← hu e hq]; exact hw')⟩
theorem liveOk_eff {Cs : Cls} {live : Live} {dead : List Nat} {env : Env} {w w' : World} {i : Nat} (g : Nat × Ex → Bool)
    (hd : dead.all (waitsT ops ops.size i) = true) (hg : ∀ y, g y = true → waitsT ops ops.size i y.1 = true)
    (hf : (live.filter fun y => !(g y)).all (fun y => flat y.2) = true)
    (h : LiveOk Cs live dead env w) (hs : Stab ((live.filter fun y => !(g y)).map (·.2)) env w w') :
    Keep ops Cs i w' ∧ LiveOk Cs (live.filter fun y => !(g y)) (dead ++ (live.filter g).map (·.1)) env w' := by
  rw [List.all_eq_true] at hd hf
  have key : ∀ x ∈ Cs, x.1 ∈ dead ∨ x.1 ∈ (live.filter g).map (·.1) ∨ (x.2 w' ∧ ((∀ w', x.2 w') ∨ ∃ e, (x.1, e) ∈ (live.filter fun y => !(g y)) ∧ (flat e = true → ∃ v, e.ev env w' = some v ∧ ∀ w', e.ev env w' = some v → x.2 w'))) := by
    intro x hx
    rcases h x hx with h | ⟨h3, h4⟩
    · exact .inl h
    · rcases h4 with h4 | ⟨e, he, h5⟩
      · exact .inr (.inr ⟨h4 w', .inl h4⟩)
      · cases hq : g (x.1, e) with
        | true => exact .inr (.inl (List.mem_map.2 ⟨(x.1, e), List.mem_filter.2 ⟨he, hq⟩, rfl⟩))
        | false =>
          have hm : (x.1, e) ∈ live.filter fun y => !(g y) := List.mem_filter.2 ⟨he, by simp [hq]⟩
          have hfl := hf _ hm
          obtain ⟨v, hv, h6⟩ := h5 hfl
          have hv' := hs e (List.mem_map.2 ⟨_, hm, rfl⟩) v hv
          exact .inr (.inr ⟨h6 w' hv', .inr ⟨e, hm, fun _ => ⟨v, hv', h6⟩⟩⟩)
  constructor
  · intro x hx hw
    rcases key x hx with h | h | h
    · rw [hd _ h] at hw; cases hw
    · obtain ⟨y, hy, hyx⟩ := List.mem_map.1 h
      have := hg y (List.mem_filter.1 hy).2
      rw [hyx, hw] at this; cases this
    · exact h.1
  · intro x hx
    rcases key x hx with h | h | h
    · exact .inl (by simp [h])
    · exact .inl (List.mem_append_right _ h)
    · exact .inr h
inductive OneStep (P : Program) (V : List Nat) (N : Nat) (ops : Array Oper) (draw : Bool) (i : Nat) (r : PT) (z : Cmd × List Ent × List Ex) (live : Live) (dead : List Nat) (Qc : Exit → Env → World → Prop)
    (env : Env) (w : World) (a : Act) : Prop where
  | still (o : Oper) (v : Value) (C : World → Prop) (s' : List Ent) (pend' : List Ex) (live' : Live) (dead' : List Nat) (z' : Cmd × List Ent × List Ex) (env' : Env)
      (hst : stillAt P ops i = true) (ho : ops[i]? = some o) (hz : cOps P V N ops draw r s' pend' live' dead' = some z') (h2 : z'.2 = z.2)
      (hy : YieldsC P ops C o v a) (hC : C w) (inv : Inv V N s' env' w (a.put o.dst v).tmps) (hw : z'.1.wp P Qc env' w)
      (hl : draw = true → ∀ Cs, LiveOk Cs live dead env w → LiveOk ((i, C) :: Cs) live' dead' env' w)
  | eff (o : Oper) (s' : List Ent) (pend' : List Ex) (live' : Live) (dead' : List Nat) (z' : Cmd × List Ent × List Ex)
      (hst : stillAt P ops i = false) (ho : ops[i]? = some o) (hz : cOps P V N ops draw r s' pend' live' dead' = some z') (h2 : z'.2 = z.2)
      (h : ∀ (K : Act → World → Prop) (Qx : Exit → Act → World → Prop), (∀ env' w' a', Inv V N s' env' w' a'.tmps → a'.defers = a.defers → z'.1.wp P Qc env' w' →
          (∀ Cs, LiveOk Cs live dead env w → Keep ops Cs i w' ∧ LiveOk Cs live' dead' env' w') → K a' w') → wpOp P ops Qx i K a w)
def ClassOf (P : Program) (ops : Array Oper) (o : Oper) (a : Act) (v : Value) (w' : World) : Prop :=
  Region.wanted o (yielded ops a.tmps) = true → (execOp a.eval o).run P w' = .ok (.value v) w'
theorem classOf_yields {s : List Ent} {p : List (Nat × Bool)} {o : Oper} {e : Ex} {env : Env} {w : World} {a : Act} {v : Value} (hv : StillStep P ops V N s p o e env w a v) : YieldsC P ops (ClassOf P ops o a v) o v a := by
  cases hwt : Region.wanted o (yielded ops a.tmps) with
  | true => exact .inl ⟨hwt, fun w' h => h hwt⟩
  | false => exact .inr ⟨hwt, hv.skip hwt⟩
theorem classOf_live {draw : Bool} {i : Nat} {s : List Ent} {p : List (Nat × Bool)} {o : Oper} {e : Ex} {env : Env} {w : World} {a : Act} {v : Value} (inv : Inv V N s env w a.tmps) (hp : opPath ops s o = some p)
    (he : stillEx P V s p o.op = some e) (hv : StillStep P ops V N s p o e env w a v) {live : Live} {dead : List Nat} (hdraw : draw = true) (Cs : Cls) (hl : LiveOk Cs live dead env w) :
    LiveOk ((i, ClassOf P ops o a v) :: Cs) (liveOf draw i o e live) dead env w := by
  intro y hy
  have hsub : ∀ y ∈ live, y ∈ liveOf draw i o e live := by
    intro y hy; unfold liveOf; split <;> simp [hy]
  rcases List.mem_cons.1 hy with rfl | hy
  · refine .inr ⟨hv.run, ?_⟩
    by_cases hwt : Region.wanted o (yielded ops a.tmps) = true
    · have hpt := (wanted_path inv hp).1 hwt
      have hev := hv.yes hpt
      by_cases hr : reader e = true ∧ isMove o.op = false
      · refine .inr ⟨e, ?_, fun hfl => ⟨v, hev, fun w' hw' _ => reader_sound inv hpt he hr.1 hr.2 hfl hev hw'⟩⟩
        simp [liveOf, hdraw, hr.1, hr.2]
      · refine .inl fun w' _ => stillEx_any w' inv hpt he hev ?_
        by_cases h1 : reader e = true
        · exact .inr (by simpa [h1] using hr)
        · exact .inl (by simpa using h1)
    · exact .inl fun w' h => absurd h hwt
  · exact liveOk_more hl hsub (fun _ h => h) y hy
theorem eff_step {s : List Ent} {p : List (Nat × Bool)} {i : Nat} {o : Oper} {x : Ex} {mk : Option Nat → List Ex → Cmd} {env : Env} {w : World} {a : Act} (inv : Inv V N s env w a.tmps)
    (ho : ops[i]? = some o) (hp : opPath ops s o = some p) (hmk : opEff P (look V s p) o = some mk) (hx : wrapP V s [] p (.const (.bool true)) = some x) (hso : storeOk o = true)
    {st : List Ex} {Q : Exit → Env → World → Prop}
    (hw : if isNilP p then (mk (o.dst.bind (posV V)) st).wp P Q env w else (Cmd.cond x (mk (o.dst.bind (posV V)) st) (.clr (o.dst.bind (posV V)).toList)).wp P Q env w)
    {K : Act → World → Prop} {Qx : Exit → Act → World → Prop}
    (h1 : ∀ v w', PathHolds a.tmps p → Stab st env w w' → Q .normal (setO (o.dst.bind (posV V)) env v) w' → K (a.put o.dst v) w')
    (h2 : ¬ PathHolds a.tmps p → Q .normal ((o.dst.bind (posV V)).toList.foldl (fun env i => env.set i undef) env) w → K (a.put o.dst undef) w) : wpOp P ops Qx i K a w := by
  have hwp := wanted_path inv hp
  have go : PathHolds a.tmps p → (mk (o.dst.bind (posV V)) st).wp P Q env w → wpOp P ops Qx i K a w := by
    intro hpt hc
    unfold wpOp
    rw [ho]
    simp only [hwp.2 hpt, if_true]
    refine .inl (opEff_sound (look_rel inv hpt) hmk hc ?_ (fun v w' => h1 v w' hpt))
    intro t xx vv hop
    unfold storeOk at hso
    rw [hop] at hso
    cases hd : o.dst with
    | none => rfl
    | some t => simp [hd] at hso
  split at hw
  · rename_i hn
    have hn' := nilP_eq hn
    exact go (by rw [hn']; intro y hy; cases hy) hw
  · obtain ⟨gv, hgv, hc⟩ := Ok_inv hw
    rcases wrapP_spec inv p [] _ x gv hx (by intro y hy; cases hy) hgv with ⟨hph, hg1⟩ | ⟨hph, hg1⟩
    · simp only [Ex.ev, Option.some.injEq] at hg1
      rw [← hg1] at hc
      exact go (by simpa using hph) (by simpa [condTo] using hc)
    · rw [hg1] at hc
      have hc' : Q .normal ((o.dst.bind (posV V)).toList.foldl (fun env i => env.set i undef) env) w := by simpa [condTo, Cmd.wp] using hc
      unfold wpOp
      rw [ho]
      have hnw : Region.wanted o (yielded ops a.tmps) = false := by
        cases hq : Region.wanted o (yielded ops a.tmps) with
        | false => rfl
        | true => exact absurd (by simpa using hwp.1 hq) hph
      simp only [hnw, Bool.false_eq_true, if_false]
      exact h2 (by simpa using hph) hc'
theorem clr_ev {dst : Option Nat} {env : Env} (e : Ex) (h : (dst.any fun k => e.uses k) = false) (w : World) :
    e.ev (dst.toList.foldl (fun env i => env.set i undef) env) w = e.ev env w := by
  cases dst with
  | none => rfl
  | some k => simp only [Option.toList, List.foldl]; exact ev_set e (by simpa using h)
theorem setO_ev {dst : Option Nat} {env : Env} {v : Value} (e : Ex) (h : (dst.any fun k => e.uses k) = false) (w : World) : e.ev (setO dst env v) w = e.ev env w := by
  cases dst with
  | none => rfl
  | some k => exact ev_set e (by simpa using h)
theorem one_step {draw : Bool} {i : Nat} {r : PT} {s : List Ent} {pend : List Ex} {live : Live} {dead : List Nat} {z : Cmd × List Ent × List Ex}
    (h : cOps P V N ops draw (.one i r) s pend live dead = some z) {Qc : Exit → Env → World → Prop} {env : Env} {w : World} {a : Act} (inv : Inv V N s env w a.tmps)
    (hw : z.1.wp P Qc env w) (hq : ∀ env w, Qc .normal env w → AllFine env w z.2.2) : OneStep P V N ops draw i r z live dead Qc env w a := by
  have h0 := h
  simp only [cOps] at h0
  obtain ⟨o, ho, h1⟩ := bind_inv h0
  clear h0
  obtain ⟨p, hp, h2⟩ := bind_inv h1
  clear h1
  split at h2
  case isFalse => cases h2
  rename_i hchk
  simp only [Bool.and_eq_true] at hchk
  obtain ⟨hdead, hdst⟩ := hchk
  split at h2
  · rename_i hst
    have hstA : stillAt P ops i = true := by simp [stillAt, ho, hst]
    obtain ⟨e, he, h3⟩ := bind_inv h2
    clear h2
    obtain ⟨x, hx, h4⟩ := bind_inv h3
    clear h3
    split at h4
    · rename_i hd
      have hfine := cOps_fine (P := P) V N ops draw r _ _ _ _ z h4 Qc env w hw hq
      obtain ⟨v, hv⟩ := stillStep (P := P) inv hp he hx (hfine x (by simp))
      exact .still o v _ _ _ _ _ z env hstA ho h4 rfl (classOf_yields hv) hv.run (by rw [hd]; exact inv) hw (fun hdraw Cs hl => classOf_live inv hp he hv hdraw Cs hl)
    · rename_i t hd
      rw [hd] at hdst
      simp only [Option.all_some, Bool.and_eq_true, decide_eq_true_eq] at hdst
      obtain ⟨htN, hpt⟩ := hdst
      split at h4
      · rename_i k hk
        obtain ⟨z', hz', h5⟩ := bind_inv h4
        clear h4
        split at h5
        · rename_i hpn
          have hpn' := nilP_eq hpn
          have hz : z = (seqC (chkC (reduce pend [e])) (seqC (.set k e) z'.1), z'.2) := (Option.some.inj h5).symm
          rw [hz] at hw
          have w1 := (chkC_wp (P := P) _ _ _ _).1 ((seqC_wp (P := P) _ _ _ _ _).1 hw)
          have w2 := (seqC_wp (P := P) _ _ _ _ _).1 w1.2
          obtain ⟨u, hu, w3⟩ := Ok_inv w2
          have hxe : x = e := by rw [hpn'] at hx; simpa [wrapP] using hx.symm
          obtain ⟨v, hv⟩ := stillStep (P := P) inv hp he hx (by rw [hxe]; exact ⟨u, hu⟩)
          have hvu : v = u := by
            have := hv.yes (by rw [hpn']; intro y hy; cases hy)
            rw [this] at hu; exact Option.some.inj hu
          refine .still o v _ _ _ _ _ z' (env.set k v) hstA ho hz' (by rw [hz]) (classOf_yields hv) hv.run ?_ (by rw [hvu]; exact w3)
            (fun hdraw Cs hl => liveOk_env (fun e => e.uses k) (fun e he w => ev_set e he) (classOf_live inv hp he hv hdraw Cs hl))
          rw [hd]; exact inv_entP (inv_var inv hk htN (.inr rfl)) hk (fun h => by rw [hpn] at h; cases h)
        · rename_i hpn
          obtain ⟨g, hg, h6⟩ := map_inv h5
          rw [← h6] at hw
          have w1 := (chkC_wp (P := P) _ _ _ _).1 ((seqC_wp (P := P) _ _ _ _ _).1 hw)
          have w2 := (seqC_wp (P := P) _ _ _ _ _).1 w1.2
          obtain ⟨gv, hgv, w3⟩ := Ok_inv w2
          rcases wrapP_spec inv p [] _ g gv hg (by intro y hy; cases hy) hgv with ⟨hph, hg1⟩ | ⟨hph, hg1⟩
          · simp only [List.nil_append] at hph
            simp only [Ex.ev, Option.some.injEq] at hg1
            rw [← hg1] at w3
            simp only [condTo, if_true] at w3
            obtain ⟨u, hu, w4⟩ := Ok_inv w3
            have hrun := stillEx_sound (P := P) inv hph he hu
            have hv : StillStep P ops V N s p o e env w a u := ⟨fun _ => hrun, (fun hn => by rw [(wanted_path inv hp).2 hph] at hn; cases hn), fun _ => hu, fun hn => absurd hph hn⟩
            refine .still o u _ _ _ _ _ z' (env.set k u) hstA ho hz' (by rw [← h6]) (classOf_yields hv) hv.run ?_ w4
              (fun hdraw Cs hl => liveOk_env (fun e => e.uses k) (fun e he w => ev_set e he) (classOf_live inv hp he hv hdraw Cs hl))
            rw [hd]; exact inv_entP (inv_var inv hk htN (.inr rfl)) hk (fun _ hnp => absurd ((pathHolds_set _ hpt).2 hph) hnp)
          · simp only [List.nil_append] at hph
            rw [hg1] at w3
            simp only [condTo, Bool.false_eq_true, if_false] at w3
            have hnw : Region.wanted o (yielded ops a.tmps) = false := by
              cases hq : Region.wanted o (yielded ops a.tmps) with
              | false => rfl
              | true => exact absurd ((wanted_path inv hp).1 hq) hph
            have hv : StillStep P ops V N s p o e env w a undef := ⟨(fun hy => by rw [hnw] at hy; cases hy), fun _ => rfl, fun hy => absurd hy hph, fun _ => rfl⟩
            refine .still o undef _ _ _ _ _ z' (env.set k undef) hstA ho hz' (by rw [← h6]) (classOf_yields hv) hv.run ?_ w3
              (fun hdraw Cs hl => liveOk_env (fun e => e.uses k) (fun e he w => ev_set e he) (classOf_live inv hp he hv hdraw Cs hl))
            rw [hd]; exact inv_entP (inv_var inv hk htN (.inl rfl)) hk (fun _ _ => getD_set_self _ (by rw [inv.size]; exact htN))
      · rename_i hV
        split at h4
        case isFalse => cases h4
        rename_i hfr
        have hfine := cOps_fine (P := P) V N ops draw r _ _ _ _ z h4 Qc env w hw hq
        obtain ⟨v, hv⟩ := stillStep (P := P) inv hp he hx (hfine x (by simp))
        refine .still o v _ _ _ _ _ z env hstA ho h4 rfl (classOf_yields hv) hv.run ?_ hw (fun hdraw Cs hl => classOf_live inv hp he hv hdraw Cs hl)
        rw [hd]
        exact inv_tmp inv hV htN hfr hpt (fun h u hu => by rw [hv.yes h] at hu; exact Option.some.inj hu) hv.no
  · rename_i hst
    have hstA : stillAt P ops i = false := by simp [stillAt, ho, hst]
    obtain ⟨mk, hmk, h3⟩ := bind_inv h2
    clear h2
    obtain ⟨x, hx, h4⟩ := bind_inv h3
    clear h3
    split at h4
    case isFalse => cases h4
    rename_i hks
    simp only [Bool.and_eq_true] at hks
    obtain ⟨hkeep, hso⟩ := hks
    obtain ⟨z', hz', h6⟩ := map_inv h4
    clear h4
    have hdN : ∀ t, o.dst = some t → t < N := fun t ht => by
      rw [ht] at hdst
      simp only [Option.all_some, Bool.and_eq_true, decide_eq_true_eq] at hdst
      exact hdst.1
    have hdP : ∀ t, o.dst = some t → (p.all fun x => x.1 != t) = true := fun t ht => by
      rw [ht] at hdst
      simp only [Option.all_some, Bool.and_eq_true, decide_eq_true_eq] at hdst
      exact hdst.2
    have h7 : z'.2 = z.2 := by rw [← h6]; split <;> rfl
    refine .eff o _ _ _ _ z' hstA ho hz' h7 ?_
    intro K Qx hK
    -- what the command says of the effect
    have w2 : if isNilP p then (mk (o.dst.bind (posV V)) ((live.filter fun y => !(waitsT ops ops.size i y.1 && r.allW ops y.1)).map (·.2))).wp P (thenTo (z'.1.wp P Qc) Qc) env w
        else (Cmd.cond x (mk (o.dst.bind (posV V)) ((live.filter fun y => !(waitsT ops ops.size i y.1 && r.allW ops y.1)).map (·.2))) (.clr (o.dst.bind (posV V)).toList)).wp P (thenTo (z'.1.wp P Qc) Qc) env w := by
      rw [← h6] at hw
      split at hw
      · rename_i hn
        have w1 := (chkC_wp (P := P) _ _ _ _).1 ((seqC_wp (P := P) _ _ _ _ _).1 hw)
        rw [if_pos hn]
        exact (seqC_wp (P := P) _ _ _ _ _).1 w1.2
      · rename_i hn
        have w1 := (chkC_wp (P := P) _ _ _ _).1 ((seqC_wp (P := P) _ _ _ _ _).1 hw)
        rw [if_neg hn]
        exact (seqC_wp (P := P) _ _ _ _ _).1 w1.2
    have liveAt : ∀ (env' : Env) (w' : World), (∀ e : Ex, ((o.dst.bind (posV V)).any fun k => e.uses k) = false → ∀ w, e.ev env' w = e.ev env w) →
        Stab ((live.filter fun y => !(waitsT ops ops.size i y.1 && r.allW ops y.1)).map (·.2)) env w w' → ∀ Cs, LiveOk Cs live dead env w → Keep ops Cs i w' ∧
        LiveOk Cs ((live.filter fun y => !(waitsT ops ops.size i y.1 && r.allW ops y.1)).filter fun y => !((o.dst.bind (posV V)).any fun k => y.2.uses k))
          (dead ++ (live.filter fun y => waitsT ops ops.size i y.1 && r.allW ops y.1).map (·.1) ++ ((live.filter fun y => !(waitsT ops ops.size i y.1 && r.allW ops y.1)).filter fun y => (o.dst.bind (posV V)).any fun k => y.2.uses k).map (·.1)) env' w' := by
      intro env' w' hev hs Cs hl
      obtain ⟨hk, hl'⟩ := liveOk_eff (ops := ops) (i := i) (fun y => waitsT ops ops.size i y.1 && r.allW ops y.1) hdead (fun y hy => by simp only [Bool.and_eq_true] at hy; exact hy.1) hkeep hl hs
      exact ⟨hk, liveOk_env (fun e => (o.dst.bind (posV V)).any fun k => e.uses k) hev hl'⟩
    refine eff_step inv ho hp hmk hx hso w2 ?_ ?_
    · intro v w' hph hs hn
      refine hK _ w' _ (by
        rw [put_tmps]
        refine inv_entE (inv_eff inv w' hdN v) fun t ht hnp => absurd ?_ hnp
        rw [ht]
        exact (pathHolds_set _ (hdP t ht)).2 hph) (put_defers _ _ _) hn ?_
      exact liveAt _ w' (fun e he w => setO_ev e he w) hs
    · intro hph hn
      refine hK _ w _ (by
        rw [put_tmps]
        refine inv_entE (inv_noeff inv w hdN undef) fun t ht _ => ?_
        rw [ht]
        exact getD_set_self _ (by rw [inv.size]; exact hdN t ht)) (put_defers _ _ _) hn ?_
      exact liveAt _ w (fun e he w => clr_ev e he w) (fun e _ v h => h)
def PT.list : PT → Option (List Nat)
  | .nil => some []
  | .one i r => r.list.map (i :: ·)
  | .alt _ _ => none
theorem list_ofList (l : List Nat) : (PT.ofList l).list = some l := by
  induction l with
  | nil => rfl
  | cons i l ih => simp [PT.ofList, PT.list, ih]
theorem sound_seq {d : List Deferred} {Qc : Exit → Env → World → Prop} {Q : Exit → Act → World → Prop} : ∀ (T : PT) (l : List Nat), T.list = some l → ∀ (s : List Ent) (pend : List Ex) (live : Live) (dead : List Nat) (z : Cmd × List Ent × List Ex),
    cOps P V N ops false T s pend live dead = some z → ∀ (env : Env) (w : World) (a : Act), Inv V N s env w a.tmps → a.defers = d → z.1.wp P Qc env w →
    (∀ env w, Qc .normal env w → AllFine env w z.2.2) → (∀ env w a, Inv V N z.2.1 env w a.tmps → a.defers = d → Qc .normal env w → Q .normal a w) → wpOps P ops Q l a w := by
  intro T
  induction T with
  | nil =>
    intro l hl s pend live dead z h env w a inv hd hw hq hQ
    simp [PT.list] at hl; subst hl
    simp [cOps] at h; subst h
    exact hQ env w a inv hd hw
  | alt a b _ _ => intro l hl; simp [PT.list] at hl
  | one i r ih =>
    intro l hl s pend live dead z h env w a inv hd hw hq hQ
    simp only [PT.list] at hl
    obtain ⟨l', hl', rfl⟩ := map_inv hl
    rw [wpOps_cons]
    cases one_step h inv hw hq with
    | still o v C s' pend' live' dead' z' env' hst ho hz h2 hy hC inv' hw' _ =>
      refine hy.wpOp ho hC ?_
      exact ih l' hl' _ _ _ _ z' hz env' w _ inv' (by rw [put_defers]; exact hd) hw' (by rw [h2]; exact hq) (by rw [h2]; exact hQ)
    | eff o s' pend' live' dead' z' hst ho hz h2 hk =>
      refine hk _ Q fun env' w' a' inv' hd' hw' _ => ?_
      exact ih l' hl' _ _ _ _ z' hz env' w' a' inv' (by rw [hd']; exact hd) hw' (by rw [h2]; exact hq) (by rw [h2]; exact hQ)
def OnlyNormal (Q : Exit → Act → World → Prop) : Exit → Act → World → Prop
  | .normal, a, w => Q .normal a w
  | _, _, _ => False
theorem piOk_heads : ∀ (T : PT) (listed : Array Bool), piOk P ops true T listed = true → T.heads ≠ [] ∧ 1 ≤ T.depth
  | .nil, listed, h => by simp [piOk] at h
  | .one i r, listed, h => by simp [PT.heads, PT.depth]
  | .alt a b, listed, h => by
    simp only [piOk, Bool.true_or, Bool.true_and, Bool.and_eq_true] at h
    have := piOk_heads a listed h.1
    simp [PT.heads, PT.depth, this.1]
    omega
theorem sound_draw {d : List Deferred} (hsel : Region.noSelect ops = true) {Q : Exit → Act → World → Prop} : ∀ (T : PT) (br : Bool) (Qc : Exit → Env → World → Prop) (listed : Array Bool), piOk P ops br T listed = true → Closed ops listed →
    ∀ (s : List Ent) (pend : List Ex) (live : Live) (dead : List Nat) (z : Cmd × List Ent × List Ex),
    cOps P V N ops true T s pend live dead = some z → ∀ (env : Env) (w : World) (a : Act), Inv V N s env w a.tmps → a.defers = d → z.1.wp P Qc env w →
    (∀ env w, Qc .normal env w → AllFine env w z.2.2) → (∀ env w a, Inv V N z.2.1 env w a.tmps → a.defers = d → Qc .normal env w → Q .normal a w) →
    ∀ (Cs : Cls), LiveOk Cs live dead env w → ∀ fuel : Nat,
      (br = true → T.depth ≤ fuel + 1 → ∀ i ∈ T.heads, i ∈ Region.ready .any ops listed → wpOp P ops (OnlyNormal Q) i (fun a' w' => After P ops Cs i w w' ∧ wpAnyX P ops (OnlyNormal Q) Cs fuel (listed.setIfInBounds i true) a' w') a w) ∧
      (br = false → T.depth ≤ fuel → wpAnyX P ops (OnlyNormal Q) Cs fuel listed a w) := by
  intro T
  induction T with
  | nil =>
    intro br Qc listed hpi hcl s pend live dead z h env w a inv hd hw hq hQ Cs hl fuel
    cases br with
    | true => simp [piOk] at hpi
    | false =>
      refine ⟨(fun h => by cases h), fun _ _ => ?_⟩
      simp only [piOk, Bool.not_false, Bool.true_and, List.isEmpty_iff] at hpi
      simp [cOps] at h; subst h
      have hqq := hQ env w a inv hd hw
      cases fuel with
      | zero => exact ⟨hpi, hqq⟩
      | succ n => exact ⟨fun _ => hqq, fun i hi => by rw [hpi] at hi; cases hi⟩
  | one i r ih =>
    intro br Qc listed hpi hcl s pend live dead z h env w a inv hd hw hq hQ Cs hl fuel
    have effCase : stillAt P ops i = false → piOk P ops false r (listed.setIfInBounds i true) = true → ∀ f, r.depth ≤ f → i ∈ Region.ready .any ops listed →
        wpOp P ops (OnlyNormal Q) i (fun a' w' => After P ops Cs i w w' ∧ wpAnyX P ops (OnlyNormal Q) Cs f (listed.setIfInBounds i true) a' w') a w := by
      intro hns hpr f hf hi
      cases one_step h inv hw hq with
      | still o v C s' pend' live' dead' z' env' hst ho hz h2 hy hC inv' hw' hl' => rw [hns] at hst; cases hst
      | eff o s' pend' live' dead' z' hst ho hz h2 hk =>
        refine hk _ _ fun env' w' a' inv' hd' hw' hl' => ?_
        obtain ⟨hkeep, hlive⟩ := hl' Cs hl
        refine ⟨by unfold After; simp only [hns, Bool.false_eq_true, if_false]; exact hkeep, ?_⟩
        exact (ih false Qc _ hpr (hcl.set hi) _ _ _ _ z' hz env' w' a' inv' (by rw [hd']; exact hd) hw' (by rw [h2]; exact hq) (by rw [h2]; exact hQ) Cs hlive f).2 rfl hf
    cases br with
    | true =>
      refine ⟨fun _ hdep j hj hjr => ?_, (fun h => by cases h)⟩
      simp only [piOk, if_true, Bool.and_eq_true, Bool.not_eq_true'] at hpi
      simp only [PT.heads, List.mem_singleton] at hj
      subst hj
      simp only [PT.depth] at hdep
      exact effCase hpi.1 hpi.2 fuel (by omega) hjr
    | false =>
      refine ⟨(fun h => by cases h), fun _ hdep => ?_⟩
      simp only [PT.depth] at hdep
      obtain ⟨f, rfl⟩ : ∃ f, fuel = f + 1 := ⟨fuel - 1, by omega⟩
      simp only [piOk, Bool.false_eq_true, if_false, Bool.and_eq_true] at hpi
      obtain ⟨hpi1, hpr⟩ := hpi
      cases hst : stillAt P ops i with
      | false =>
        simp only [hst, Bool.false_eq_true, if_false, beq_iff_eq] at hpi1
        refine ⟨(fun h0 => by rw [h0] at hpi1; cases hpi1), fun j hj => ?_⟩
        rw [hpi1] at hj
        simp only [List.mem_singleton] at hj
        subst hj
        exact effCase hst hpr f (by omega) (by rw [hpi1]; simp)
      | true =>
        simp only [hst, if_true, Bool.and_eq_true] at hpi1
        obtain ⟨hrd, hfree⟩ := hpi1
        cases one_step h inv hw hq with
        | eff o s' pend' live' dead' z' hst' ho hz h2 hk => rw [hst] at hst'; cases hst'
        | still o v C s' pend' live' dead' z' env' hst' ho hz h2 hy hC inv' hw' hl' =>
          have hr : i ∈ Region.ready .any ops listed := by simpa using hrd
          refine wpAnyX_first ho (Region.noSelect_spec hsel) (fun c a w h => h) hst f listed a w hcl (Region.free_spec ho hfree) hr hy hC ?_
          exact (ih false Qc _ hpr (hcl.set hr) _ _ _ _ z' hz env' w _ inv' (by rw [put_defers]; exact hd) hw' (by rw [h2]; exact hq) (by rw [h2]; exact hQ) _ (hl' rfl Cs hl) f).2 rfl (by omega)
  | alt x y ihx ihy =>
    intro br Qc listed hpi hcl s pend live dead z h env w a inv hd hw hq hQ Cs hl fuel
    simp only [piOk, Bool.and_eq_true] at hpi
    obtain ⟨⟨hhd, hpx⟩, hpy⟩ := hpi
    simp only [cOps] at h
    obtain ⟨zx, hzx, h1⟩ := bind_inv h
    obtain ⟨zy, hzy, h2⟩ := map_inv h1
    rw [← h2] at hw hQ
    have wx := (seqC_wp (P := P) _ _ _ _ _).1 hw.1
    have wy := (seqC_wp (P := P) _ _ _ _ _).1 hw.2
    have hx : ∀ f, x.depth ≤ f + 1 → ∀ i ∈ x.heads, i ∈ Region.ready .any ops listed → wpOp P ops (OnlyNormal Q) i (fun a' w' => After P ops Cs i w w' ∧ wpAnyX P ops (OnlyNormal Q) Cs f (listed.setIfInBounds i true) a' w') a w :=
      fun f hf => (ihx true _ listed hpx hcl s pend live dead zx hzx env w a inv hd wx (fun env w h => ((chkC_wp (P := P) _ _ _ _).1 h).1)
        (fun env w a inv hd h => hQ env w a (inv_nil inv w) hd ((chkC_wp (P := P) _ _ _ _).1 h).2) Cs hl f).1 rfl hf
    have hy : ∀ f, y.depth ≤ f + 1 → ∀ i ∈ y.heads, i ∈ Region.ready .any ops listed → wpOp P ops (OnlyNormal Q) i (fun a' w' => After P ops Cs i w w' ∧ wpAnyX P ops (OnlyNormal Q) Cs f (listed.setIfInBounds i true) a' w') a w :=
      fun f hf => (ihy true _ listed hpy hcl s pend live dead zy hzy env w a inv hd wy (fun env w h => ((chkC_wp (P := P) _ _ _ _).1 h).1)
        (fun env w a inv hd h => hQ env w a (inv_nil inv w) hd ((chkC_wp (P := P) _ _ _ _).1 h).2) Cs hl f).1 rfl hf
    have both : ∀ f, (PT.alt x y).depth ≤ f + 1 → ∀ i ∈ (PT.alt x y).heads, i ∈ Region.ready .any ops listed → wpOp P ops (OnlyNormal Q) i (fun a' w' => After P ops Cs i w w' ∧ wpAnyX P ops (OnlyNormal Q) Cs f (listed.setIfInBounds i true) a' w') a w := by
      intro f hf i hi hr
      simp only [PT.depth] at hf
      simp only [PT.heads, List.mem_append] at hi
      rcases hi with hi | hi
      · exact hx f (by omega) i hi hr
      · exact hy f (by omega) i hi hr
    cases br with
    | true => exact ⟨fun _ hdep => both fuel hdep, (fun h => by cases h)⟩
    | false =>
      refine ⟨(fun h => by cases h), fun _ hdep => ?_⟩
      simp only [Bool.false_or, beq_iff_eq] at hhd
      have hne := piOk_heads x listed hpx
      have hd1 : 1 ≤ (PT.alt x y).depth := by simp only [PT.depth]; omega
      obtain ⟨f, rfl⟩ : ∃ f, fuel = f + 1 := ⟨fuel - 1, by omega⟩
      refine ⟨fun h0 => ?_, fun i hi => both f hdep i ?_ hi⟩
      · rw [h0] at hhd
        have := hne.1
        simp at hhd
        exact absurd hhd.1 this
      · rw [hhd] at hi; exact hi
theorem wp_onlyNormal {c : Code} {Q : Exit → Act → World → Prop} {a : Act} {w : World} (h : c.wp P (OnlyNormal Q) a w) : c.wp P Q a w :=
  Code.wp_mono (fun e a w h => by cases e <;> first | exact h | exact h.elim) h
def Sound (P : Program) (V : List Nat) (N : Nat) (c : Code) (st : St) (x : Cmd × St) : Prop :=
  (∀ (Q : Exit → Env → World → Prop) (env : Env) (w : World), x.1.wp P Q env w → (∀ env w, Q .normal env w → AllFine env w x.2.pend) → AllFine env w st.pend) ∧
  ∀ (d : List Deferred) (Qc : Exit → Env → World → Prop) (Q : Exit → Act → World → Prop) (env : Env) (w : World) (a : Act), Inv V N st.ents env w a.tmps → a.defers = d → x.1.wp P Qc env w →
    (∀ env w, Qc .normal env w → AllFine env w x.2.pend) →
    (∀ e env w a, Inv V N (match e with | .normal => x.2.ents | _ => []) env w a.tmps → a.defers = d → Qc e env w → Q e a w) → c.wp P Q a w
theorem cRegion_sound {id : Nat} {draw : Bool} {st : St} {x : Cmd × St} (h : cRegion P V N ops draw st = some x) : Sound P V N (.region id ops draw) st x := by
  unfold cRegion at h
  split at h
  · rename_i hdr
    subst hdr
    simp only at h
    split at h
    · rename_i hchk
      simp only [Bool.and_eq_true, decide_eq_true_eq] at hchk
      obtain ⟨⟨⟨hpi, hsel⟩, hm⟩, hdep⟩ := hchk
      obtain ⟨z, hz, rfl⟩ := map_inv h
      constructor
      · intro Q env w hw hq
        exact ((chkC_wp (P := P) _ _ _ _).1 ((seqC_wp (P := P) _ _ _ _ _).1 hw)).1
      · intro d Qc Q env w a inv hd hw hq hQ
        have w1 := ((chkC_wp (P := P) _ _ _ _).1 ((seqC_wp (P := P) _ _ _ _ _).1 hw)).2
        have w2 : z.1.wp P Qc env w.drew := (seqC_wp (P := P) _ _ _ _ _).1 w1
        refine wp_onlyNormal (wp_region_X hm ?_)
        exact (sound_draw hsel _ false Qc _ hpi closed_start [] [] [] [] z hz env w.drew a (inv_nil inv _) hd w2 hq (fun env w a inv hd h => hQ .normal env w a inv hd h) [] (fun x hx => by cases hx) ops.size).2 rfl hdep
    · cases h
  · rename_i hdr
    have hdr' : draw = false := by simpa using hdr
    subst hdr'
    obtain ⟨z, hz, rfl⟩ := map_inv h
    constructor
    · intro Q env w hw hq
      exact cOps_fine (P := P) V N ops false _ _ _ _ _ z hz Q env w hw hq
    · intro d Qc Q env w a inv hd hw hq hQ
      exact wp_region (sound_seq _ _ (list_ofList _) _ _ _ _ z hz env w a inv hd hw hq (fun env w a inv hd h => hQ .normal env w a inv hd h))
end
end Go.Eng
namespace Go.Eng
section
variable {P : Program} {V : List Nat} {N : Nat}
theorem look_ev {s : List Ent} {env : Env} {w : World} {a : Act} (inv : Inv V N s env w a.tmps) {c : Operand} {e : Ex} {v : Value} (h : look V s [] c = some e) (hv : e.ev env w = some v) : a.eval c = v :=
  look_rel inv (p := []) (by intro y hy; cases hy) c e v h hv
theorem cCode_sound : ∀ (c : Code) (st : St) (x : Cmd × St), cCode P V N c st = some x → Sound P V N c st x := by
  intro c
  induction c with
  | skip =>
    intro st x h
    simp [cCode] at h; subst h
    exact ⟨fun Q env w hw hq => hq env w hw, fun d Qc Q env w a inv hd hw hq hQ => wp_skip (hQ .normal env w a inv hd hw)⟩
  | region id ops draw => intro st x h; exact cRegion_sound h
  | seq b c ihb ihc =>
    intro st x h
    simp only [cCode] at h
    obtain ⟨xb, hxb, h1⟩ := bind_inv h
    obtain ⟨xc, hxc, rfl⟩ := map_inv h1
    have sb := ihb st xb hxb
    have sc := ihc xb.2 xc hxc
    constructor
    · intro Q env w hw hq
      exact sb.1 _ env w ((seqC_wp (P := P) _ _ _ _ _).1 hw) fun env w h => sc.1 Q env w h hq
    · intro d Qc Q env w a inv hd hw hq hQ
      refine wp_seq ?_
      refine sb.2 d (thenTo (xc.1.wp P Qc) Qc) _ env w a inv hd ((seqC_wp (P := P) _ _ _ _ _).1 hw) (fun env w h => sc.1 Qc env w h hq) ?_
      intro e env w a inv hd h
      cases e with
      | normal => exact sc.2 d Qc Q env w a inv hd h hq hQ
      | _ => exact hQ _ env w a inv hd h
  | cond c x y ihx ihy =>
    intro st z h
    simp only [cCode] at h
    obtain ⟨e, he, h1⟩ := bind_inv h
    obtain ⟨zx, hzx, h2⟩ := bind_inv h1
    obtain ⟨zy, hzy, rfl⟩ := map_inv h2
    have sx := ihx _ zx hzx
    have sy := ihy _ zy hzy
    constructor
    · intro Q env w hw hq
      have w1 := (chkC_wp (P := P) _ _ _ _).1 ((seqC_wp (P := P) _ _ _ _ _).1 hw)
      obtain ⟨v, hv, w2⟩ := Ok_inv w1.2
      exact reduce_fine _ _ w1.1 (fun e' he' => by simp at he'; subst he'; exact ⟨v, hv⟩)
    · intro d Qc Q env w a inv hd hw hq hQ
      have w1 := (chkC_wp (P := P) _ _ _ _).1 ((seqC_wp (P := P) _ _ _ _ _).1 hw)
      obtain ⟨v, hv, w2⟩ := Ok_inv w1.2
      have ev := look_ev inv he hv
      have side : ∀ {cc : Code} {zz : Cmd × St}, Sound P V N cc ⟨st.ents, [], st.ks⟩ zz ∨ (∃ ks, Sound P V N cc ⟨st.ents, [], ks⟩ zz) → (seqC zz.1 (chkC zz.2.pend)).wp P (thenTo (Qc .normal) Qc) env w → cc.wp P Q a w := by
        intro cc zz hs hz
        rw [thenTo_self] at hz
        have hz' := (seqC_wp (P := P) _ _ _ _ _).1 hz
        have gen : ∀ ks, Sound P V N cc ⟨st.ents, [], ks⟩ zz → cc.wp P Q a w := fun ks hs =>
          hs.2 d (thenTo ((chkC zz.2.pend).wp P Qc) Qc) Q env w a inv hd hz' (fun env w h => ((chkC_wp (P := P) _ _ _ _).1 h).1) (by
            intro e env w a inv hd h
            cases e with
            | normal => exact hQ .normal env w a (inv_nil inv w) hd ((chkC_wp (P := P) _ _ _ _).1 h).2
            | _ => exact hQ _ env w a inv hd h)
        rcases hs with hs | ⟨ks, hs⟩
        · exact gen _ hs
        · exact gen _ hs
      unfold condTo at w2
      split at w2
      · rename_i b
        refine wp_cond (t := b) ev ?_
        cases b with
        | true => simp only [if_true] at w2 ⊢; exact side (.inl sx) (by rw [thenTo_self]; exact w2)
        | false => simp only [Bool.false_eq_true, if_false] at w2 ⊢; exact side (.inr ⟨_, sy⟩) (by rw [thenTo_self]; exact w2)
      · exact w2.elim
  | block id b ih =>
    intro st x h
    simp only [cCode] at h
    obtain ⟨xb, hxb, rfl⟩ := map_inv h
    have sb := ih _ xb hxb
    constructor
    · intro Q env w hw hq
      exact ((chkC_wp (P := P) _ _ _ _).1 ((seqC_wp (P := P) _ _ _ _ _).1 hw)).1
    · intro d Qc Q env w a inv hd hw hq hQ
      have w1 := ((chkC_wp (P := P) _ _ _ _).1 ((seqC_wp (P := P) _ _ _ _ _).1 hw)).2
      refine wp_block ?_
      refine sb.2 d _ _ env w a inv hd ((seqC_wp (P := P) _ _ _ _ _).1 w1) (fun env w h => ((chkC_wp (P := P) _ _ _ _).1 h).1) ?_
      intro e env w a inv hd h
      cases e with
      | normal => exact hQ .normal env w a (inv_nil inv w) hd ((chkC_wp (P := P) _ _ _ _).1 h).2
      | exit id' =>
        simp only [thenTo, blockTo] at h
        simp only [Exit.inBlock]
        split at h
        · rename_i hid; simp only [hid, if_true]; exact hQ .normal env w a (inv_nil inv w) hd h
        · rename_i hid; simp only [hid, if_false]; exact hQ _ env w a inv hd h
      | _ => exact hQ _ env w a inv hd h
  | loop b ih =>
    intro st x h
    simp only [cCode] at h
    split at h
    · cases h
    · rename_i k ks hks
      obtain ⟨xb, hxb, rfl⟩ := map_inv h
      have sb := ih _ xb hxb
      constructor
      · intro Q env w hw hq
        exact ((chkC_wp (P := P) _ _ _ _).1 ((seqC_wp (P := P) _ _ _ _ _).1 hw)).1
      · intro d Qc Q env w a inv hd hw hq hQ
        have w1 := ((chkC_wp (P := P) _ _ _ _).1 ((seqC_wp (P := P) _ _ _ _ _).1 hw)).2
        obtain ⟨I, m, h0, hround⟩ := w1
        -- the rounds, counted down by the measure of the slots
        intro bf kk cs
        have key : ∀ n env w a, m env w = n → I env w → Inv V N [] env w a.tmps → a.defers = d →
            ∃ e a' w', Q e a' w' ∧ Arrives P (lone (bf.at a (.code b :: .inLoop b :: kk)) cs w) bf kk cs e a' w' := by
          intro n
          induction n using Nat.strongRecOn with
          | _ n ihn =>
            intro env w a hn hI inv hd
            have hb := hround env w hI
            have hwp := sb.2 d (thenTo ((chkC xb.2.pend).wp P (thenTo (fun env' w' => I (mask k env') w' ∧ m (mask k env') w' < m env w) Qc)) (thenTo (fun env' w' => I (mask k env') w' ∧ m (mask k env') w' < m env w) Qc))
              (Exit.then (fun a' w' => ∃ env', Inv V N [] env' w' a'.tmps ∧ a'.defers = d ∧ I env' w' ∧ m env' w' < m env w) Q) env w a inv hd ((seqC_wp (P := P) _ _ _ _ _).1 hb)
              (fun env w h => ((chkC_wp (P := P) _ _ _ _).1 h).1) (by
                intro e env' w' a' inv' hd' h
                cases e with
                | normal =>
                  have h2 := ((chkC_wp (P := P) _ _ _ _).1 h).2
                  exact ⟨mask k env', inv_mask inv' k, hd', h2.1, h2.2⟩
                | _ => exact hQ _ env' w' a' inv' hd' h)
            obtain ⟨e, a₁, w₁, hq1, harr⟩ := hwp bf (.inLoop b :: kk) cs
            cases e with
            | normal =>
              obtain ⟨env', inv', hd', hI', hlt⟩ := hq1
              obtain ⟨e₂, a₂, w₂, hq₂, harr₂⟩ := ihn (m env' w₁) (hn ▸ hlt) env' w₁ a₁ rfl hI' inv' hd'
              exact ⟨e₂, a₂, w₂, hq₂, .of_steps (Steps.trans harr (.one step_inLoop)) harr₂⟩
            | exit id => exact ⟨_, a₁, w₁, hq1, .pass (x := .inLoop b) rfl (fun _ _ => .inl (by simp)) harr⟩
            | goto l => exact ⟨_, a₁, w₁, hq1, .pass (x := .inLoop b) rfl (fun _ _ => .inl (by simp)) harr⟩
            | ret => exact ⟨_, a₁, w₁, hq1, .pass (x := .inLoop b) rfl (fun _ _ => .inl (by simp)) harr⟩
            | panic ch => exact ⟨_, a₁, w₁, hq1, .pass (x := .inLoop b) rfl (fun _ _ => .inl (by simp)) harr⟩
            | outgrown => exact ⟨_, a₁, w₁, hq1, .pass (x := .inLoop b) rfl (fun _ _ => .inl (by simp)) harr⟩
        obtain ⟨e, a', w', hq', harr⟩ := key _ (mask k env) w a rfl h0 (inv_mask inv k) hd
        exact ⟨e, a', w', hq', .of_steps (.one step_loop) harr⟩
  | exit id =>
    intro st x h
    simp [cCode] at h; subst h
    constructor
    · intro Q env w hw hq
      exact ((chkC_wp (P := P) _ _ _ _).1 ((seqC_wp (P := P) _ _ _ _ _).1 hw)).1
    · intro d Qc Q env w a inv hd hw hq hQ
      have w1 := ((chkC_wp (P := P) _ _ _ _).1 ((seqC_wp (P := P) _ _ _ _ _).1 hw)).2
      exact wp_exit (hQ (.exit id) env w a (inv_nil inv w) hd w1)
  | ret =>
    intro st x h
    simp [cCode] at h; subst h
    constructor
    · intro Q env w hw hq
      exact ((chkC_wp (P := P) _ _ _ _).1 ((seqC_wp (P := P) _ _ _ _ _).1 hw)).1
    · intro d Qc Q env w a inv hd hw hq hQ
      have w1 := ((chkC_wp (P := P) _ _ _ _).1 ((seqC_wp (P := P) _ _ _ _ _).1 hw)).2
      exact wp_ret (hQ .ret env w a (inv_nil inv w) hd w1)
  | _ => intro st x h; simp [cCode] at h
def resV : List Value → Value
  | [v] => v
  | vs => .tuple vs.toArray
def env0 (V : List Nat) (args : List Value) : Env := V.map fun t => (args[t]?).getD undef
def Ret (P : Program) (f : FuncId) (args : List Value) (w : World) (F : Value → World → Prop) : Prop := CallTo P f args.toArray w F
def RetPost (rs : List Ex) (F : Value → World → Prop) : Exit → Env → World → Prop
  | .normal, env, w | .ret, env, w => Ok (evs env w rs) fun vs => F (resV vs) w
  | _, _, _ => False
theorem env0_len (V : List Nat) (args : List Value) : (env0 V args).length = V.length := by simp [env0]
theorem inv_start {args : List Value} {n : Nat} (hn : args.length ≤ n) (w : World) :
    Inv V n [] (env0 V args) w (args.toArray ++ Array.replicate (n - args.toArray.size) undef) where
  len := env0_len V args
  size := by simp; omega
  agree := fun t i v hi hv => by
    refine .inr ?_
    have ht := (posV_spec hi).2
    unfold env0 at hv
    rw [List.getElem?_map, ht] at hv
    simp only [Option.map_some, Option.some.injEq] at hv
    rw [← hv, Array.getD_eq_getD_getElem?, Array.getElem?_append]
    simp only [List.size_toArray]
    split
    · simp
    · rename_i hlt
      have h1 : args[t]? = none := by simp; omega
      rw [h1, Array.getElem?_replicate]
      split <;> rfl
  ents := fun en hen => by cases hen
theorem resEx_run {env : Env} {w : World} {tmps : Array Value} (inv : Inv V N [] env w tmps) : ∀ (l : List ResultVar) (rs : List Ex) (vs : List Value), resEx P V l = some rs → evs env w rs = some vs →
    (l.mapM fun r => (match r with
      | .tmp t => pure (tmps.getD t undef)
      | .cell a t => do loadVar t (← asAddr (tmps.getD a undef)) : Sem Value)).run P w = .ok vs w
  | [], rs, vs, h, hv => by
    simp [resEx] at h; subst h
    simp [evs] at hv; subst hv
    simp
  | .tmp t :: r, rs, vs, h, hv => by
    simp only [resEx] at h
    split at h
    · rename_i i es hi hes
      simp at h; subst h
      simp only [evs] at hv
      obtain ⟨u, hu, h1⟩ := bind_inv hv
      obtain ⟨us, hus, h2⟩ := bind_inv h1
      simp at h2; subst h2
      have := resEx_run inv r es us hes hus
      have ht : tmps.getD t undef = u := by
        have hl := lookT_spec inv (p := []) (t := t) (e := .var i) (v := u) (by intro y hy; cases hy) (by simp [lookT, findE, hi]) hu
        exact hl
      simp only [List.mapM_cons, Sem.run_bind, Sem.run_pure, Result.andThen_ok, this, ht]
    · cases h
  | .cell a T :: r, rs, vs, h, hv => by
    simp only [resEx] at h
    split at h
    · rename_i i sz es hi hsz hes
      simp at h; subst h
      simp only [evs] at hv
      obtain ⟨u, hu, h1⟩ := bind_inv hv
      obtain ⟨us, hus, h2⟩ := bind_inv h1
      simp at h2; subst h2
      have := resEx_run inv r es us hes hus
      simp only [Ex.ev] at hu
      obtain ⟨q, hq, hu⟩ := bind_inv hu
      have ht : tmps.getD a undef = q :=
        lookT_spec inv (p := []) (t := a) (e := .var i) (v := q) (by intro y hy; cases hy) (by simp [lookT, findE, hi]) (by simp only [Ex.ev]; exact hq)
      have hload := run_loadAt (P := P) hsz hu
      have hp : ∃ ad, q = .pointer (some ad) := by
        unfold ldv at hu; split at hu
        · exact ⟨_, rfl⟩
        · cases hu
      obtain ⟨ad, rfl⟩ := hp
      simp only [Instr.loadAt, Instr.sureAddr, Sem.run_bind, Sem.run_pure, Result.andThen_ok] at hload
      have hadr : (asAddr (.pointer (some ad))).run P w = .ok ad w := rfl
      simp only [List.mapM_cons, Sem.run_bind, ht, hadr, Sem.run_pure, Result.andThen_ok, hload, this]
    · cases h
theorem run_results {fn : Func} {env : Env} {w : World} {tmps : Array Value} (inv : Inv V N [] env w tmps) {rs : List Ex} {vs : List Value} (h : resEx P V fn.results.toList = some rs) (hv : evs env w rs = some vs) :
    (results fn tmps).run P w = .ok (resV vs) w := by
  have h1 := resEx_run inv _ rs vs h hv
  rw [← Array.toList_mapM] at h1
  simp only [Sem.run_map] at h1
  unfold results
  simp only [Sem.run_bind]
  generalize (fn.results.mapM fun r => (match r with
      | .tmp t => pure (tmps.getD t undef)
      | .cell a t => do loadVar t (← asAddr (tmps.getD a undef)) : Sem Value)).run P w = r at h1 ⊢
  cases r with
  | halt x w1 => simp at h1
  | ok a w1 =>
    simp at h1
    obtain ⟨h2, rfl⟩ := h1
    have ha : a = vs.toArray := by rw [← h2]
    subst ha
    simp only [Result.andThen_ok, Sem.run_pure]
    congr 1
    cases vs with
    | nil => rfl
    | cons v r => cases r with
      | nil => rfl
      | cons v' r' => simp [resV]
theorem ret_of_cmd {f : FuncId} {fn : Func} {ks : List (List Nat)} {cmd : Cmd} {rs : List Ex} {args : List Value} {w : World} {F : Value → World → Prop}
    (hf : P.funcs[f]? = some fn) (hn : args.length ≤ fn.ntmps) (hc : compile P fn V ks = some (cmd, rs)) (hw : cmd.wp P (RetPost rs F) (env0 V args) w) : Ret P f args w F := by
  unfold compile at hc
  split at hc
  · rename_i c hb
    obtain ⟨x, hx, h1⟩ := bind_inv hc
    obtain ⟨rs', hrs, h2⟩ := map_inv h1
    simp only [Prod.mk.injEq] at h2
    obtain ⟨rfl, rfl⟩ := h2
    have sd := cCode_sound (P := P) c _ x hx
    unfold Ret CallTo
    refine calls_of_wp hf hb ?_
    refine sd.2 [] (thenTo ((chkC x.2.pend).wp P (RetPost rs' F)) (RetPost rs' F)) _ (env0 V args) w _ (inv_start hn w) rfl ((seqC_wp (P := P) _ _ _ _ _).1 hw) (fun env w h => ((chkC_wp (P := P) _ _ _ _).1 h).1) ?_
    intro e env w a inv hd h
    have fin : RetPost rs' F .normal env w → a.defers = [] ∧ ∃ v, (results fn a.tmps).run P w = .ok v w ∧ (∃ u, Ending.returned v = .returned u ∧ F u w) := by
      intro h
      obtain ⟨vs, hvs, hF⟩ := Ok_inv h
      exact ⟨hd, resV vs, run_results (inv_nil inv w) hrs hvs, _, rfl, hF⟩
    cases e with
    | normal => exact fin ((chkC_wp (P := P) _ _ _ _).1 h).2
    | ret => exact fin h
    | _ => exact (h : False).elim
  · cases hc
end
end Go.Eng
