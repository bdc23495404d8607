/- Engine, part XJ: commands and how the interpreter runs them. -/
import Derived.Test.YtkgpmjjleemdlaaGreatEngXP
set_option linter.unusedSimpArgs false
set_option linter.unusedVariables false
set_option linter.unusedSectionVars false
namespace Go.Eng
variable [Sy]

theorem EqD.noPtr_eq {w w' : World} : ∀ (d : EqD), d.noPtr = true → ∀ u v, eqv w' d u v = eqv w d u v := by
  intro d
  induction d with
  | ptr => intro h; cases h
  | cons off sz d r ih1 ih2 =>
    intro h u v
    simp only [EqD.noPtr, Bool.and_eq_true] at h
    cases u with
    | agg xs =>
      cases v with
      | agg ys => simp only [eqv, ih1 h.1, ih2 h.2]
      | _ => rfl
    | _ => rfl
  | _ => intro _ u v; cases u <;> cases v <;> rfl
theorem Ex.noLd_ev {env : Env} {w w' : World} : ∀ (e : Ex), e.noLd = true → e.ev env w' = e.ev env w := by
  intro e
  induction e with
  | var i => intro _; rfl
  | const v => intro _; rfl
  | op1 o x ih => intro h; simp only [Ex.ev, ih h]
  | op2 o x y ih1 ih2 => intro h; simp only [Ex.noLd, Bool.and_eq_true] at h; simp only [Ex.ev, ih1 h.1, ih2 h.2]
  | op3 o x y z ih1 ih2 ih3 => intro h; simp only [Ex.noLd, Bool.and_eq_true] at h; simp only [Ex.ev, ih1 h.1, ih2 h.2.1, ih3 h.2.2]
  | pick c a b ih1 ih2 ih3 => intro h; simp only [Ex.noLd, Bool.and_eq_true] at h; simp only [Ex.ev, ih1 h.1, ih2 h.2.1, ih3 h.2.2]
  | eqx ne d x y ih1 ih2 => intro h; simp only [Ex.noLd, Bool.and_eq_true] at h; simp only [Ex.ev, ih1 h.2.1, ih2 h.2.2, EqD.noPtr_eq (w := w) (w' := w') d h.1]
  | _ => intro h; cases h
section
variable {P : Program} {G : Nat} {wE w w' : World} {ρ ρ' : Rho} {h h' : HT} {m m' s s' : Nat} {env env' : Env}
theorem eqN_some {a b : Option Nat} (h : eqN a b = true) : ∃ n, a = some n ∧ b = some n := by
  cases a with
  | none => cases h
  | some a =>
    cases b with
    | none => cases h
    | some b => exact ⟨a, rfl, by rw [Nat.eq_of_beq_eq_true (show Nat.beq a b = true from h)]⟩
theorem stampOf_some {b n : Nat} (hb : stampOf h b = some n) : ∃ o, h.get b = some o ∧ o.stamp = n := by
  unfold stampOf at hb
  split at hb
  · rename_i c T t hg
    exact ⟨_, hg, Option.some.inj hb⟩
  · cases hb
theorem ldv_heap {sz : Option Nat} {b o : Nat} {sp : Option Nat} (hw : w'.heap[b]? = w.heap[b]?) : ldv w' sz (.pointer (some ⟨b, o, sp⟩)) = ldv w sz (.pointer (some ⟨b, o, sp⟩)) := by
  cases sp with
  | some sp => rfl
  | none => cases sz <;> simp only [ldv, wcell, wrow, hw]
theorem stab_of (hs : HS G wE ρ h m s w) (hs' : HS G wE ρ' h' m' s' w') {mm : Nat} (st : Step mm ρ ρ' h h' m m' s s' w w') (he : EnvQ ρ env env') : ∀ (l : List Ex), l.all (stOk G) = true → stable l h h' env = true → Stab l env' w w' := by
  intro l
  induction l with
  | nil => intro _ _ e hx; cases hx
  | cons a r ih =>
    intro hk hst
    simp only [List.all_cons, Bool.and_eq_true] at hk
    have hst' : (Bool.rec false (stable r h h' env) (stable1 h h' env a) : Bool) = true := hst
    cases h1 : stable1 h h' env a with
    | false => rw [h1] at hst'; cases hst'
    | true =>
      rw [h1] at hst'
      intro e hx
      rcases List.mem_cons.1 hx with rfl | hx
      · intro v hv
        cases e with
        | ld sz x =>
          have hk1 := hk.1
          simp only [stOk, Bool.and_eq_true] at hk1
          have h2 : (Option.rec false (fun v => vPtr v (fun b _ => eqN (stampOf h b) (stampOf h' b)) (isCh v)) (xe h env x) : Bool) = true := h1
          cases hu : xe h env x with
          | none => rw [hu] at h2; cases h2
          | some u =>
            rw [hu] at h2
            obtain ⟨u', g1, g2⟩ := xe_vq hs he x hk1.1 hu
            cases g2 with
            | sym j =>
              simp only [Ex.ev] at hv ⊢
              rw [Ex.noLd_ev (w := w) (w' := w') x hk1.2, g1]
              rw [g1] at hv
              simp only [Option.bind_some] at hv ⊢
              cases e : Sy.θ j <;> rw [e] at hv <;> try (cases hv; done)
              rename_i a
              cases a with
              | none => cases hv
              | some a =>
                obtain ⟨b, o, sp⟩ := a
                have hb := Sy.okp wE j b o sp hs.ext e
                rw [ldv_heap (w := w)]
                · exact hv
                · rw [hs.kept.block b hb fun h => h, hs'.kept.block b hb fun h => h]
            | ptr b o sp hb =>
              cases sp with
              | some sp => cases h2
              | none =>
                obtain ⟨n, h3, h4⟩ := eqN_some (show eqN (stampOf h b) (stampOf h' b) = true from h2)
                obtain ⟨o1, h5, h6⟩ := stampOf_some h3
                obtain ⟨o2, h7, h8⟩ := stampOf_some h4
                have hw := st.same b o1 o2 h5 h7 (h6.trans h8.symm)
                simp only [Ex.ev] at hv ⊢
                rw [Ex.noLd_ev (w := w) (w' := w') x hk1.2, g1]
                rw [g1] at hv
                simp only [Option.bind_some] at hv ⊢
                rw [ldv_heap hw]
                exact hv
            | _ => cases h2
        | _ => rw [Ex.noLd_ev (w := w) (w' := w') _ hk.1]; exact hv
      · exact ih hk.2 hst' e hx

theorem xset_eq (d : Option Nat) (v : Value) (env : Env) (h : HT) (m s r : Nat) : xset d v env h m s r = .st .normal (setO d env v) h m s r := by
  cases d with
  | none => rfl
  | some i => exact setK_eq env i v _
theorem xclr_eq : ∀ (l : List Nat) (env : Env) (k : Env → XS), xclr l env k = k (l.foldl (fun env i => env.set i undef) env)
  | [], env, k => rfl
  | i :: r, env, k => by
    show setK env i undef (fun env => xclr r env k) = _
    rw [setK_eq, xclr_eq r]
    rfl
/-- What is known of a function of the table: a call of it comes to what the interpreter tells. -/
def ROk (P : Program) (G : Nat) (wE : World) (tab : XT) (R : CH) : Prop := ∀ f F vs h m s v h' m' s', tab.get f = some F → R F vs h m s = .ok v h' m' s' → ∀ (ρ : Rho) (w : World) (vs' : List Value), HS G wE ρ h m s w → LQ ρ vs vs' →
  Ret P f vs' w fun v' w' => ∃ ρ', VQ ρ' v v' ∧ HS G wE ρ' h' m' s' w' ∧ Step m ρ ρ' h h' m m' s s' w w'
def Post (G : Nat) (wE : World) (ρ : Rho) (h : HT) (m s : Nat) (w : World) (xx : Exit) (env2 : Env) (h2 : HT) (m2 s2 : Nat) : Exit → Env → World → Prop := fun x' env2' w2 => x' = xx ∧ ∃ ρ2, HS G wE ρ2 h2 m2 s2 w2 ∧ EnvQ ρ2 env2 env2' ∧ Step m ρ ρ2 h h2 m m2 s s2 w w2
def Snd (P : Program) (G : Nat) (wE : World) (tab : XT) (R : CH) (c : Cmd) (x : XC) : Prop := ∀ env h m s r xx env2 h2 m2 s2 r2, xcmd tab R x env h m s r = .st xx env2 h2 m2 s2 r2 → ∀ (ρ : Rho) (w : World) (env' : Env), HS G wE ρ h m s w → EnvQ ρ env env' →
  c.wp P (Post G wE ρ h m s w xx env2 h2 m2 s2) env' w
theorem xs_some {x : XS} {k : Exit → Env → HT → Nat → Nat → Nat → XS} {xx : Exit} {env2 : Env} {h2 : HT} {m2 s2 r2 : Nat} (h : (XS.rec .bad k x : XS) = .st xx env2 h2 m2 s2 r2) : ∃ x1 env1 h1 m1 s1 r1, x = .st x1 env1 h1 m1 s1 r1 ∧ k x1 env1 h1 m1 s1 r1 = .st xx env2 h2 m2 s2 r2 := by
  cases x with
  | bad => cases h
  | st x1 env1 h1 m1 s1 r1 => exact ⟨_, _, _, _, _, _, rfl, h⟩
theorem os_some {α : Type} {o : Option α} {f : α → XS} {xx : Exit} {env2 : Env} {h2 : HT} {m2 s2 r2 : Nat} (h : (Option.rec .bad f o : XS) = .st xx env2 h2 m2 s2 r2) : ∃ a, o = some a ∧ f a = .st xx env2 h2 m2 s2 r2 := by
  cases o with
  | none => cases h
  | some a => exact ⟨a, rfl, h⟩
theorem bs_some {b : Bool} {y : XS} {xx : Exit} {env2 : Env} {h2 : HT} {m2 s2 r2 : Nat} (h : (Bool.rec .bad y b : XS) = .st xx env2 h2 m2 s2 r2) : b = true ∧ y = .st xx env2 h2 m2 s2 r2 := by
  cases b
  · cases h
  · exact ⟨rfl, h⟩
theorem xr_some {x : XR} {k : Value → HT → Nat → Nat → XS} {xx : Exit} {env2 : Env} {h2 : HT} {m2 s2 r2 : Nat} (h : (XR.rec .bad k x : XS) = .st xx env2 h2 m2 s2 r2) : ∃ v h1 m1 s1, x = .ok v h1 m1 s1 ∧ k v h1 m1 s1 = .st xx env2 h2 m2 s2 r2 := by
  cases x with
  | bad => cases h
  | ok v h1 m1 s1 => exact ⟨_, _, _, _, rfl, h⟩
theorem vqs_lq {a b : List Value} (h : VQs ρ ⟨a⟩ ⟨b⟩) : LQ ρ a b := ⟨by simpa using h.1, fun i u v hu hv => h.2 i u v (by simpa using hu) (by simpa using hv)⟩

/-! From commands to the interpreter's. -/
theorem gd_some {α : Type} {b : Bool} {x y : α} (h : gd b x = some y) : b = true ∧ x = y := by
  cases b
  · cases h
  · exact ⟨rfl, Option.some.inj h⟩
theorem elT_some {t e sz : Nat} {zl : List Value} (h : elT P t = some (e, sz, zl)) : ElT P t e sz ∧ ∃ i z, P.underlying t = some (.slice e) ∧ P.info? e = some i ∧ i.zero = some z ∧ z.cells.size = i.size ∧ i.size = sz ∧ i.bytes ≤ 65536 ∧ zl = z.cells.toList := by
  unfold elT at h
  split at h
  · rename_i e' hu
    split at h
    · rename_i i hi
      split at h
      · rename_i z hz
        obtain ⟨h1, h2⟩ := gd_some h
        simp only [Prod.mk.injEq] at h2
        obtain ⟨rfl, rfl, rfl⟩ := h2
        simp only [Bool.and_eq_true] at h1
        have a1 := Nat.eq_of_beq_eq_true h1.1
        have a2 := Nat.le_of_ble_eq_true h1.2
        exact ⟨⟨i, z, hu, hi, hz, a1, rfl, a2⟩, i, z, hu, hi, hz, a1, rfl, a2, rfl⟩
      · cases h
    · cases h
  · cases h
/-! Masks. -/
theorem maskK_eq (k : Env → XS) : ∀ (env : Env) (ks : List Nat), maskK ks env k = k (maskX ks 0 env) := by
  have key : ∀ (env : Env) (ks : List Nat) (i : Nat) (k : Env → XS), (List.rec (fun _ _ k => k []) (fun v _ ih ks i k => List.rec (motive := fun _ => XS) (ih [] (Nat.succ i) fun env => k (undef :: env)) (fun j ks' _ => Bool.rec (ih ks (Nat.succ i) fun env => k (undef :: env)) (ih ks' (Nat.succ i) fun env => k (v :: env)) (Nat.beq j i)) ks) env : List Nat → Nat → (Env → XS) → XS) ks i k = k (maskX ks i env) := by
    intro env
    induction env with
    | nil => intro ks i k; cases ks <;> rfl
    | cons v r ih =>
      intro ks i k
      cases ks with
      | nil => exact ih [] (i + 1) fun env => k (undef :: env)
      | cons j ks =>
        rw [maskX]
        have e : ∀ (A B : XS), (Bool.rec A B (Nat.beq j i) : XS) = if j = i then B else A := fun A B => brec_beq
        refine (e _ _).trans ?_
        by_cases hj : j = i
        · rw [if_pos hj, if_pos hj]; exact ih ks (i + 1) fun env => k (v :: env)
        · rw [if_neg hj, if_neg hj]; exact ih (j :: ks) (i + 1) fun env => k (undef :: env)
  exact fun env ks => key env ks 0 k
theorem maskX_at : ∀ (env : Env) (ks : List Nat) (i n : Nat) (u : Value), (maskX ks i env)[n]? = some u → isUndef u = true ∨ (env[n]? = some u ∧ (i + n) ∈ ks) := by
  intro env
  induction env with
  | nil => intro ks i n u h; cases ks <;> simp [maskX] at h
  | cons v r ih =>
    intro ks i n u h
    cases ks with
    | nil =>
      cases n with
      | zero => simp [maskX] at h; subst h; exact .inl rfl
      | succ n =>
        simp only [maskX, List.getElem?_cons_succ] at h ⊢
        rcases ih [] (i + 1) n u h with g | g
        · exact .inl g
        · exact .inr ⟨g.1, by rw [show i + (n + 1) = i + 1 + n by omega]; exact g.2⟩
    | cons j ks =>
      rw [maskX] at h
      by_cases hj : j = i
      · rw [if_pos hj] at h
        cases n with
        | zero => simp at h; subst h; exact .inr ⟨rfl, by simp [hj]⟩
        | succ n =>
          simp only [List.getElem?_cons_succ] at h ⊢
          rcases ih ks (i + 1) n u h with g | g
          · exact .inl g
          · exact .inr ⟨g.1, by rw [show i + (n + 1) = i + 1 + n by omega]; exact List.mem_cons_of_mem _ g.2⟩
      · rw [if_neg hj] at h
        cases n with
        | zero => simp at h; subst h; exact .inl rfl
        | succ n =>
          simp only [List.getElem?_cons_succ] at h ⊢
          rcases ih (j :: ks) (i + 1) n u h with g | g
          · exact .inl g
          · exact .inr ⟨g.1, by rw [show i + (n + 1) = i + 1 + n by omega]; exact g.2⟩
theorem maskX_len : ∀ (env : Env) (ks : List Nat) (i : Nat), (maskX ks i env).length = env.length := by
  intro env
  induction env with
  | nil => intro ks i; cases ks <;> rfl
  | cons v r ih =>
    intro ks i
    cases ks with
    | nil => simp [maskX, ih]
    | cons j ks => rw [maskX]; split <;> simp [ih]
theorem EnvQ.maskx (he : EnvQ ρ env env') (ks : List Nat) : EnvQ ρ (maskX ks 0 env) (Go.Eng.mask ks env') := by
  refine ⟨by simp [Go.Eng.mask, maskX_len, he.1], fun i u v hu hv => ?_⟩
  rcases maskX_at env ks 0 i u hu with g | ⟨g1, g2⟩
  · exact .inl g
  · simp only [Go.Eng.mask, List.getElem?_mapIdx, Option.map_eq_some_iff] at hv
    obtain ⟨v', hv', rfl⟩ := hv
    rw [if_pos (by simpa using g2)]
    exact he.2 i u v' g1 hv'
end
end Go.Eng
