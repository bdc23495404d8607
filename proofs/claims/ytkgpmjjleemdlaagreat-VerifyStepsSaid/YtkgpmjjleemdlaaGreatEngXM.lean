/- Engine, part XM: functions; a table of them; what a call tells. -/
import Derived.Test.YtkgpmjjleemdlaaGreatEngXL
set_option linter.unusedSimpArgs false
set_option linter.unusedVariables false
set_option linter.unusedSectionVars false
namespace Go.Eng

/-- A function, made by program. -/
noncomputable def fnX (P : Program) (G A : Nat) (fn : Func) (np : Nat) (V : List Nat) (ks : List (List Nat)) : Option XF := match compile P fn V ks with
  | some (cmd, rs) => match toX P G A cmd with
    | some c => gd (fn.body.isSome && (!(fn.name == "runtime.NumGoroutine") && (Nat.ble np fn.ntmps && rs.all (·.kc G)))) ⟨np, V, c, rs⟩
    | none => none
  | none => none
/-- A function of the table is the program's. -/
def FnOk (P : Program) (G A : Nat) (f : FuncId) (F : XF) : Prop := ∃ fn ks cmd, P.funcs[f]? = some fn ∧ funOk P f = true ∧ F.np ≤ fn.ntmps ∧ compile P fn F.V ks = some (cmd, F.rs) ∧ toX P G A cmd = some F.c ∧ F.rs.all (·.kc G) = true
/-- What a function without arguments tells, and that it changes nothing, is known: it need not be run. -/
def sumF (v : Value) : XF := ⟨0, [], .skip, [.const v]⟩
def SumOk (P : Program) (wE : World) (f : FuncId) (F : XF) : Prop := ∃ v, plainV v = true ∧ F = sumF v ∧ funOk P f = true ∧ ∀ w, Kept none' wE w → CallTo P f #[] w fun v' w' => v' = v ∧ Kept none' w w'
/-- A function that tells the keys of a map, sorted: the map is a field (the k-th cell) of what its argument points at. -/
def keysF (k : Nat) : XF := ⟨1, [0, 1], .keys (some 1) (.ld none (.offp k (.var 0))) [], [.var 1]⟩
def KeysOk (P : Program) (f : FuncId) (k : Nat) : Prop := ∀ (w : World) (b o mb : Nat) (ents : Array MapEntry) (clock : Nat) (ns : List Int), wcell w b (o + k) = some (.map (some mb)) → w.heap[mb]? = some (.map ents clock) → MapKept.Stamped ents clock → ents.toList.map (·.key) = ns.map (Value.int .i64) →
  (∀ n ∈ ns, -9223372036854775808 ≤ n ∧ n ≤ 9223372036854775807) → ns.length ≤ 1000000000 → CallTo P f #[.pointer (some ⟨b, o, none⟩)] w fun v w' => Kept none' w w' ∧ ∃ ss : List Int, ss.Perm ns ∧ ss.Pairwise (· ≤ ·) ∧
    ((ss = [] ∧ v = .slice none 0 0) ∨ ss ≠ [] ∧ ∃ g cap cur T, v = .slice (some ⟨g, 0, none⟩) ss.length cap ∧ w.heap.size ≤ g ∧ w'.heap[g]? = some (.cells cur T (0, 0)) ∧ ss.length ≤ cap ∧ cap ≤ maxLen ∧ cur.size = cap ∧ cur.toList.take ss.length = ss.map (Value.int .i64))
def KeysIn (P : Program) (f : FuncId) (F : XF) : Prop := ∃ k, F = keysF k ∧ funOk P f = true ∧ KeysOk P f k
def TabOk (P : Program) (G A : Nat) (wE : World) : XT → Prop
  | .nil => True
  | .node k F l r => (FnOk P G A k F ∨ SumOk P wE k F ∨ KeysIn P k F) ∧ TabOk P G A wE l ∧ TabOk P G A wE r
variable [Sy]
theorem fnOk_of {P : Program} {G A : Nat} {f : FuncId} {fn : Func} {np : Nat} {V : List Nat} {ks : List (List Nat)} {F : XF} (hf : P.funcs[f]? = some fn) (h : fnX P G A fn np V ks = some F) : FnOk P G A f F := by
  unfold fnX at h
  split at h
  · rename_i cmd rs hc
    split at h
    · rename_i c ht
      obtain ⟨h1, rfl⟩ := gd_some h
      simp only [Bool.and_eq_true] at h1
      refine ⟨fn, ks, cmd, hf, ?_, Nat.le_of_ble_eq_true h1.2.2.1, hc, ht, h1.2.2.2⟩
      unfold funOk
      rw [hf]
      simp only [Bool.and_eq_true]
      exact ⟨h1.1, h1.2.1⟩
    · cases h
  · cases h
theorem fnOk_parts {P : Program} {G A : Nat} {f : FuncId} {fn : Func} {ks : List (List Nat)} {cmd : Cmd} {F : XF} (hf : P.funcs[f]? = some fn) (h1 : funOk P f = true) (h2 : Nat.ble F.np fn.ntmps = true) (hc : compile P fn F.V ks = some (cmd, F.rs)) (ht : toX P G A cmd = some F.c) (hr : F.rs.all (·.kc G) = true) : FnOk P G A f F :=
  ⟨fn, ks, cmd, hf, h1, Nat.le_of_ble_eq_true h2, hc, ht, hr⟩
theorem TabOk.get {P : Program} {G A : Nat} {wE : World} : ∀ {t : XT}, TabOk P G A wE t → ∀ f F, t.get f = some F → FnOk P G A f F ∨ SumOk P wE f F ∨ KeysIn P f F := by
  intro t
  induction t with
  | nil => intro _ f F h; cases h
  | node k A l r ihl ihr =>
    intro ht f F h
    have h' : (Bool.rec (Bool.rec (r.get f) (l.get f) (Nat.ble f k)) (some A) (Nat.beq f k) : Option XF) = some F := h
    rw [brec_beq] at h'
    by_cases e : f = k
    · rw [if_pos e] at h'
      obtain rfl := Option.some.inj h'
      rw [e]; exact ht.1
    · rw [if_neg e] at h'
      cases e2 : Nat.ble f k with
      | true => rw [e2] at h'; exact ihl ht.2.1 f F h'
      | false => rw [e2] at h'; exact ihr ht.2.2 f F h'
theorem TabOk.fun {P : Program} {G A : Nat} {wE : World} {t : XT} (ht : TabOk P G A wE t) : ∀ f F, t.get f = some F → funOk P f = true := fun f F hf => by
  rcases ht.get f F hf with ⟨_, _, _, _, h, _⟩ | ⟨_, _, _, h, _⟩ | ⟨_, _, h, _⟩ <;> exact h

section
variable {P : Program} {G A : Nat} {wE w w' : World} {ρ ρ' : Rho} {h h' : HT} {m m' s s' : Nat} {env env' : Env} {tab : XT} {R : CH}
theorem xarg_eq (args : List Value) : ∀ (V : List Nat) (k : Env → XR), xarg args V k = k (V.map fun t => (nth args t).getD undef)
  | [], k => rfl
  | t :: V, k => by
    have e : xarg args (t :: V) k = (Option.rec (xarg args V fun env => k (undef :: env)) (fun v => xarg args V fun env => k (v :: env)) (nth args t) : XR) := rfl
    rw [e, List.map_cons]
    cases nth args t with
    | none => exact xarg_eq args V fun env => k (undef :: env)
    | some v => exact xarg_eq args V fun env => k (v :: env)
theorem env0_q {vs vs' : List Value} (h : LQ ρ vs vs') (V : List Nat) : EnvQ ρ (V.map fun t => (nth vs t).getD undef) (env0 V vs') := by
  refine ⟨by simp [env0], fun i u v hu hv => ?_⟩
  simp only [env0, List.getElem?_map, Option.map_eq_some_iff] at hu hv
  obtain ⟨t, ht, rfl⟩ := hu
  obtain ⟨t', ht', rfl⟩ := hv
  rw [ht] at ht'
  obtain rfl := Option.some.inj ht'
  rw [nth_eq]
  cases e : vs[t]? with
  | none => exact .inl rfl
  | some a =>
    right
    have hl : t < vs'.length := by
      have := (List.getElem?_eq_some_iff.1 e).1
      have := h.1; omega
    rw [List.getElem?_eq_getElem hl]
    exact h.2 t a _ e (List.getElem?_eq_getElem hl)
theorem xres_q {vs vs' : List Value} (h : LQ ρ vs vs') : VQ ρ (xres vs) (resV vs') := by
  have hx : ∀ (vs vs' : List Value), LQ ρ vs vs' → VQ ρ (.tuple ⟨vs⟩) (.tuple vs'.toArray) := fun vs vs' h => .tuple _ _ (by simpa using h.1) (fun i u v hu hv => h.2 i u v (by simpa using hu) (by simpa using hv))
  obtain ⟨hl, hv⟩ := h
  match vs, vs', hl, hv with
  | [], [], hl, hv => exact hx _ _ ⟨hl, hv⟩
  | [a], [b], hl, hv => exact hv 0 a b rfl rfl
  | a :: a' :: r, b :: b' :: r', hl, hv => exact hx _ _ ⟨hl, hv⟩
  | [], _ :: _, hl, _ => simp at hl
  | _ :: _, [], hl, _ => simp at hl
  | [_], _ :: _ :: _, hl, _ => simp at hl
  | _ :: _ :: _, [_], hl, _ => simp at hl
theorem xrb_some {b : Bool} {y : XR} {v : Value} {h2 : HT} {m2 s2 : Nat} (h : (Bool.rec .bad y b : XR) = .ok v h2 m2 s2) : b = true ∧ y = .ok v h2 m2 s2 := by
  cases b
  · cases h
  · exact ⟨rfl, h⟩
theorem xcall_succ (n : Nat) (F : XF) (vs : List Value) (h : HT) (m s : Nat) : xcall tab (n + 1) F vs h m s = Bool.rec .bad (xarg vs F.V fun env => XS.rec .bad (hRes F.rs) (xcmd tab (xcall tab n) F.c env h m s 0)) (lenIs vs F.np) := rfl
theorem vq_undef {u v : Value} (h : VQ ρ u v) (hv : isUndef v = false) : isUndef u = false := by
  cases h with
  | tuple xs ys e1 e2 =>
    simp only [isUndef, Array.isEmpty_eq_false_iff] at hv ⊢
    intro e3
    apply hv
    apply Array.eq_empty_of_size_eq_zero
    rw [← e1, e3]; rfl
  | _ => rfl
theorem keys_snd {f : FuncId} {k : Nat} (hL : KeysOk P f k) {vs vs' : List Value} {v : Value} (hs : HS G wE ρ h m s w) (hv : LQ ρ vs vs') (h1 : vs.length = (keysF k).np)
    (h2 : xarg vs (keysF k).V (fun env => (XS.rec .bad (hRes (keysF k).rs) (xcmd tab R (keysF k).c env h m s 0) : XR)) = .ok v h' m' s') : CallTo P f vs'.toArray w fun v' w' => ∃ ρ', VQ ρ' v v' ∧ HS G wE ρ' h' m' s' w' ∧ Step m ρ ρ' h h' m m' s s' w w' := by
  obtain ⟨t, rfl⟩ : ∃ t, vs = [t] := by
    cases vs with
    | nil => cases h1
    | cons t r =>
      cases r with
      | nil => exact ⟨t, rfl⟩
      | cons _ _ => simp [keysF] at h1
  obtain ⟨t', rfl⟩ : ∃ t', vs' = [t'] := by
    have := hv.1
    cases vs' with
    | nil => cases this
    | cons t' r =>
      cases r with
      | nil => exact ⟨t', rfl⟩
      | cons _ _ => simp at this
  have ht : VQ ρ t t' := hv.2 0 t t' rfl rfl
  have he : EnvQ ρ [t, undef] [t', undef] := ⟨rfl, fun i u u' hu hu' => by
    match i, hu, hu' with
    | 0, hu, hu' => cases hu; cases hu'; exact .inr ht
    | 1, hu, hu' => cases hu; exact .inl rfl
    | i + 2, hu, hu' => simp at hu⟩
  rw [xarg_eq] at h2
  have h3 : (XS.rec .bad (hRes [.var 1]) (Option.rec .bad (fun u => Option.rec .bad (XA.out (some 1) [] [t, undef] h 0) (xkeys h m s u)) (xe h [t, undef] (.ld none (.offp k (.var 0)))) : XS) : XR) = .ok v h' m' s' := h2
  cases hx : xe h [t, undef] (.ld none (.offp k (.var 0))) with
  | none => rw [hx] at h3; cases h3
  | some u =>
    rw [hx] at h3
    have h4 : (XS.rec .bad (hRes [.var 1]) (Option.rec .bad (XA.out (some 1) [] [t, undef] h 0) (xkeys h m s u) : XS) : XR) = .ok v h' m' s' := h3
    cases hk : xkeys h m s u with
    | none => rw [hk] at h4; cases h4
    | some a =>
      rw [hk] at h4
      obtain ⟨av, ah, am, as⟩ := a
      have h5 : (XS.rec .bad (hRes [.var 1]) (xset (some 1) av [t, undef] ah am as 0) : XR) = .ok v h' m' s' := h4
      rw [xset_eq] at h5
      have h6 : (Option.rec .bad (fun vs => XR.ok (xres vs) ah am as) (xes ah [t, av] [.var 1]) : XR) = .ok v h' m' s' := h5
      have hav : isUndef av = false → v = av ∧ h' = ah ∧ m' = am ∧ s' = as := fun hu => by
        have e1 : xes ah [t, av] [.var 1] = some [av] := by
          have e2 : xe ah [t, av] (.var 1) = some av := by
            show (Bool.rec (some av) none (isUndef av) : Option Value) = some av
            rw [hu]
          show (Option.rec none (fun v => Option.rec none (fun vs => some (v :: vs)) (some [] : Option (List Value))) (xe ah [t, av] (.var 1)) : Option (List Value)) = _
          rw [e2]
        rw [e1] at h6
        injection h6 with a1 a2 a3 a4
        exact ⟨a1.symm, a2.symm, a3.symm, a4.symm⟩
      obtain ⟨u', j1, j2⟩ := xe_vq hs he (.ld none (.offp k (.var 0))) rfl hx
      cases j2 with
      | map mb hmb =>
        have hkk : hMap h mb (fun k es _ => Bool.rec none (sortI es fun l => Bool.rec none (intsK l fun cs => List.rec (motive := fun _ => Option XA) (some ⟨.slice none 0 0, h, m, s⟩) (fun _ _ _ => appNew h m s 0 1 (lenL cs) [] cs) cs) (allI l)) (Nat.beq (kix k) 3)) none = some ⟨av, ah, am, as⟩ := hk
        unfold hMap at hkk
        split at hkk
        · rename_i k1 es t1 hg
          obtain ⟨i1, i2⟩ := brec_some hkk
          have i1 : k1 = .i64 := kix_inj (k' := .i64) i1
          subst i1
          rw [sortI_eq] at i2
          obtain ⟨i3, i4⟩ := brec_some i2
          rw [intsK_eq] at i4
          obtain ⟨ents, clock, q1, q2, q3⟩ := (hs.live mb _ hg).2.2
          have hall := allI_all i3
          -- what the argument is
          simp only [Ex.ev, List.getElem?_cons_zero, Option.bind_some] at j1
          obtain ⟨b, o, rfl, hc⟩ : ∃ b o, t' = .pointer (some ⟨b, o, none⟩) ∧ wcell w b (o + k) = some (.map (some (ρ.σ mb))) := by
            unfold varV at j1
            split at j1
            · cases j1
            · simp only [Option.bind_some, U1.ap] at j1
              unfold offpV at j1
              split at j1
              · exact ⟨_, _, rfl, j1⟩
              · cases j1
          refine CallTo.mono (hL w b o (ρ.σ mb) ents clock (es.map (·.1)) hc q1 q3 q2.keys (fun n hn => hall n ((sortL_perm es).mem_iff.2 hn)) ?_) fun v' w' hw => ?_
          · have hp := (sortL_perm es).length_eq
            rw [← hp]
            cases hsl : sortL es with
            | nil => simp
            | cons n r =>
              rw [hsl] at i4
              have i5 : appNew h m s 0 1 (lenL ((n :: r).map (Value.int .i64))) [] ((n :: r).map (Value.int .i64)) = some ⟨av, ah, am, as⟩ := i4
              have := appNew_n i5
              rw [lenL_eq] at this
              simpa using this
          · obtain ⟨hkept, ss, s1, s2, s3⟩ := hw
            have hss : ss = sortL es := List.Perm.eq_of_pairwise (fun a b _ _ => Int.le_antisymm) s2 (sortL_sorted es) (s1.trans (sortL_perm es).symm)
            subst hss
            have ho : Off w w' none' := .of_kept hkept
            have hs2 := hs.off ho (fun _ _ _ h => h) (fun _ _ h => h)
            have st2 := (Step.refl m ρ h m s w).off hs hs ho (fun _ _ _ h => h) (fun _ h => h.elim)
            rcases s3 with ⟨s4, rfl⟩ | ⟨s4, g, cap, cur, T, rfl, s5, s6, s7, s8, s9, s10⟩
            · rw [s4] at i4
              have i5 : some (⟨.slice none 0 0, h, m, s⟩ : XA) = some ⟨av, ah, am, as⟩ := i4
              injection i5 with i6
              injection i6 with a1 a2 a3 a4
              subst a1; subst a2; subst a3; subst a4
              obtain ⟨rfl, rfl, rfl, rfl⟩ := hav rfl
              exact ⟨ρ, .snil 0 0, hs2, st2⟩
            · cases hsl : sortL es with
              | nil => exact absurd hsl s4
              | cons n r =>
                rw [hsl] at i4 s7 s10
                have i5 : appNew h m s 0 1 (lenL ((n :: r).map (Value.int .i64))) [] ((n :: r).map (Value.int .i64)) = some ⟨av, ah, am, as⟩ := i4
                rw [lenL_eq, List.length_map] at i5
                have hcame := appNew_came hs2 hs st2 i5 (p := g) (c' := cap) (Nat.le_trans hs.kept.size s5) (fun b o hb e => by have := hs.blk hb; omega) (.inl s5) s6 ⟨by
                  have e1 := congrArg List.length s10
                  simp only [List.nil_append, List.length_map, List.length_take, Array.length_toList] at e1 ⊢
                  omega, fun i u u' hu hu' => by
                  rw [List.nil_append, ← s10] at hu
                  rw [List.getElem?_take] at hu
                  split at hu
                  · rw [Array.getElem?_toList, hu'] at hu
                    obtain rfl := Option.some.inj hu
                    have hm : u' ∈ (n :: r).map (Value.int .i64) := by
                      rw [← s10]
                      refine List.mem_of_getElem? (i := i) ?_
                      rw [List.getElem?_take, if_pos (by assumption), Array.getElem?_toList, hu']
                    obtain ⟨z, _, rfl⟩ := List.mem_map.1 hm
                    exact .int _ _
                  · cases hu⟩ (by rw [s9]; omega) s7 s8
                obtain ⟨ρ2, c1, c2', c3'⟩ := hcame
                have hu : isUndef av = false := vq_undef c1 rfl
                obtain ⟨rfl, rfl, rfl, rfl⟩ := hav hu
                exact ⟨ρ2, c1, c2', c3'⟩
        · cases hkk
      | mnil => cases hk
      | _ => cases hk
/-- What a call tells, the program's function does. -/
theorem xcall_ok (hA : AddOk P A) (ht : TabOk P G A wE tab) : ∀ (n : Nat), ROk P G wE tab (xcall tab n) := by
  have hfun := ht.fun
  intro n
  induction n with
  | zero => intro f F vs h m s v h' m' s' _ hr; cases hr
  | succ n ih =>
    intro f F vs h m s v h' m' s' hf hr ρ w vs' hs hv
    rw [xcall_succ] at hr
    obtain ⟨h1, h2⟩ := xrb_some hr
    rw [lenIs_eq, decide_eq_true_iff] at h1
    rcases ht.get f F hf with ⟨fn, ks, cmd, g1, g2, g3, g4, g5, g6⟩ | ⟨c, c1, rfl, c2, c3⟩ | ⟨k, rfl, c2, c3⟩
    case inr.inr =>
      exact keys_snd c3 hs hv h1 h2
    case inr.inl =>
      have h3 : XR.ok c h m s = .ok v h' m' s' := h2
      injection h3 with a1 a2 a3 a4
      subst a1; subst a2; subst a3; subst a4
      have e1 : vs' = [] := List.eq_nil_of_length_eq_zero (by rw [← hv.1, h1]; rfl)
      subst e1
      refine CallTo.mono (c3 w hs.kept) fun v' w' hk => ?_
      obtain ⟨rfl, hk⟩ := hk
      have ho : Off w w' none' := .of_kept hk
      refine ⟨ρ, ?_, hs.off ho (fun _ _ _ h => h) (fun _ _ h => h), (Step.refl m ρ h m s w).off hs hs ho (fun _ _ _ h => h) (fun _ h => h.elim)⟩
      cases v' with
      | bool b => exact .bool b
      | int k n => exact .int k n
      | _ => cases c1
    rw [xarg_eq] at h2
    have hsnd := toX_snd hA hfun ih cmd F.c g5
    cases hx : xcmd tab (xcall tab n) F.c (F.V.map fun t => (nth vs t).getD undef) h m s 0 with
    | bad => rw [hx] at h2; cases h2
    | st xx env2 h3 m3 s3 r3 =>
      rw [hx] at h2
      have h4 : hRes F.rs xx env2 h3 m3 s3 r3 = .ok v h' m' s' := h2
      refine ret_of_cmd g1 (by rw [← hv.1]; omega) g4 (Cmd.wp_mono cmd (fun x' e' u hp => ?_) (hsnd _ h m s 0 xx env2 h3 m3 s3 r3 hx ρ w (env0 F.V vs') hs (env0_q hv F.V)))
      obtain ⟨rfl, ρ2, k1, k2, k3⟩ := hp
      have fin : (Option.rec .bad (fun vs => XR.ok (xres vs) h3 m3 s3) (xes h3 env2 F.rs) : XR) = .ok v h' m' s' → Ok (evs e' u F.rs) fun vs => ∃ ρ', VQ ρ' v (resV vs) ∧ HS G wE ρ' h' m' s' u ∧ Step m ρ ρ' h h' m m' s s' w u := by
        intro h5
        cases h6 : xes h3 env2 F.rs with
        | none => rw [h6] at h5; cases h5
        | some us =>
          rw [h6] at h5
          injection h5 with a1 a2 a3 a4
          subst a1; subst a2; subst a3; subst a4
          obtain ⟨us', q1, q2⟩ := xes_vq k1 k2 F.rs g6 h6
          rw [q1, Ok_some]
          exact ⟨ρ2, xres_q (vqs_lq q2), k1, k3⟩
      cases x' with
      | normal => exact fin h4
      | ret => exact fin h4
      | _ => cases h4
end

/-! The memory that a run begins in: what the world holds of the globals. -/
/-- The worlds' blocks below G are as the memory says. -/
structure Begin (G : Nat) (h : HT) (w : World) : Prop where
  size : G ≤ w.heap.size
  at_ : ∀ b o, h.get b = some o → b < G ∧ ∃ (c : List Value) (T : TypeId) (c' : Array Value) (T' : TypeId) (fz : Nat × Nat), o = .cells c T 0 ∧ w.heap[b]? = some (.cells c' T' fz) ∧ (∀ (i : Nat) (v : Value), c[i]? = some v → c'[i]? = some v) ∧ ∀ v ∈ c, conV G 8 v = true
theorem Begin.hs {G : Nat} {h : HT} {w : World} (hb : Begin G h w) (hK : Sy.K w) : ∃ ρ, HS G w ρ h G 1 w := by
  refine ⟨⟨fun b => b < G, fun b => b, fun b => match w.heap[b]? with | some (.cells c _ _) => c.size | _ => 0⟩, Kept.refl _ _, fun b hb => ⟨hb, rfl⟩, fun b hb => hb, Nat.one_pos, fun b o ho => ?_, fun b o ho hz => ?_, fun b b' o o' _ _ e => e, hK⟩
  · obtain ⟨h1, c, T, c', T', fz, rfl, h2, h2', h3⟩ := hb.at_ b o ho
    refine ⟨h1, Nat.one_pos, c', T', fz, h2, fun h => absurd rfl h, ?_, ?_, fun i u v hu hv => ?_⟩
    · simp only [h2]
    · rcases Nat.lt_or_ge c'.size c.length with hl | hl
      · have := h2' c'.size _ (List.getElem?_eq_getElem hl)
        simp at this
      · exact hl
    · rw [h2' i u hu] at hv
      obtain rfl := Option.some.inj hv
      exact conV_vq (fun b hb => ⟨hb, rfl⟩) 8 u (h3 u (List.mem_of_getElem? hu))
  · obtain ⟨h1, c, T, c', T', fz, rfl, h2, h3⟩ := hb.at_ b o ho
    exact absurd rfl hz
theorem Begin.keep {G : Nat} {h : HT} {w w' : World} (hb : Begin G h w) (hk : Kept none' w w') : Begin G h w' :=
  ⟨Nat.le_trans hb.size hk.size, fun b o ho => by
    obtain ⟨h1, c, T, c', T', fz, h2, h3, h4⟩ := hb.at_ b o ho
    exact ⟨h1, c, T, c', T', fz, h2, by rw [hk.block b (Nat.lt_of_lt_of_le h1 hb.size) fun h => h]; exact h3, h4⟩⟩
/-- A closed call, run by the interpreter. -/
theorem ret_of_x {P : Program} {G A : Nat} {tab : XT} (hA : AddOk P A) {h : HT} {w : World} (ht : TabOk P G A w tab) (hb : Begin G h w) {f : FuncId} {F : XF} {vs : List Value} {n : Nat} {v : Value} {h' : HT} {m' s' : Nat} (hf : tab.get f = some F) (hc : ∀ x ∈ vs, conV G 8 x = true)
    (hr : xcall tab n F vs h G 1 = .ok v h' m' s') (hK : Sy.K w := by exact trivial) : Ret P f vs w fun v' w' => Kept none' w w' ∧ ∃ ρ, VQ ρ v v' ∧ HS G w ρ h' m' s' w' := by
  obtain ⟨ρ, hs⟩ := hb.hs hK
  refine CallTo.mono (xcall_ok (wE := w) hA ht n f F vs h G 1 v h' m' s' hf hr ρ w vs hs (con_lq hs.fix hc)) fun v' w' h => ?_
  obtain ⟨ρ', h1, h2, h3⟩ := h
  exact ⟨h2.kept, ρ', h1, h2⟩
/-- .. and it tells a plain value. -/
theorem vq_plain {ρ : Rho} {u v : Value} (hp : plainV u = true) (h : VQ ρ u v) : v = u := by
  cases h <;> first | rfl | cases hp
theorem ret_of_xp {P : Program} {G A : Nat} {tab : XT} (hA : AddOk P A) {h : HT} {w : World} (ht : TabOk P G A w tab) (hb : Begin G h w) {f : FuncId} {F : XF} {vs : List Value} {n : Nat} {v : Value} {h' : HT} {m' s' : Nat} (hf : tab.get f = some F) (hc : ∀ x ∈ vs, conV G 8 x = true)
    (hr : xcall tab n F vs h G 1 = .ok v h' m' s') (hp : plainV v = true) (hK : Sy.K w := by exact trivial) : Ret P f vs w fun v' w' => v' = v ∧ Kept none' w w' :=
  CallTo.mono (ret_of_x hA ht hb hf hc hr hK) fun v' w' h => by
    obtain ⟨h1, ρ, h2, _⟩ := h
    exact ⟨vq_plain hp h2, h1⟩
theorem tells_ok {v : Value} {r : XR} (h : tells v r = true) : ∃ h' m' s', r = .ok v h' m' s' := by
  cases r with
  | bad => cases h
  | ok u h' m' s' => exact ⟨h', m', s', by rw [beqV_eq 3 u v h]⟩
/-- A function without arguments that was run. -/
theorem sum_of_x {P : Program} {G A : Nat} {tab : XT} (hA : AddOk P A) {h : HT} {w : World} (ht : ∀ w', Kept none' w w' → TabOk P G A w' tab) (hb : Begin G h w) {f : FuncId} {F : XF} {n : Nat} {v : Value} (hfun : funOk P f = true) (hf : tab.get f = some F)
    (hr : tells v (xcall tab n F [] h G 1) = true) (hp : plainV v = true) (hK : Sy.K w := by exact trivial) : SumOk P w f (sumF v) := by
  obtain ⟨h', m', s', hr'⟩ := tells_ok hr
  refine ⟨v, hp, rfl, hfun, fun w' hk => ?_⟩
  exact ret_of_xp hA (ht w' hk) (hb.keep hk) hf (fun x hx => by cases hx) hr' hp (Sy.kk w w' hK hk)
end Go.Eng
