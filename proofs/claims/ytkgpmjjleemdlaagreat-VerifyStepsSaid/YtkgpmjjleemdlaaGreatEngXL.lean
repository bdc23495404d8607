/- Engine, part XL: the interpreter is sound. -/
import Derived.Test.YtkgpmjjleemdlaaGreatEngXR
set_option linter.unusedSimpArgs false
set_option linter.unusedVariables false
set_option linter.unusedSectionVars false
namespace Go.Eng
variable [Sy]
section
variable {P : Program} {G : Nat} {wE w w' : World} {ρ ρ' : Rho} {h h' : HT} {m m' s s' : Nat} {env env' : Env} {tab : XT} {R : CH}

theorem Post.here (hs : HS G wE ρ h m s w) (xx : Exit) (he : EnvQ ρ env env') : Post G wE ρ h m s w xx env h m s xx env' w := ⟨rfl, ρ, hs, he, Step.refl _ _ _ _ _ _⟩
theorem Post.after {xx : Exit} {env2 : Env} {h2 : HT} {m2 s2 : Nat} (hs : HS G wE ρ h m s w) (st : Step m ρ ρ' h h' m m' s s' w w') {x : Exit} {e : Env} {u : World} (hp : Post G wE ρ' h' m' s' w' xx env2 h2 m2 s2 x e u) : Post G wE ρ h m s w xx env2 h2 m2 s2 x e u := by
  obtain ⟨h1, ρ2, h2, h3, h4⟩ := hp
  exact ⟨h1, ρ2, h2, h3, Step.trans hs st (h4.weak st.mle)⟩
/-- What an operation that hands back a value leaves. -/
theorem out_some {a : XA} {d : Option Nat} {st : List Ex} {r : Nat} {xx : Exit} {env2 : Env} {h2 : HT} {m2 s2 r2 : Nat} (hr : XA.out d st env h r a = .st xx env2 h2 m2 s2 r2) :
    stable st h a.h env = true ∧ xx = .normal ∧ env2 = setO d env a.v ∧ h2 = a.h ∧ m2 = a.m ∧ s2 = a.s := by
  obtain ⟨v, h1, m1, s1⟩ := a
  obtain ⟨g1, g2⟩ := bs_some (show (Bool.rec .bad (xset d v env h1 m1 s1 r) (stable st h h1 env) : XS) = _ from hr)
  rw [xset_eq] at g2
  obtain ⟨rfl, rfl, rfl, rfl, rfl, _⟩ := st_inj g2
  exact ⟨g1, rfl, rfl, rfl, rfl, rfl⟩
theorem came_post (hs : HS G wE ρ h m s w) (he : EnvQ ρ env env') {a : XA} {v' : Value} (hc : Came G wE ρ h m s w a v' w') {d : Option Nat} {st : List Ex} (hk : st.all (stOk G) = true) (hst : stable st h a.h env = true) :
    Stab st env' w w' ∧ Post G wE ρ h m s w .normal (setO d env a.v) a.h a.m a.s .normal (setO d env' v') w' := by
  obtain ⟨ρ2, g1, g2, g3⟩ := hc
  exact ⟨stab_of hs g2 g3 he st hk hst, rfl, ρ2, g2, (he.mono g3.le).setO d g1, g3⟩
theorem isSl_some {t : Nat} (h : isSl P t = true) : ∃ e, P.underlying t = some (.slice e) := by
  unfold isSl at h
  split at h
  · rename_i e he; exact ⟨e, he⟩
  · cases h
theorem call_snd {f : FuncId} (hR : ROk P G wE tab R) {F : XF} {vs vs' : List Value} (hf : tab.get f = some F) (hs : HS G wE ρ h m s w) (he : EnvQ ρ env env') (hv : LQ ρ vs vs') {d : Option Nat} {st : List Ex} (hk : st.all (stOk G) = true) {r : Nat} {xx : Exit} {env2 : Env} {h2 : HT} {m2 s2 r2 : Nat}
    (hr : afterCall d st env h r (R F vs h m s) = .st xx env2 h2 m2 s2 r2) : CallTo P f vs'.toArray w fun v w' => Stab st env' w w' ∧ Post G wE ρ h m s w xx env2 h2 m2 s2 .normal (setO d env' v) w' := by
  obtain ⟨v, h1, m1, s1, g1, g2⟩ := xr_some (show (XR.rec .bad (fun v h' m s => Bool.rec .bad (xset d v env h' m s r) (stable st h h' env)) (R F vs h m s) : XS) = _ from hr)
  obtain ⟨g3, g4⟩ := bs_some g2
  rw [xset_eq] at g4
  obtain ⟨rfl, rfl, rfl, rfl, rfl, _⟩ := st_inj g4
  refine CallTo.mono (hR f F vs h m s v _ _ _ hf g1 ρ w vs' hs hv) fun v' w' hw => ?_
  obtain ⟨ρ2, k1, k2, k3⟩ := hw
  exact ⟨stab_of hs k2 k3 he st hk g3, rfl, ρ2, k2, (he.mono k3.le).setO d k1, k3⟩

theorem loopF_succ (ks : List Nat) (a : SH) (n : Nat) (env : Env) (h : HT) (m s r : Nat) : loopF ks a (n + 1) env h m s r = XS.rec .bad (hNext (loopF ks a n)) (a (maskX ks 0 env) h m s r) := by
  show maskK ks env (fun env => (XS.rec .bad (hNext (loopF ks a n)) (a env h m s r) : XS)) = _
  rw [maskK_eq]

theorem bad_snd (c : Cmd) : Snd P G wE tab R c badX := by
  intro env h m s r xx env2 h2 m2 s2 r2 hr
  cases (show XS.bad = _ from hr)
theorem orBad_snd {c : Cmd} {o : Option XC} (h : ∀ x, o = some x → Snd P G wE tab R c x) {x : XC} (hx : orBad o = some x) : Snd P G wE tab R c x := by
  unfold orBad at hx
  split at hx
  · rename_i y
    obtain rfl := Option.some.inj hx
    exact h _ rfl
  · obtain rfl := Option.some.inj hx
    exact bad_snd c
theorem toA_snd {A : Nat} (hA : AddOk P A) (hfun : ∀ f F, tab.get f = some F → funOk P f = true) (hR : ROk P G wE tab R) : ∀ (c : Cmd) (x : XC), toA P G A c = some x → Snd P G wE tab R c x := by
  intro c
  cases c with
  | skip =>
    intro x hx env h m s r xx env2 h2 m2 s2 r2 hr ρ w env' hs he
    obtain rfl := Option.some.inj hx
    obtain ⟨rfl, rfl, rfl, rfl, rfl, rfl⟩ := st_inj hr
    exact Post.here hs _ he
  | draw =>
    intro x hx env h m s r xx env2 h2 m2 s2 r2 hr ρ w env' hs he
    obtain rfl := Option.some.inj hx
    obtain ⟨rfl, rfl, rfl, rfl, rfl, rfl⟩ := st_inj hr
    have hoff := Off.drew w (fun _ => False)
    exact ⟨rfl, ρ, hs.off hoff (fun _ _ _ h => h) (fun _ _ h => h), he, Step.off hs hs (Step.refl _ _ _ _ _ _) hoff (fun _ _ _ h => h) (fun _ h => h.elim)⟩
  | chk es =>
    intro x hx env h m s r xx env2 h2 m2 s2 r2 hr ρ w env' hs he
    obtain ⟨hk, rfl⟩ := gd_some hx
    obtain ⟨vs, g1, g2⟩ := os_some (show (Option.rec .bad (fun _ => XS.st .normal env h m s r) (xes h env es) : XS) = _ from hr)
    obtain ⟨rfl, rfl, rfl, rfl, rfl, rfl⟩ := st_inj g2
    obtain ⟨vs', g3, g4⟩ := xes_vq hs he es hk g1
    simp only [Cmd.wp, g3, Ok_some]
    exact Post.here hs _ he
  | set i e =>
    intro x hx env h m s r xx env2 h2 m2 s2 r2 hr ρ w env' hs he
    obtain ⟨hk, rfl⟩ := gd_some hx
    obtain ⟨v, g1, g2⟩ := os_some (show (Option.rec .bad (fun v => setK env i v fun env => XS.st .normal env h m s r) (xe h env e) : XS) = _ from hr)
    rw [setK_eq] at g2
    obtain ⟨rfl, rfl, rfl, rfl, rfl, rfl⟩ := st_inj g2
    obtain ⟨v', g3, g4⟩ := xe_vq hs he e hk g1
    simp only [Cmd.wp, g3, Ok_some]
    exact Post.here hs _ (he.set i g4)
  | clr l =>
    intro x hx env h m s r xx env2 h2 m2 s2 r2 hr ρ w env' hs he
    obtain rfl := Option.some.inj hx
    have g2 : xclr l env (fun env => XS.st .normal env h m s r) = _ := hr
    rw [xclr_eq] at g2
    obtain ⟨rfl, rfl, rfl, rfl, rfl, rfl⟩ := st_inj g2
    exact Post.here hs _ (he.clr l)
  | call d f a st =>
    intro x hx env h m s r xx env2 h2 m2 s2 r2 hr ρ w env' hs he
    obtain ⟨hk, rfl⟩ := gd_some hx
    simp only [Bool.and_eq_true] at hk
    obtain ⟨vs, g1, g2⟩ := os_some (show (Option.rec .bad (fun vs => Option.rec .bad (fun F => afterCall d st env h r (R F vs h m s)) (tab.get f)) (xes h env a) : XS) = _ from hr)
    obtain ⟨F, g3, g4⟩ := os_some g2
    obtain ⟨vs', g5, g6⟩ := xes_vq hs he a hk.1 g1
    simp only [Cmd.wp, g5, Ok_some]
    exact (call_snd hR g3 hs he (vqs_lq g6) hk.2 g4).mono fun v w' h => ⟨h.1, h.2⟩
  | dyn d f a st =>
    intro x hx env h m s r xx env2 h2 m2 s2 r2 hr ρ w env' hs he
    obtain ⟨hk, rfl⟩ := gd_some hx
    simp only [Bool.and_eq_true] at hk
    obtain ⟨fv, g1, g2⟩ := os_some (show (Option.rec .bad (fun fv => vFun fv (fun g xs ys => Option.rec .bad (fun vs => Option.rec .bad (fun F => appK vs ys fun vs => appK xs vs fun vs => afterCall d st env h r (R F vs h m s)) (tab.get g)) (xes h env a)) .bad) (xe h env f) : XS) = _ from hr)
    obtain ⟨fv', g3, g4⟩ := xe_vq hs he f hk.1 g1
    cases g4 with
    | func fn xs ys xs' ys' e1 e2 e3 e4 =>
      cases fn with
      | func g =>
        obtain ⟨xs⟩ := xs
        obtain ⟨ys⟩ := ys
        obtain ⟨vs, g5, g6⟩ := os_some (show (Option.rec .bad (fun vs => Option.rec .bad (fun F => appK vs ys fun vs => appK xs vs fun vs => afterCall d st env h r (R F vs h m s)) (tab.get g)) (xes h env a) : XS) = _ from g2)
        obtain ⟨F, g7, g8⟩ := os_some g6
        rw [appK_eq, appK_eq] at g8
        obtain ⟨vs', k1, k2⟩ := xes_vq hs he a hk.2.1 g5
        simp only [Cmd.wp, g3, k1, Ok_some, DynTo]
        refine ⟨hfun g F g7, ?_⟩
        have hx : LQ ρ xs xs'.toList := vqs_lq ⟨e1, e2⟩
        have hy : LQ ρ ys ys'.toList := vqs_lq ⟨e3, e4⟩
        have hall := hx.append ((vqs_lq k2).append hy)
        have earr : xs' ++ vs'.toArray ++ ys' = (xs'.toList ++ (vs' ++ ys'.toList)).toArray := by simp [Array.append_assoc]
        rw [earr]
        exact call_snd hR g7 hs he hall hk.2.2 g8
      | _ => cases g2
    | _ => cases g2
  | bi d b ats ty a st =>
    intro x hx env h m s r xx env2 h2 m2 s2 r2 hr ρ w env' hs he
    change biX P G d b ats a st = some x at hx
    unfold biX at hx
    split at hx
    · rename_i t t2 x1 y1
      split at hx
      · rename_i e sz zl ht
        obtain ⟨hk, rfl⟩ := gd_some hx
        simp only [Bool.and_eq_true] at hk
        obtain ⟨u, g1, g2⟩ := os_some (show (Option.rec .bad (fun u => Option.rec .bad (fun v => Option.rec .bad (XA.out d st env h r) (xapp h m s e sz u v)) (xe h env y1)) (xe h env x1) : XS) = _ from hr)
        obtain ⟨v, g3, g4⟩ := os_some g2
        obtain ⟨o, g5, g6⟩ := os_some g4
        obtain ⟨u', k1, k2⟩ := xe_vq hs he x1 hk.2.1 g1
        obtain ⟨v', k3, k4⟩ := xe_vq hs he y1 hk.2.2.1 g3
        obtain ⟨r1, w1, k5, k6⟩ := app_vq (P := P) (ty := ty) hs (elT_some ht).1 k2 k4 (isSl_some hk.1) g5
        obtain ⟨f1, rfl, rfl, rfl, rfl, rfl⟩ := out_some g6
        have hrun : (builtin .append #[t, t2] ty #[] #[u', v']).run P w = .ok (.value r1) w1 := by
          simp only [builtin, map_eq_pure_bind, Sem.run_bind, k5]
          rfl
        simp only [Cmd.wp, evs, k1, k3, Option.bind_some, Ok_some]
        show Result.to ((builtin .append #[t, t2] ty #[] #[u', v']).run P w) _
        rw [hrun]
        exact came_post hs he k6 hk.2.2.2 f1
      · cases hx
    · rename_i t x1
      split at hx
      · rename_i e sz zl ht
        obtain ⟨hk, rfl⟩ := gd_some hx
        simp only [Bool.and_eq_true] at hk
        obtain ⟨u, g1, g2⟩ := os_some (show (Option.rec .bad (fun u => Option.rec .bad (XA.out none st env h r) (xclear h m s zl u)) (xe h env x1) : XS) = _ from hr)
        obtain ⟨o, g5, g6⟩ := os_some g2
        obtain ⟨u', k1, k2⟩ := xe_vq hs he x1 hk.2.2.1 g1
        obtain ⟨w1, k5, k6⟩ := clear_vq (P := P) (ty := ty) hs ht hk.1 hk.2.1 k2 g5
        obtain ⟨f1, rfl, rfl, rfl, rfl, rfl⟩ := out_some g6
        have hrun : (builtin .clear #[t] ty #[] #[u']).run P w = .ok (.value undef) w1 := by
          simp only [builtin, map_eq_pure_bind, Sem.run_bind, k5]
          rfl
        simp only [Cmd.wp, evs, k1, Option.bind_some, Ok_some]
        show Result.to ((builtin .clear #[t] ty #[] #[u']).run P w) _
        rw [hrun]
        exact came_post (d := none) hs he k6 hk.2.2.2 f1
      · cases hx
    · rename_i t t2 x1 y1
      split at hx
      · rename_i e sz zl ht
        obtain ⟨hk, rfl⟩ := gd_some hx
        simp only [Bool.and_eq_true, decide_eq_true_eq] at hk
        obtain ⟨u, g1, g2⟩ := os_some (show (Option.rec .bad (fun u => Option.rec .bad (fun v => Option.rec .bad (XA.out d st env h r) (xcopy h m s u v)) (xe h env y1)) (xe h env x1) : XS) = _ from hr)
        obtain ⟨v, g3, g4⟩ := os_some g2
        obtain ⟨o, g5, g6⟩ := os_some g4
        obtain ⟨u', k1, k2⟩ := xe_vq hs he x1 hk.2.1 g1
        obtain ⟨v', k3, k4⟩ := xe_vq hs he y1 hk.2.2.1 g3
        obtain ⟨r1, w1, k5, k6⟩ := copy_vq (P := P) (ty := ty) (t2 := t2) hs ht hk.1 k2 k4 g5
        obtain ⟨f1, rfl, rfl, rfl, rfl, rfl⟩ := out_some g6
        have hrun : (builtin .copy #[t, t2] ty #[] #[u', v']).run P w = .ok (.value r1) w1 := by
          simp only [builtin, map_eq_pure_bind, Sem.run_bind, k5]
          rfl
        simp only [Cmd.wp, evs, k1, k3, Option.bind_some, Ok_some]
        show Result.to ((builtin .copy #[t, t2] ty #[] #[u', v']).run P w) _
        rw [hrun]
        exact came_post hs he k6 hk.2.2.2 f1
      · cases hx
    · rename_i t x1
      split at hx
      · rename_i kz ht
        obtain ⟨kt, z⟩ := kz
        obtain ⟨hk, rfl⟩ := gd_some hx
        simp only [Bool.and_eq_true] at hk
        obtain ⟨u, g1, g2⟩ := os_some (show (Option.rec .bad (fun u => Option.rec .bad (XA.out d st env h r) (xmlen h m s u)) (xe h env x1) : XS) = _ from hr)
        obtain ⟨o, g5, g6⟩ := os_some g2
        obtain ⟨u', k1, k2⟩ := xe_vq hs he x1 hk.1 g1
        obtain ⟨r1, w1, k5, k6⟩ := mlen_vq (P := P) (ty := ty) hs ht k2 g5
        obtain ⟨f1, rfl, rfl, rfl, rfl, rfl⟩ := out_some g6
        have hrun : (builtin .len #[t] ty #[] #[u']).run P w = .ok (.value r1) w1 := by
          simp only [builtin, map_eq_pure_bind, Sem.run_bind, k5]
          rfl
        simp only [Cmd.wp, evs, k1, Option.bind_some, Ok_some]
        show Result.to ((builtin .len #[t] ty #[] #[u']).run P w) _
        rw [hrun]
        exact came_post hs he k6 hk.2 f1
      · cases hx
    · rename_i t t2 x1 i1
      split at hx
      · rename_i kt z ht
        obtain ⟨hk, rfl⟩ := gd_some hx
        simp only [Bool.and_eq_true] at hk
        obtain ⟨u, g1, g2⟩ := os_some (show (Option.rec .bad (fun u => Option.rec .bad (fun k => Option.rec .bad (XA.out none st env h r) (xmdel h m s kt u k)) (xe h env i1)) (xe h env x1) : XS) = _ from hr)
        obtain ⟨v, g3, g4⟩ := os_some g2
        obtain ⟨o, g5, g6⟩ := os_some g4
        obtain ⟨u', k1, k2⟩ := xe_vq hs he x1 hk.1 g1
        obtain ⟨v', k3, k4⟩ := xe_vq hs he i1 hk.2.1 g3
        obtain ⟨w1, k5, k6⟩ := mdel_vq (P := P) (ty := ty) (t2 := t2) hs ht k2 k4 g5
        obtain ⟨f1, rfl, rfl, rfl, rfl, rfl⟩ := out_some g6
        have hrun : (builtin .delete #[t, t2] ty #[] #[u', v']).run P w = .ok (.value undef) w1 := by
          simp only [builtin, map_eq_pure_bind, Sem.run_bind, k5]
          rfl
        simp only [Cmd.wp, evs, k1, k3, Option.bind_some, Ok_some]
        show Result.to ((builtin .delete #[t, t2] ty #[] #[u', v']).run P w) _
        rw [hrun]
        exact came_post (d := none) hs he k6 hk.2.2 f1
      · cases hx
    · cases hx
  | sem d g a st =>
    intro x hx env h m s r xx env2 h2 m2 s2 r2 hr ρ w env' hs he
    change semX P G A d g a st = some x at hx
    unfold semX at hx
    have fin : ∀ {vs : List Value} {o : XA} {v' : Value} {w1 : World} {r0 : Nat}, evs env' w a = some vs → (g.sem vs).run P w = .ok v' w1 → Came G wE ρ h m s w o v' w1 → st.all (stOk G) = true → XA.out d st env h r0 o = .st xx env2 h2 m2 s2 r2 →
        (Cmd.sem d g a st).wp P (Post G wE ρ h m s w xx env2 h2 m2 s2) env' w := by
      intro vs o v' w1 r0 k1 k2 k3 k4 k5
      obtain ⟨f1, rfl, rfl, rfl, rfl, rfl⟩ := out_some k5
      simp only [Cmd.wp, k1, Ok_some, RunTo, k2]
      exact came_post hs he k3 k4 f1
    split at hx
    · rename_i t l c
      split at hx
      · rename_i e sz zl ht
        obtain ⟨hk, rfl⟩ := gd_some hx
        simp only [Bool.and_eq_true] at hk
        obtain ⟨u, g1, g2⟩ := os_some (show (Option.rec .bad (fun u => Option.rec .bad (fun v => Option.rec .bad (XA.out d st env h r) (xmk h m s e zl u v)) (xe h env c)) (xe h env l) : XS) = _ from hr)
        obtain ⟨v, g3, g4⟩ := os_some g2
        obtain ⟨o, g5, g6⟩ := os_some g4
        obtain ⟨u', k1, k2⟩ := xe_vq hs he l hk.2.1 g1
        obtain ⟨v', k3, k4⟩ := xe_vq hs he c hk.2.2.1 g3
        obtain ⟨r1, w1, k5, k6⟩ := mk_vq (P := P) hs ht hk.1 k2 k4 g5
        exact fin (vs := [u', v']) (by simp only [evs, k1, k3, Option.bind_some]) k5 k6 hk.2.2.2 g6
      · cases hx
    · rename_i t
      split at hx
      · rename_i k z ht
        obtain ⟨hk, rfl⟩ := gd_some hx
        obtain ⟨o, g5, g6⟩ := os_some (show (Option.rec .bad (XA.out d st env h r) (xmkmap h m s k) : XS) = _ from hr)
        obtain ⟨r1, w1, k5, k6⟩ := mkm_vq (P := P) (t := t) hs g5
        exact fin rfl k5 k6 hk g6
      · cases hx
    · rename_i t t2 x1
      split at hx
      · rename_i e g1 g2
        split at hx
        · rename_i g3
          obtain ⟨hk, rfl⟩ := gd_some hx
          simp only [Bool.and_eq_true] at hk
          obtain ⟨u, q1, q2⟩ := os_some (show (Option.rec .bad (fun u => Option.rec .bad (XA.out d st env h r) (xcvs h m s u)) (xe h env x1) : XS) = _ from hr)
          obtain ⟨o, q3, q4⟩ := os_some q2
          obtain ⟨u', k1, k2⟩ := xe_vq hs he x1 hk.1 q1
          obtain ⟨r1, w1, k5, k6⟩ := cvs_vq (P := P) hs g1 g2 g3 k2 q3
          exact fin (vs := [u']) (by simp only [evs, k1, Option.bind_some]) k5 k6 hk.2 q4
        · cases hx
      · cases hx
    · rename_i t ok x1 i1
      split at hx
      · rename_i k z ht
        obtain ⟨hk, rfl⟩ := gd_some hx
        simp only [Bool.and_eq_true] at hk
        obtain ⟨u, g1, g2⟩ := os_some (show (Option.rec .bad (fun u => Option.rec .bad (fun v => Option.rec .bad (XA.out d st env h r) (xlook h m s z ok k u v)) (xe h env i1)) (xe h env x1) : XS) = _ from hr)
        obtain ⟨v, g3, g4⟩ := os_some g2
        obtain ⟨o, g5, g6⟩ := os_some g4
        obtain ⟨u', k1, k2⟩ := xe_vq hs he x1 hk.2.1 g1
        obtain ⟨v', k3, k4⟩ := xe_vq hs he i1 hk.2.2.1 g3
        obtain ⟨r1, w1, k5, k6⟩ := look_vq (P := P) hs ht hk.1 k2 k4 g5
        exact fin (vs := [u', v']) (by simp only [evs, k1, k3, Option.bind_some]) k5 k6 hk.2.2.2 g6
      · cases hx
    · rename_i t x1 i1 v1
      split at hx
      · rename_i k z ht
        obtain ⟨hk, rfl⟩ := gd_some hx
        simp only [Bool.and_eq_true] at hk
        obtain ⟨u, g1, g2⟩ := os_some (show (Option.rec .bad (fun u => Option.rec .bad (fun k1 => Option.rec .bad (fun v => Option.rec .bad (XA.out none st env h r) (xupdm h m s k u k1 v)) (xe h env v1)) (xe h env i1)) (xe h env x1) : XS) = _ from hr)
        obtain ⟨v, g3, g4⟩ := os_some g2
        obtain ⟨v2, g7, g8⟩ := os_some g4
        obtain ⟨o, g5, g6⟩ := os_some g8
        obtain ⟨u', k1, k2⟩ := xe_vq hs he x1 hk.1 g1
        obtain ⟨v', k3, k4⟩ := xe_vq hs he i1 hk.2.1 g3
        obtain ⟨v2', k7, k8⟩ := xe_vq hs he v1 hk.2.2.1 g7
        obtain ⟨w1, k5, k6⟩ := upd_vq (P := P) hs ht k2 k4 k8 g5
        refine fin (vs := [u', v', v2']) (by simp only [evs, k1, k3, k7, Option.bind_some]) (v' := undef) (w1 := w1) ?_ k6 hk.2.2.2 g6
        simp only [Tag.sem, Sem.run_bind, k5, Result.andThen_ok, Sem.run_pure]
      · cases hx
    · rename_i t x1 l1 h1 m1
      split at hx
      · rename_i q ht
        obtain ⟨hk, rfl⟩ := gd_some hx
        simp only [Bool.and_eq_true] at hk
        obtain ⟨u, g1, g2⟩ := os_some (show (Option.rec .bad (fun u => Option.rec .bad (fun a => Option.rec .bad (fun b => Option.rec .bad (fun c => Option.rec .bad (XA.out none st env h r) (xsl3 h m s u a b c)) (xe h env m1)) (xe h env h1)) (xe h env l1)) (xe h env x1) : XS) = _ from hr)
        obtain ⟨v1, g3, g4⟩ := os_some g2
        obtain ⟨v2, g5, g6⟩ := os_some g4
        obtain ⟨v3, g7, g8⟩ := os_some g6
        obtain ⟨o, g9, g10⟩ := os_some g8
        obtain ⟨u', k1, k2⟩ := xe_vq hs he x1 hk.1 g1
        obtain ⟨v1', k3, k4⟩ := xe_vq hs he l1 hk.2.1 g3
        obtain ⟨v2', k5, k6⟩ := xe_vq hs he h1 hk.2.2.1 g5
        obtain ⟨v3', k7, k8⟩ := xe_vq hs he m1 hk.2.2.2.1 g7
        obtain ⟨e, sz, zl⟩ := q
        obtain ⟨rfl, r1, hrun⟩ := sl3_vq (P := P) (w := w) ht k2 k4 k6 k8 g9
        obtain ⟨f1, rfl, rfl, rfl, rfl, rfl⟩ := out_some g10
        simp only [Cmd.wp, evs, k1, k3, k5, k7, Option.bind_some, Ok_some, RunTo, Tag.sem, hrun]
        exact ⟨stab_of hs hs (Step.refl 0 _ _ _ _ _) he st hk.2.2.2.2 f1, rfl, ρ, hs, he, Step.refl _ _ _ _ _ _⟩
      · cases hx
    · rename_i f x1 y1 c1
      obtain ⟨hk, rfl⟩ := gd_some hx
      simp only [Bool.and_eq_true] at hk
      obtain ⟨u, g1, g2⟩ := os_some (show (Option.rec .bad (fun u => Option.rec .bad (fun k1 => Option.rec .bad (fun v => Option.rec .bad (XA.out d st env h r) (xadd h m s u k1 v)) (xe h env c1)) (xe h env y1)) (xe h env x1) : XS) = _ from hr)
      obtain ⟨v, g3, g4⟩ := os_some g2
      obtain ⟨v2, g7, g8⟩ := os_some g4
      obtain ⟨o, g5, g6⟩ := os_some g8
      obtain ⟨u', k1, k2⟩ := xe_vq hs he x1 hk.2.1 g1
      obtain ⟨v', k3, k4⟩ := xe_vq hs he y1 hk.2.2.1 g3
      obtain ⟨v2', k7, k8⟩ := xe_vq hs he c1 hk.2.2.2.1 g7
      obtain rfl := Nat.eq_of_beq_eq_true hk.1
      obtain ⟨r1, w1, k5, k6⟩ := add_vq (P := P) hs hA k2 k4 k8 g5
      exact fin (vs := [u', v', v2']) (by simp only [evs, k1, k3, k7, Option.bind_some]) k5 k6 hk.2.2.2.2 g6
    · cases hx
  | die => intro x hx; cases hx
  | store n a v st =>
    intro x hx env h m s r xx env2 h2 m2 s2 r2 hr ρ w env' hs he
    obtain ⟨hk, rfl⟩ := gd_some hx
    simp only [Bool.and_eq_true] at hk
    obtain ⟨u, g1, g2⟩ := os_some (show (Option.rec .bad (fun u => Option.rec .bad (fun v => xstore h s n u v fun h' s' => Bool.rec .bad (.st .normal env h' m s' r) (stable st h h' env)) (xe h env v)) (xe h env a) : XS) = _ from hr)
    obtain ⟨c, g3, g4⟩ := os_some g2
    obtain ⟨u', k1, k2⟩ := xe_vq hs he a hk.1 g1
    obtain ⟨c', k3, k4⟩ := xe_vq hs he v hk.2.1 g3
    cases k2 with
    | ptr b o sp hb =>
      cases sp with
      | some sp => cases g4
      | none =>
        unfold xstore at g4
        simp only [vPtr] at g4
        obtain ⟨cs, T, t, f1, f2, f3⟩ := hWrite_st g4
        obtain ⟨f4, f5⟩ := bs_some f3
        obtain ⟨f6, f7⟩ := oneIs_all f4
        obtain ⟨h1, f8, f9⟩ := os_some f5
        obtain ⟨f10, f11⟩ := putK_some f8
        rw [HT.setK_eq] at f11
        obtain rfl := Option.some.inj f11
        rw [fN_eq] at f9
        obtain ⟨f12, f13⟩ := bs_some f9
        obtain ⟨rfl, rfl, rfl, rfl, rfl, rfl⟩ := st_inj f13
        rw [xcells_eq] at f6 f7 f10
        have hl := vq_cells k4
        obtain ⟨hd, c0, T0, q1, q2, q3⟩ := hs.cells f1 f2
        have hlen := hl.1
        simp only [Array.length_toList] at hlen f6 f10
        have hone : c'.cells.all (·.oneCell') = true := by
          rw [Array.all_eq_true_iff_forall_mem]
          exact fun v hv => hl.one f7 v (by simpa using hv)
        have hstv := stv_of (off := o) (n := n) (v := c') q1 (by omega) (by have := q3.1; omega) (.inl (by simp)) hone
        have hoff := off_put w (ρ.σ b) (.cells (setRow c0 o c'.cells.toList) T0 (0, 0))
        simp only [Cmd.wp, k1, k3, hstv, Ok_some]
        have hw2 := hs.write (T2 := T) f1 f2 (by rw [setRow_size]; exact q2) (vl_setRow q3 hl (by simpa using f10)) hoff (put_same (hs.blk f1))
        have st2 := Step.write (T2 := T) (c2 := (setRow cs.toArray o c.cells.toList).toList) hs (Step.refl m ρ h m s w) hs f1 hoff
        rw [xcells_eq] at f12 ⊢
        exact ⟨stab_of hs hw2 st2 he st hk.2.2 f12, rfl, ρ, hw2, he, st2⟩
    | _ => cases g4
  | new d T e st =>
    intro x hx env h m s r xx env2 h2 m2 s2 r2 hr ρ w env' hs he
    obtain ⟨hk, rfl⟩ := gd_some hx
    obtain ⟨v, g1, g2⟩ := os_some (show (Option.rec .bad (fun v => HT.setK h m (some (.cells (xcells v) T s)) fun h' => fN (Nat.succ m) fun m' => fN (Nat.succ s) fun s' => xset d (.pointer (some ⟨m, 0, none⟩)) env h' m' s' r) (xe h env e) : XS) = _ from hr)
    rw [HT.setK_eq, fN_eq, fN_eq, xset_eq] at g2
    obtain ⟨rfl, rfl, rfl, rfl, rfl, rfl⟩ := st_inj g2
    obtain ⟨v', g3, g4⟩ := xe_vq hs he e hk g1
    simp only [Cmd.wp, g3, Ok_some]
    obtain ⟨ρ2, k1, k2, k3, k4, k5⟩ := new_came hs T T (lq_vl (vq_cells g4))
    rw [xcells_eq]
    refine ⟨rfl, ρ2, k4, (he.mono k3).setO d ?_, k5⟩
    have := VQ.ptr (ρ := ρ2) m 0 none k1
    rw [k2] at this
    exact this
  | row d T n e st =>
    intro x hx env h m s r xx env2 h2 m2 s2 r2 hr ρ w env' hs he
    obtain ⟨hk, rfl⟩ := gd_some hx
    obtain ⟨v, g1, g2⟩ := os_some (show (Option.rec .bad (fun v => Bool.rec .bad (HT.setK h m (some (.cells (xcells v) T s)) fun h' => fN (Nat.succ m) fun m' => fN (Nat.succ s) fun s' => xset d (.slice (some ⟨m, 0, none⟩) n n) env h' m' s' r) (Nat.blt n capU)) (xe h env e) : XS) = _ from hr)
    obtain ⟨g0, g2⟩ := bs_some g2
    rw [HT.setK_eq, fN_eq, fN_eq, xset_eq] at g2
    obtain ⟨rfl, rfl, rfl, rfl, rfl, rfl⟩ := st_inj g2
    obtain ⟨v', g3, g4⟩ := xe_vq hs he e hk g1
    simp only [Cmd.wp, g3, Ok_some]
    obtain ⟨ρ2, k1, k2, k3, k4, k5⟩ := new_came hs T T (lq_vl (vq_cells g4))
    rw [xcells_eq]
    refine ⟨rfl, ρ2, k4, (he.mono k3).setO d ?_, k5⟩
    have := VQ.slice (ρ := ρ2) m 0 none n n k1 (blt_true g0)
    rw [k2] at this
    exact this
  | seq a b => intro x hx; cases hx
  | alt a b => intro x hx; cases hx
  | cond e a b => intro x hx; cases hx
  | block id a => intro x hx; cases hx
  | loop ks a => intro x hx; cases hx
  | exit id =>
    intro x hx env h m s r xx env2 h2 m2 s2 r2 hr ρ w env' hs he
    obtain rfl := Option.some.inj hx
    obtain ⟨rfl, rfl, rfl, rfl, rfl, rfl⟩ := st_inj hr
    exact Post.here hs _ he
  | ret =>
    intro x hx env h m s r xx env2 h2 m2 s2 r2 hr ρ w env' hs he
    obtain rfl := Option.some.inj hx
    obtain ⟨rfl, rfl, rfl, rfl, rfl, rfl⟩ := st_inj hr
    exact Post.here hs _ he
theorem toX_snd {A : Nat} (hA : AddOk P A) (hfun : ∀ f F, tab.get f = some F → funOk P f = true) (hR : ROk P G wE tab R) : ∀ (c : Cmd) (x : XC), toX P G A c = some x → Snd P G wE tab R c x := by
  intro c
  induction c with
  | skip => intro x hx; exact orBad_snd (toA_snd hA hfun hR _) hx
  | draw => intro x hx; exact orBad_snd (toA_snd hA hfun hR _) hx
  | chk es => intro x hx; exact orBad_snd (toA_snd hA hfun hR _) hx
  | set i e => intro x hx; exact orBad_snd (toA_snd hA hfun hR _) hx
  | clr l => intro x hx; exact orBad_snd (toA_snd hA hfun hR _) hx
  | call d f a st => intro x hx; exact orBad_snd (toA_snd hA hfun hR _) hx
  | dyn d f a st => intro x hx; exact orBad_snd (toA_snd hA hfun hR _) hx
  | bi d b ats ty a st => intro x hx; exact orBad_snd (toA_snd hA hfun hR _) hx
  | sem d g a st => intro x hx; exact orBad_snd (toA_snd hA hfun hR _) hx
  | die => intro x hx; exact orBad_snd (toA_snd hA hfun hR _) hx
  | store n a v st => intro x hx; exact orBad_snd (toA_snd hA hfun hR _) hx
  | new d T e st => intro x hx; exact orBad_snd (toA_snd hA hfun hR _) hx
  | row d T n e st => intro x hx; exact orBad_snd (toA_snd hA hfun hR _) hx
  | seq a b iha ihb =>
    intro x hx env h m s r xx env2 h2 m2 s2 r2 hr ρ w env' hs he
    unfold toX at hx
    split at hx
    · rename_i xa ha
      split at hx
      · rename_i xb hb
        obtain rfl := Option.some.inj hx
        obtain ⟨x1, env1, h1, m1, s1, r1, g1, g2⟩ := xs_some (show (XS.rec .bad (hNext (xcmd tab R xb)) (xcmd tab R xa env h m s r) : XS) = _ from hr)
        refine Cmd.wp_mono a (fun x' e' u hp => ?_) (iha xa ha env h m s r x1 env1 h1 m1 s1 r1 g1 ρ w env' hs he)
        obtain ⟨rfl, ρ1, k1, k2, k3⟩ := hp
        cases x' with
        | normal => exact Cmd.wp_mono b (fun x'' e'' u' hp => Post.after hs k3 hp) (ihb xb hb env1 h1 m1 s1 r1 xx env2 h2 m2 s2 r2 g2 ρ1 u e' k1 k2)
        | _ =>
          obtain ⟨rfl, rfl, rfl, rfl, rfl, rfl⟩ := st_inj g2
          exact ⟨rfl, ρ1, k1, k2, k3⟩
      · cases hx
    · cases hx
  | alt a b => intro x hx; exact orBad_snd (alt_snd (elZ_ok _) (toA_snd hA hfun hR) _) hx
  | cond e a b iha ihb =>
    intro x hx env h m s r xx env2 h2 m2 s2 r2 hr ρ w env' hs he
    unfold toX at hx
    split at hx
    · rename_i hk
      split at hx
      · rename_i xa ha
        split at hx
        · rename_i xb hb
          obtain rfl := Option.some.inj hx
          obtain ⟨v, g1, g2⟩ := os_some (show (Option.rec .bad (fun v => vBool v (fun t => Bool.rec (xcmd tab R xb env h m s r) (xcmd tab R xa env h m s r) t) .bad) (xe h env e) : XS) = _ from hr)
          obtain ⟨v', g3, g4⟩ := xe_vq hs he e hk g1
          simp only [Cmd.wp, g3, Ok_some]
          cases g4 with
          | bool t =>
            cases t with
            | true => exact iha xa ha env h m s r xx env2 h2 m2 s2 r2 g2 ρ w env' hs he
            | false => exact ihb xb hb env h m s r xx env2 h2 m2 s2 r2 g2 ρ w env' hs he
          | _ => cases g2
        · cases hx
      · cases hx
    · obtain rfl := Option.some.inj hx
      cases (show XS.bad = _ from hr)
  | block id a ih =>
    intro x hx env h m s r xx env2 h2 m2 s2 r2 hr ρ w env' hs he
    unfold toX at hx
    split at hx
    · rename_i xa ha
      obtain rfl := Option.some.inj hx
      obtain ⟨x1, env1, h1, m1, s1, r1, g1, g2⟩ := xs_some (show (XS.rec .bad (hEnd id) (xcmd tab R xa env h m s r) : XS) = _ from hr)
      refine Cmd.wp_mono a (fun x' e' u hp => ?_) (ih xa ha env h m s r x1 env1 h1 m1 s1 r1 g1 ρ w env' hs he)
      obtain ⟨rfl, ρ1, k1, k2, k3⟩ := hp
      cases x' with
      | exit id' =>
        have g3 : (Bool.rec (XS.st (.exit id') env1 h1 m1 s1 r1) (.st .normal env1 h1 m1 s1 r1) (Nat.beq id' id) : XS) = _ := g2
        rw [brec_beq] at g3
        simp only [blockTo]
        by_cases e : id' = id
        · rw [if_pos e] at g3 ⊢
          obtain ⟨rfl, rfl, rfl, rfl, rfl, rfl⟩ := st_inj g3
          exact ⟨rfl, ρ1, k1, k2, k3⟩
        · rw [if_neg e] at g3 ⊢
          obtain ⟨rfl, rfl, rfl, rfl, rfl, rfl⟩ := st_inj g3
          exact ⟨rfl, ρ1, k1, k2, k3⟩
      | _ =>
        obtain ⟨rfl, rfl, rfl, rfl, rfl, rfl⟩ := st_inj g2
        exact ⟨rfl, ρ1, k1, k2, k3⟩
    · cases hx
  | loop ks a ih =>
    intro x hx env h m s r xx env2 h2 m2 s2 r2 hr ρ w env' hs he
    unfold toX at hx
    split at hx
    · rename_i xa ha
      obtain rfl := Option.some.inj hx
      have hr1 : loopF ks (xcmd tab R xa) 1000000 env h m s r = .st xx env2 h2 m2 s2 r2 := hr
      rw [show (1000000 : Nat) = 999999 + 1 from rfl, loopF_succ] at hr1
      -- at the head: how much is left to run
      let J : Nat → Env → World → Prop := fun n e u => ∃ env1 h1 m1 s1 r1 ρ1, (XS.rec .bad (hNext (loopF ks (xcmd tab R xa) n)) (xcmd tab R xa env1 h1 m1 s1 r1) : XS) = .st xx env2 h2 m2 s2 r2 ∧ HS G wE ρ1 h1 m1 s1 u ∧ EnvQ ρ1 env1 e ∧ Step m ρ ρ1 h h1 m m1 s s1 w u
      refine ⟨fun e u => ∃ n, J n e u, fun e u => leastOf fun n => J n e u, ⟨999999, _, h, m, s, r, ρ, hr1, hs, he.maskx ks, Step.refl _ _ _ _ _ _⟩, ?_⟩
      intro e u hI
      obtain ⟨env1, h1, m1, s1, r1, ρ1, q1, q2, q3, q4⟩ := leastOf_mem (p := fun n => J n e u) hI
      generalize hn : (leastOf fun n => J n e u) = n at q1
      obtain ⟨x3, env3, h3, m3, s3, r3, g1, g2⟩ := xs_some q1
      refine Cmd.wp_mono a (fun x' e' u' hp => ?_) (ih xa ha env1 h1 m1 s1 r1 x3 env3 h3 m3 s3 r3 g1 ρ1 u e q2 q3)
      have hp' := Post.after hs q4 hp
      obtain ⟨rfl, ρ2, k1, k2, k3⟩ := hp'
      cases x' with
      | normal =>
        cases n with
        | zero => cases g2
        | succ n =>
          have g3 : loopF ks (xcmd tab R xa) (n + 1) env3 h3 m3 s3 r3 = .st xx env2 h2 m2 s2 r2 := g2
          rw [loopF_succ] at g3
          have hJ : J n (mask ks e') u' := ⟨_, h3, m3, s3, r3, ρ2, g3, k1, k2.maskx ks, k3⟩
          exact ⟨⟨n, hJ⟩, Nat.lt_of_le_of_lt (leastOf_le hJ) (by show n < (leastOf fun n => J n e u); rw [hn]; exact Nat.lt_succ_self n)⟩
      | _ =>
        obtain ⟨rfl, rfl, rfl, rfl, rfl, rfl⟩ := st_inj g2
        exact ⟨rfl, ρ2, k1, k2, k3⟩
    · cases hx
  | exit id => intro x hx; exact orBad_snd (toA_snd hA hfun hR _) hx
  | ret => intro x hx; exact orBad_snd (toA_snd hA hfun hR _) hx
end
end Go.Eng
