/- Engine, part XS: what a function reads of its arguments is put as constants, then it is run. -/
import Derived.Test.YtkgpmjjleemdlaaGreatEngXM
set_option linter.unusedSimpArgs false
set_option linter.unusedVariables false
set_option linter.unusedSectionVars false
namespace Go.Eng
noncomputable section
variable [Sy]
/-- Slots that hold what they held. -/
def Holds (l : List (Nat × Value)) (env : Env) : Prop := ∀ p ∈ l, env[p.1]? = some p.2
def subAt (q : List (Ex × Value)) (e : Ex) (d : Ex) : Ex := match q with
  | [] => d
  | p :: r => match beqE p.1 e with
    | true => .const p.2
    | false => subAt r e d
def Ex.subs (q : List (Ex × Value)) : Ex → Ex
  | .var i => subAt q (.var i) (.var i)
  | .const v => .const v
  | .op1 o x => subAt q (.op1 o x) (.op1 o (x.subs q))
  | .op2 o x y => subAt q (.op2 o x y) (.op2 o (x.subs q) (y.subs q))
  | .op3 o x y z => subAt q (.op3 o x y z) (.op3 o (x.subs q) (y.subs q) (z.subs q))
  | .eqx ne d x y => subAt q (.eqx ne d x y) (.eqx ne d (x.subs q) (y.subs q))
  | .pick c a b => subAt q (.pick c a b) (.pick (c.subs q) (a.subs q) (b.subs q))
  | .ld sz x => .ld sz (x.subs q)
  | .bstr x => .bstr (x.subs q)
def SubOk (q : List (Ex × Value)) (env : Env) : Prop := ∀ p ∈ q, ∀ w, p.1.ev env w = some p.2
theorem subAt_ev {q : List (Ex × Value)} {env : Env} {w : World} {e d : Ex} (hd : d.ev env w = e.ev env w) : ∀ {q' : List (Ex × Value)}, SubOk q' env → (subAt q' e d).ev env w = e.ev env w
  | [], _ => hd
  | p :: r, h => by
    unfold subAt
    split
    · rename_i hb
      rw [← beqE_eq _ _ hb]
      exact (h p List.mem_cons_self w).symm
    · exact subAt_ev (q := q) hd fun x hx => h x (List.mem_cons_of_mem _ hx)
theorem subs_ev {q : List (Ex × Value)} {env : Env} {w : World} (hq : SubOk q env) : ∀ e : Ex, (e.subs q).ev env w = e.ev env w := by
  intro e
  induction e with
  | var i => exact subAt_ev (q := q) rfl hq
  | const v => rfl
  | op1 o x ih => exact subAt_ev (q := q) (by simp only [Ex.ev, ih]) hq
  | op2 o x y ih1 ih2 => exact subAt_ev (q := q) (by simp only [Ex.ev, ih1, ih2]) hq
  | op3 o x y z ih1 ih2 ih3 => exact subAt_ev (q := q) (by simp only [Ex.ev, ih1, ih2, ih3]) hq
  | eqx ne d x y ih1 ih2 => exact subAt_ev (q := q) (by simp only [Ex.ev, ih1, ih2]) hq
  | pick c a b ih1 ih2 ih3 => exact subAt_ev (q := q) (by simp only [Ex.ev, ih1, ih2, ih3]) hq
  | ld sz x ih => simp only [Ex.subs, Ex.ev, ih]
  | bstr x ih => simp only [Ex.subs, Ex.ev, ih]
theorem subs_evs {q : List (Ex × Value)} {env : Env} {w : World} (hq : SubOk q env) : ∀ es : List Ex, evs env w (es.map (·.subs q)) = evs env w es
  | [] => rfl
  | e :: r => by simp only [List.map_cons, evs, subs_ev hq, subs_evs hq r]
def Cmd.subs (q : List (Ex × Value)) : Cmd → Cmd
  | .skip => .skip
  | .chk es => .chk (es.map (·.subs q))
  | .set i e => .set i (e.subs q)
  | .clr l => .clr l
  | .draw => .draw
  | .call d f a st => .call d f (a.map (·.subs q)) (st.map (·.subs q))
  | .dyn d f a st => .dyn d (f.subs q) (a.map (·.subs q)) (st.map (·.subs q))
  | .bi d b ats ty a st => .bi d b ats ty (a.map (·.subs q)) (st.map (·.subs q))
  | .sem d g a st => .sem d g (a.map (·.subs q)) (st.map (·.subs q))
  | .die => .die
  | .store n x v st => .store n (x.subs q) (v.subs q) (st.map (·.subs q))
  | .new d T e st => .new d T (e.subs q) (st.map (·.subs q))
  | .row d T n e st => .row d T n (e.subs q) (st.map (·.subs q))
  | .seq a b => .seq (a.subs q) (b.subs q)
  | .alt a b => .alt (a.subs q) (b.subs q)
  | .cond e a b => .cond (e.subs q) (a.subs q) (b.subs q)
  | .block id a => .block id (a.subs q)
  | .loop ks a => .loop ks (a.subs q)
  | .exit id => .exit id
  | .ret => .ret
def inN (l : List Nat) (i : Nat) : Bool := l.any fun j => decide (j = i)
theorem inN_false {l : List Nat} {i : Nat} (h : inN l i = false) : i ∉ l := fun hm => by
  have h2 : inN l i = true := List.any_eq_true.2 ⟨i, hm, by simp⟩
  rw [h] at h2; cases h2
theorem inN_true {l : List Nat} {i : Nat} (h : inN l i = true) : i ∈ l := by
  obtain ⟨j, hj, h2⟩ := List.any_eq_true.1 h
  rw [of_decide_eq_true h2] at hj; exact hj
def freeO (l : List Nat) (d : Option Nat) : Bool := match d with
  | none => true
  | some i => !(inN l i)
/-- It writes none of these slots. -/
def Cmd.spares (l : List Nat) : Cmd → Bool
  | .set i _ => !(inN l i)
  | .clr c => c.all fun i => !(inN l i)
  | .call d _ _ _ => freeO l d
  | .dyn d _ _ _ => freeO l d
  | .bi d _ _ _ _ _ => freeO l d
  | .sem d _ _ _ => freeO l d
  | .new d _ _ _ => freeO l d
  | .row d _ _ _ _ => freeO l d
  | .seq a b => a.spares l && b.spares l
  | .alt a b => a.spares l && b.spares l
  | .cond _ a b => a.spares l && b.spares l
  | .block _ a => a.spares l
  | .loop ks a => (l.all fun i => inN ks i) && a.spares l
  | _ => true
section
variable {P : Program} {q : List (Ex × Value)} {l : List (Nat × Value)}
theorem Holds.keep {env env' : Env} (h : Holds l env) (hk : ∀ i, i ∈ l.map (·.1) → env'[i]? = env[i]?) : Holds l env' := fun p hp => by rw [hk _ (List.mem_map.2 ⟨p, hp, rfl⟩)]; exact h p hp
theorem Holds.set {env : Env} (h : Holds l env) {i : Nat} (hi : (!(inN (l.map (·.1)) i)) = true) (v : Value) : Holds l (env.set i v) :=
  h.keep fun j hj => List.getElem?_set_ne fun e => inN_false (by simpa using hi) (e ▸ hj)
theorem Holds.setO {env : Env} (h : Holds l env) {d : Option Nat} (hd : freeO (l.map (·.1)) d = true) (v : Value) : Holds l (setO d env v) := by
  cases d with
  | none => exact h
  | some i => exact h.set hd v
theorem Holds.clr {env : Env} (h : Holds l env) {c : List Nat} (hc : (c.all fun i => !(inN (l.map (·.1)) i)) = true) : Holds l (c.foldl (fun env i => env.set i undef) env) :=
  h.keep fun j hj => clr_keep _ _ fun hm => inN_false (by simpa using List.all_eq_true.1 hc j hm) hj
theorem Holds.mask {env : Env} (h : Holds l env) {ks : List Nat} (hk : ((l.map (·.1)).all fun i => inN ks i) = true) : Holds l (mask ks env) :=
  h.keep fun j hj => by
    have h2 : ks.contains j = true := by simpa using inN_true (List.all_eq_true.1 hk j hj)
    simp only [Go.Eng.mask, List.getElem?_mapIdx]
    cases env[j]? with
    | none => rfl
    | some v => simp only [Option.map_some, h2, if_true]
theorem stab_subs {env : Env} (hq : SubOk q env) {st : List Ex} {w w' : World} (h : Stab (st.map (·.subs q)) env w w') : Stab st env w w' := fun e he v hv => by
  have := h _ (List.mem_map.2 ⟨e, he, rfl⟩) v (by rw [subs_ev hq]; exact hv)
  rw [subs_ev hq] at this; exact this
theorem wp_subs (hq : ∀ env, Holds l env → SubOk q env) (c : Cmd) : c.spares (l.map (·.1)) = true → ∀ {Q : Exit → Env → World → Prop} {env : Env} {w : World}, Holds l env → (c.subs q).wp P Q env w → c.wp P (fun x e u => Holds l e ∧ Q x e u) env w := by
  induction c with
  | skip => intro _ Q env w hl h; exact ⟨hl, h⟩
  | chk es =>
    intro _ Q env w hl h; obtain ⟨a, ha, h⟩ := Ok_inv h
    rw [subs_evs (hq env hl)] at ha
    simp only [Cmd.wp, ha, Ok_some]; exact ⟨hl, h⟩
  | set i e =>
    intro hs Q env w hl h; obtain ⟨a, ha, h⟩ := Ok_inv h
    rw [subs_ev (hq env hl)] at ha
    simp only [Cmd.wp, ha, Ok_some]; exact ⟨hl.set hs a, h⟩
  | clr c => intro hs Q env w hl h; exact ⟨hl.clr hs, h⟩
  | draw => intro _ Q env w hl h; exact ⟨hl, h⟩
  | call d f a st =>
    intro hs Q env w hl h; obtain ⟨vs, ha, h⟩ := Ok_inv h
    rw [subs_evs (hq env hl)] at ha
    simp only [Cmd.wp, ha, Ok_some]
    exact h.mono fun v w' k => ⟨stab_subs (hq env hl) k.1, hl.setO hs v, k.2⟩
  | dyn d f a st =>
    intro hs Q env w hl h; obtain ⟨fv, hf, h⟩ := Ok_inv h; obtain ⟨vs, ha, h⟩ := Ok_inv h
    rw [subs_ev (hq env hl)] at hf
    rw [subs_evs (hq env hl)] at ha
    simp only [Cmd.wp, hf, ha, Ok_some]
    exact h.mono fun v w' k => ⟨stab_subs (hq env hl) k.1, hl.setO hs v, k.2⟩
  | bi d b ats ty a st =>
    intro hs Q env w hl h; obtain ⟨vs, ha, h⟩ := Ok_inv h
    rw [subs_evs (hq env hl)] at ha
    simp only [Cmd.wp, ha, Ok_some]
    exact Result.to_mono h fun v w' k => ⟨stab_subs (hq env hl) k.1, hl.setO hs v, k.2⟩
  | sem d g a st =>
    intro hs Q env w hl h; obtain ⟨vs, ha, h⟩ := Ok_inv h
    rw [subs_evs (hq env hl)] at ha
    simp only [Cmd.wp, ha, Ok_some]
    exact RunTo.mono h fun v w' k => ⟨stab_subs (hq env hl) k.1, hl.setO hs v, k.2⟩
  | die => intro _ Q env w hl h; exact h.elim
  | store n x v st =>
    intro _ Q env w hl h; obtain ⟨a, ha, h⟩ := Ok_inv h; obtain ⟨b, hb, h⟩ := Ok_inv h; obtain ⟨c, hc, h⟩ := Ok_inv h
    rw [subs_ev (hq env hl)] at ha hb
    simp only [Cmd.wp, ha, hb, hc, Ok_some]
    exact ⟨stab_subs (hq env hl) h.1, hl, h.2⟩
  | new d T e st =>
    intro hs Q env w hl h; obtain ⟨a, ha, h⟩ := Ok_inv h
    rw [subs_ev (hq env hl)] at ha
    simp only [Cmd.wp, ha, Ok_some]; exact ⟨hl.setO hs _, h⟩
  | row d T n e st =>
    intro hs Q env w hl h; obtain ⟨a, ha, h⟩ := Ok_inv h
    rw [subs_ev (hq env hl)] at ha
    simp only [Cmd.wp, ha, Ok_some]; exact ⟨hl.setO hs _, h⟩
  | seq a b iha ihb =>
    intro hs Q env w hl h
    simp only [Cmd.spares, Bool.and_eq_true] at hs
    refine Cmd.wp_mono a (fun x e u hp => ?_) (iha hs.1 hl h)
    obtain ⟨h1, h2⟩ := hp
    cases x with
    | normal => exact ihb hs.2 h1 h2
    | _ => exact ⟨h1, h2⟩
  | alt a b iha ihb =>
    intro hs Q env w hl h
    simp only [Cmd.spares, Bool.and_eq_true] at hs
    exact ⟨iha hs.1 hl h.1, ihb hs.2 hl h.2⟩
  | cond e a b iha ihb =>
    intro hs Q env w hl h
    simp only [Cmd.spares, Bool.and_eq_true] at hs
    obtain ⟨v, hv, h⟩ := Ok_inv h
    rw [subs_ev (hq env hl)] at hv
    simp only [Cmd.wp, hv, Ok_some]
    exact condTo_mono h (iha hs.1 hl) (ihb hs.2 hl)
  | block id a iha =>
    intro hs Q env w hl h
    refine Cmd.wp_mono a (fun x e u hp => ?_) (iha hs hl h)
    obtain ⟨h1, h2⟩ := hp
    cases x with
    | exit id' =>
      simp only [blockTo] at h2 ⊢
      split at h2
      · rename_i e; rw [if_pos e]; exact ⟨h1, h2⟩
      · rename_i e; rw [if_neg e]; exact ⟨h1, h2⟩
    | _ => exact ⟨h1, h2⟩
  | loop ks a iha =>
    intro hs Q env w hl h
    simp only [Cmd.spares, Bool.and_eq_true] at hs
    obtain ⟨I, m, h0, h1⟩ := h
    refine ⟨fun e u => Holds l e ∧ I e u, m, ⟨hl.mask hs.1, h0⟩, fun e u hI => Cmd.wp_mono a (fun x e' u' hp => ?_) (iha hs.2 hI.1 (h1 e u hI.2))⟩
    obtain ⟨h2, h3⟩ := hp
    cases x with
    | normal => exact ⟨⟨h2.mask hs.1, h3.1⟩, h3.2⟩
    | _ => exact ⟨h2, h3⟩
  | exit id => intro _ Q env w hl h; exact ⟨hl, h⟩
  | ret => intro _ Q env w hl h; exact ⟨hl, h⟩
end

def XC.subs (q : List (Ex × Value)) : XC → XC
  | .skip => .skip
  | .chk es => .chk (es.map (·.subs q))
  | .set i e => .set i (e.subs q)
  | .clr l => .clr l
  | .call d f a st => .call d f (a.map (·.subs q)) (st.map (·.subs q))
  | .dyn d f a st => .dyn d (f.subs q) (a.map (·.subs q)) (st.map (·.subs q))
  | .app d T n x y st => .app d T n (x.subs q) (y.subs q) (st.map (·.subs q))
  | .copy d n x y st => .copy d n (x.subs q) (y.subs q) (st.map (·.subs q))
  | .clear z x st => .clear z (x.subs q) (st.map (·.subs q))
  | .mk d T z n c st => .mk d T z (n.subs q) (c.subs q) (st.map (·.subs q))
  | .bytes d T x => .bytes d T (x.subs q)
  | .mkR j d t z l c => .mkR j d t z (l.subs q) (c.subs q)
  | .mkmap d k st => .mkmap d k (st.map (·.subs q))
  | .cvs d x st => .cvs d (x.subs q) (st.map (·.subs q))
  | .look d z ok k x i st => .look d z ok k (x.subs q) (i.subs q) (st.map (·.subs q))
  | .add64 d x y c st => .add64 d (x.subs q) (y.subs q) (c.subs q) (st.map (·.subs q))
  | .upd k x i v st => .upd k (x.subs q) (i.subs q) (v.subs q) (st.map (·.subs q))
  | .mlen d x st => .mlen d (x.subs q) (st.map (·.subs q))
  | .mdel k x i st => .mdel k (x.subs q) (i.subs q) (st.map (·.subs q))
  | .sl3n x l h m st => .sl3n (x.subs q) (l.subs q) (h.subs q) (m.subs q) (st.map (·.subs q))
  | .keys d x st => .keys d (x.subs q) (st.map (·.subs q))
  | .store n x v st => .store n (x.subs q) (v.subs q) (st.map (·.subs q))
  | .new d T e => .new d T (e.subs q)
  | .row d T n e => .row d T n (e.subs q)
  | .resv n => .resv n
  | .newR j d T e => .newR j d T (e.subs q)
  | .rowR j d T n e => .rowR j d T n (e.subs q)
  | .seq a b => .seq (a.subs q) (b.subs q)
  | .cond e a b => .cond (e.subs q) (a.subs q) (b.subs q)
  | .block id a => .block id (a.subs q)
  | .loop ks a => .loop ks (a.subs q)
  | .exit id => .exit id
  | .ret => .ret
/-- A run of a function's command of which nothing is known but what was put into it. -/
noncomputable def xrun (tab : XT) (n : Nat) (env : Env) (c : XC) (rs : List Ex) (h : HT) (G : Nat) : XR := XS.rec .bad (hRes rs) (xcmd tab (xcall tab n) c env h G 1 0)
theorem undef_q (ρ : Rho) (env : Env) : EnvQ ρ (List.replicate env.length undef) env := ⟨by simp, fun i u v hu _ => by
    left
    obtain ⟨hi, e⟩ := List.getElem?_eq_some_iff.1 hu
    rw [← e, List.getElem_replicate]; rfl⟩
/-- A slot that holds a symbol, another one that holds nothing. -/
def symEnv : Env → Env → Prop
  | [], [] => True
  | u :: r, v :: r' => (isUndef u = true ∨ (isSy u = true ∧ v = syV Sy.θ u) ∨ ∃ us vs : List Value, u = .agg ⟨us⟩ ∧ v = .agg ⟨vs⟩ ∧ us.all isSy = true ∧ vs = us.map (syV Sy.θ)) ∧ symEnv r r'
  | _, _ => False
theorem sym_vq {ρ : Rho} {u v : Value} (h : (isSy u = true ∧ v = syV Sy.θ u) ∨ ∃ us vs : List Value, u = .agg ⟨us⟩ ∧ v = .agg ⟨vs⟩ ∧ us.all isSy = true ∧ vs = us.map (syV Sy.θ)) : VQ ρ u v := by
  rcases h with ⟨h1, rfl⟩ | ⟨us, vs, rfl, rfl, h1, rfl⟩
  · exact vq_sy h1
  · refine .agg _ _ (by simp) fun i u v hu hv => ?_
    simp only [List.getElem?_toArray, List.getElem?_map] at hu hv
    rw [hu] at hv
    obtain rfl := Option.some.inj hv
    exact vq_sy (List.all_eq_true.1 h1 u (List.mem_of_getElem? hu))
theorem symEnv_q {ρ : Rho} : ∀ {e e' : Env}, symEnv e e' → EnvQ ρ e e'
  | [], [], _ => ⟨rfl, fun i u v hu => by simp at hu⟩
  | u :: r, v :: r', ⟨h1, h2⟩ => by
    obtain ⟨g1, g2⟩ := symEnv_q (ρ := ρ) h2
    refine ⟨by simp [g1], fun i a b ha hb => ?_⟩
    cases i with
    | zero =>
      simp at ha hb; subst ha; subst hb
      exact h1.imp id sym_vq
    | succ i => exact g2 i a b (by simpa using ha) (by simpa using hb)
  | [], _ :: _, h => h.elim
  | _ :: _, [], h => h.elim
theorem evs_holds {q : List (Ex × Value)} {env : Env} (hq : SubOk q env) {w : World} (rs : List Ex) : evs env w (rs.map (·.subs q)) = evs env w rs := subs_evs hq rs
/-- The run with constants: what it tells, the function does. -/
theorem ret_of_sub {P : Program} {G A : Nat} {tab : XT} (hA : AddOk P A) {h : HT} {w : World} (ht : TabOk P G A w tab) (hb : Begin G h w) {f : FuncId} {fn : Func} {V : List Nat} {ks : List (List Nat)} {cmd : Cmd} {rs : List Ex} {vs : List Value} {n : Nat} {c : XC} {v : Value}
    {q : List (Ex × Value)} {l : List (Nat × Value)} (hf : P.funcs[f]? = some fn) (hn : vs.length ≤ fn.ntmps) (hc : compile P fn V ks = some (cmd, rs)) (hsp : cmd.spares (l.map (·.1)) = true) (hrs : rs.all (·.kc G) = true)
    (hl : Holds l (env0 V vs)) (hq : ∀ env, Holds l env → SubOk q env) (hx : toX P G A (cmd.subs q) = some c) {env1 : Env} (hE : ∀ ρ, EnvQ ρ env1 (env0 V vs)) (hr : tells v (xrun tab n env1 c rs h G) = true) (hp : plainV v = true) (hK : Sy.K w := by exact trivial) : Ret P f vs w fun v' w' => v' = v ∧ Kept none' w w' := by
  obtain ⟨h', m', s', hr⟩ := tells_ok hr
  obtain ⟨ρ, hs⟩ := hb.hs hK
  have hfun := ht.fun
  have hsnd := toX_snd hA hfun (xcall_ok (wE := w) hA ht n) (cmd.subs q) c hx
  unfold xrun at hr
  cases hxr : xcmd tab (xcall tab n) c env1 h G 1 0 with
  | bad => rw [hxr] at hr; cases hr
  | st xx env2 h3 m3 s3 r3 =>
    rw [hxr] at hr
    have h4 : hRes rs xx env2 h3 m3 s3 r3 = .ok v h' m' s' := hr
    refine ret_of_cmd hf hn hc (Cmd.wp_mono cmd (fun x' e' u hp2 => ?_) (wp_subs hq cmd hsp hl (hsnd _ h G 1 0 xx env2 h3 m3 s3 r3 hxr ρ w (env0 V vs) hs (hE ρ))))
    obtain ⟨hl2, rfl, ρ2, k1, k2, k3⟩ := hp2
    have fin : (Option.rec .bad (fun vs => XR.ok (xres vs) h3 m3 s3) (xes h3 env2 rs) : XR) = .ok v h' m' s' → Ok (evs e' u rs) fun vs => resV vs = v ∧ Kept none' w u := by
      intro h5
      cases h6 : xes h3 env2 rs with
      | none => rw [h6] at h5; cases h5
      | some us =>
        rw [h6] at h5
        injection h5 with a1 a2 a3 a4
        subst a1; subst a2; subst a3; subst a4
        obtain ⟨us', q1, q2⟩ := xes_vq k1 k2 rs hrs h6
        rw [q1, Ok_some]
        exact ⟨vq_plain hp (xres_q (vqs_lq q2)), k1.kept⟩
    cases x' with
    | normal => exact fin h4
    | ret => exact fin h4
    | _ => cases h4
end
end Go.Eng
