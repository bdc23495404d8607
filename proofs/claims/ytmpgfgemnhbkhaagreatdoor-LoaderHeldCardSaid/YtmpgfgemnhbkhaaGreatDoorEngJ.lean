/- Engine, part J: regions. -/
import Derived.Test.YtmpgfgemnhbkhaaGreatDoorEngI
set_option linter.unusedSimpArgs false
set_option linter.unusedVariables false
namespace Go.Eng
section
variable {P : Program} {V : List Nat} {N : Nat} {ops : Array Oper}

/-- What the readers that came up early have read is there still, or nobody asks. -/
def LiveOk (Cs : Cls) (live : Live) (dead : List Nat) (env : Env) (w : World) : Prop :=
  ∀ x ∈ Cs, x.1 ∈ dead ∨ (x.2 w ∧ ((∀ w', x.2 w') ∨ ∃ e, (x.1, e) ∈ live ∧ (flat e = true → ∃ v, e.ev env w = some v ∧ ∀ w', e.ev env w' = some v → x.2 w')))

theorem liveOk_more {Cs : Cls} {live live' : Live} {dead dead' : List Nat} {env : Env} {w : World} (h : LiveOk Cs live dead env w) (h1 : ∀ x ∈ live, x ∈ live') (h2 : ∀ x ∈ dead, x ∈ dead') : LiveOk Cs live' dead' env w := by
  intro x hx
  rcases h x hx with h | ⟨h3, h4⟩
  · exact .inl (h2 _ h)
  · refine .inr ⟨h3, ?_⟩
    rcases h4 with h4 | ⟨e, he, h5⟩
    · exact .inl h4
    · exact .inr ⟨e, h1 _ he, h5⟩

/-- Slots are written. -/
theorem liveOk_env {Cs : Cls} {live : Live} {dead : List Nat} {env env' : Env} {w : World} (u : Ex → Bool) (hu : ∀ e, u e = false → ∀ w, e.ev env' w = e.ev env w)
    (h : LiveOk Cs live dead env w) : LiveOk Cs (live.filter fun y => !(u y.2)) (dead ++ (live.filter fun y => u y.2).map (·.1)) env' w := by
  intro x hx
  rcases h x hx with h | ⟨h3, h4⟩
  · exact .inl (by simp [h])
  · rcases h4 with h4 | ⟨e, he, h5⟩
    · exact .inr ⟨h3, .inl h4⟩
    · cases hq : u e with
      | true =>
        refine .inl (List.mem_append_right _ (List.mem_map.2 ⟨(x.1, e), List.mem_filter.2 ⟨he, by simpa using hq⟩, rfl⟩))
      | false =>
        refine .inr ⟨h3, .inr ⟨e, List.mem_filter.2 ⟨he, by simp [hq]⟩, fun hf => ?_⟩⟩
        obtain ⟨v, hv, h6⟩ := h5 hf
        exact ⟨v, by rw [hu e hq]; exact hv, fun w' hw' => h6 w' (by rw [← hu e hq]; exact hw')⟩

/-- Behind an effect. -/
theorem liveOk_eff {Cs : Cls} {live : Live} {dead : List Nat} {env : Env} {w w' : World} {i : Nat} (g : Nat × Ex → Bool)
    (hd : dead.all (waitsT ops ops.size i) = true) (hg : ∀ y, g y = true → waitsT ops ops.size i y.1 = true)
    (hf : (live.filter fun y => !(g y)).all (fun y => flat y.2) = true)
    (h : LiveOk Cs live dead env w) (hs : Stab ((live.filter fun y => !(g y)).map (·.2)) env w w') :
    Keep ops Cs i w' ∧ LiveOk Cs (live.filter fun y => !(g y)) (dead ++ (live.filter g).map (·.1)) env w' := by
  rw [List.all_eq_true] at hd hf
  have key : ∀ x ∈ Cs, x.1 ∈ dead ∨ x.1 ∈ (live.filter g).map (·.1) ∨ (x.2 w' ∧ ((∀ w', x.2 w') ∨ ∃ e, (x.1, e) ∈ (live.filter fun y => !(g y)) ∧ (flat e = true → ∃ v, e.ev env w' = some v ∧ ∀ w', e.ev env w' = some v → x.2 w'))) := by
    intro x hx
    rcases h x hx with h | ⟨h3, h4⟩
    · exact .inl h
    · rcases h4 with h4 | ⟨e, he, h5⟩
      · exact .inr (.inr ⟨h4 w', .inl h4⟩)
      · cases hq : g (x.1, e) with
        | true => exact .inr (.inl (List.mem_map.2 ⟨(x.1, e), List.mem_filter.2 ⟨he, hq⟩, rfl⟩))
        | false =>
          have hm : (x.1, e) ∈ live.filter fun y => !(g y) := List.mem_filter.2 ⟨he, by simp [hq]⟩
          have hfl := hf _ hm
          obtain ⟨v, hv, h6⟩ := h5 hfl
          have hv' := hs e (List.mem_map.2 ⟨_, hm, rfl⟩) v hv
          exact .inr (.inr ⟨h6 w' hv', .inr ⟨e, hm, fun _ => ⟨v, hv', h6⟩⟩⟩)
  constructor
  · intro x hx hw
    rcases key x hx with h | h | h
    · rw [hd _ h] at hw; cases hw
    · obtain ⟨y, hy, hyx⟩ := List.mem_map.1 h
      have := hg y (List.mem_filter.1 hy).2
      rw [hyx, hw] at this; cases this
    · exact h.1
  · intro x hx
    rcases key x hx with h | h | h
    · exact .inl (by simp [h])
    · exact .inl (List.mem_append_right _ h)
    · exact .inr h

theorem foldl_set_len (l : List Nat) : ∀ env : Env, (l.foldl (fun env i => env.set i undef) env).length = env.length := by
  induction l with
  | nil => intro env; rfl
  | cons i l ih => intro env; simp [ih]

/-- What one operation comes to. -/
inductive OneStep (P : Program) (V : List Nat) (N : Nat) (ops : Array Oper) (draw : Bool) (i : Nat) (r : PT) (z : Cmd × List Ent × List Ex) (live : Live) (dead : List Nat) (Qc : Exit → Env → World → Prop)
    (env : Env) (w : World) (a : Act) : Prop where
  | still (o : Oper) (v : Value) (C : World → Prop) (s' : List Ent) (pend' : List Ex) (live' : Live) (dead' : List Nat) (z' : Cmd × List Ent × List Ex) (env' : Env)
      (hst : stillAt P ops i = true) (ho : ops[i]? = some o) (hz : cOps P V N ops draw r s' pend' live' dead' = some z') (h2 : z'.2 = z.2)
      (hy : YieldsC P ops C o v a) (hC : C w) (inv : Inv V N s' env' w (a.put o.dst v).tmps) (hw : z'.1.wp P Qc env' w)
      (hl : draw = true → ∀ Cs, LiveOk Cs live dead env w → LiveOk ((i, C) :: Cs) live' dead' env' w)
  | eff (o : Oper) (s' : List Ent) (pend' : List Ex) (live' : Live) (dead' : List Nat) (z' : Cmd × List Ent × List Ex)
      (hst : stillAt P ops i = false) (ho : ops[i]? = some o) (hz : cOps P V N ops draw r s' pend' live' dead' = some z') (h2 : z'.2 = z.2)
      (h : ∀ (K : Act → World → Prop) (Qx : Exit → Act → World → Prop), (∀ env' w' a', Inv V N s' env' w' a'.tmps → a'.defers = a.defers → z'.1.wp P Qc env' w' →
          (∀ Cs, LiveOk Cs live dead env w → Keep ops Cs i w' ∧ LiveOk Cs live' dead' env' w') → K a' w') → wpOp P ops Qx i K a w)

/-- The worlds in which a still operation yields what it yields. -/
def ClassOf (P : Program) (ops : Array Oper) (o : Oper) (a : Act) (v : Value) (w' : World) : Prop :=
  Region.wanted o (yielded ops a.tmps) = true → (execOp a.eval o).run P w' = .ok (.value v) w'

theorem classOf_yields {s : List Ent} {p : List (Nat × Bool)} {o : Oper} {e : Ex} {env : Env} {w : World} {a : Act} {v : Value} (hv : StillStep P ops V N s p o e env w a v) : YieldsC P ops (ClassOf P ops o a v) o v a := by
  cases hwt : Region.wanted o (yielded ops a.tmps) with
  | true => exact .inl ⟨hwt, fun w' h => h hwt⟩
  | false => exact .inr ⟨hwt, hv.skip hwt⟩

theorem classOf_live {draw : Bool} {i : Nat} {s : List Ent} {p : List (Nat × Bool)} {o : Oper} {e : Ex} {env : Env} {w : World} {a : Act} {v : Value} (inv : Inv V N s env w a.tmps) (hp : opPath ops s o = some p)
    (he : stillEx P V s p o.op = some e) (hv : StillStep P ops V N s p o e env w a v) {live : Live} {dead : List Nat} (hdraw : draw = true) (Cs : Cls) (hl : LiveOk Cs live dead env w) :
    LiveOk ((i, ClassOf P ops o a v) :: Cs) (liveOf draw i o e live) dead env w := by
  intro y hy
  have hsub : ∀ y ∈ live, y ∈ liveOf draw i o e live := by
    intro y hy; unfold liveOf; split <;> simp [hy]
  rcases List.mem_cons.1 hy with rfl | hy
  · refine .inr ⟨hv.run, ?_⟩
    by_cases hwt : Region.wanted o (yielded ops a.tmps) = true
    · have hpt := (wanted_path inv hp).1 hwt
      have hev := hv.yes hpt
      by_cases hr : reader e = true ∧ isMove o.op = false
      · refine .inr ⟨e, ?_, fun hfl => ⟨v, hev, fun w' hw' _ => reader_sound inv hpt he hr.1 hr.2 hfl hev hw'⟩⟩
        simp [liveOf, hdraw, hr.1, hr.2]
      · refine .inl fun w' _ => stillEx_any w' inv hpt he hev ?_
        by_cases h1 : reader e = true
        · exact .inr (by simpa [h1] using hr)
        · exact .inl (by simpa using h1)
    · exact .inl fun w' h => absurd h hwt
  · exact liveOk_more hl hsub (fun _ h => h) y hy

/-- An effect, behind its guard or without one. -/
theorem eff_step {s : List Ent} {p : List (Nat × Bool)} {i : Nat} {o : Oper} {x : Ex} {mk : Option Nat → List Ex → Cmd} {env : Env} {w : World} {a : Act} (inv : Inv V N s env w a.tmps)
    (ho : ops[i]? = some o) (hp : opPath ops s o = some p) (hmk : opEff P (look V s p) o = some mk) (hx : wrapP V s [] p (.const (.bool true)) = some x) (hso : storeOk o = true)
    {st : List Ex} {Q : Exit → Env → World → Prop}
    (hw : if isNilP p then (mk (o.dst.bind (posV V)) st).wp P Q env w else (Cmd.cond x (mk (o.dst.bind (posV V)) st) (.clr (o.dst.bind (posV V)).toList)).wp P Q env w)
    {K : Act → World → Prop} {Qx : Exit → Act → World → Prop}
    (h1 : ∀ v w', PathHolds a.tmps p → Stab st env w w' → Q .normal (setO (o.dst.bind (posV V)) env v) w' → K (a.put o.dst v) w')
    (h2 : ¬ PathHolds a.tmps p → Q .normal ((o.dst.bind (posV V)).toList.foldl (fun env i => env.set i undef) env) w → K (a.put o.dst undef) w) : wpOp P ops Qx i K a w := by
  have hwp := wanted_path inv hp
  have go : PathHolds a.tmps p → (mk (o.dst.bind (posV V)) st).wp P Q env w → wpOp P ops Qx i K a w := by
    intro hpt hc
    unfold wpOp
    rw [ho]
    simp only [hwp.2 hpt, if_true]
    refine .inl (opEff_sound (look_rel inv hpt) hmk hc ?_ (fun v w' => h1 v w' hpt))
    intro t xx vv hop
    unfold storeOk at hso
    rw [hop] at hso
    cases hd : o.dst with
    | none => rfl
    | some t => simp [hd] at hso
  split at hw
  · rename_i hn
    have hn' := nilP_eq hn
    exact go (by rw [hn']; intro y hy; cases hy) hw
  · obtain ⟨gv, hgv, hc⟩ := Ok_inv hw
    rcases wrapP_spec inv p [] _ x gv hx (by intro y hy; cases hy) hgv with ⟨hph, hg1⟩ | ⟨hph, hg1⟩
    · simp only [Ex.ev, Option.some.injEq] at hg1
      rw [← hg1] at hc
      exact go (by simpa using hph) (by simpa [condTo] using hc)
    · rw [hg1] at hc
      have hc' : Q .normal ((o.dst.bind (posV V)).toList.foldl (fun env i => env.set i undef) env) w := by simpa [condTo, Cmd.wp] using hc
      unfold wpOp
      rw [ho]
      have hnw : Region.wanted o (yielded ops a.tmps) = false := by
        cases hq : Region.wanted o (yielded ops a.tmps) with
        | false => rfl
        | true => exact absurd (by simpa using hwp.1 hq) hph
      simp only [hnw, Bool.false_eq_true, if_false]
      exact h2 (by simpa using hph) hc'

theorem clr_ev {dst : Option Nat} {env : Env} (e : Ex) (h : (dst.any fun k => e.uses k) = false) (w : World) :
    e.ev (dst.toList.foldl (fun env i => env.set i undef) env) w = e.ev env w := by
  cases dst with
  | none => rfl
  | some k => simp only [Option.toList, List.foldl]; exact ev_set e (by simpa using h)
theorem setO_ev {dst : Option Nat} {env : Env} {v : Value} (e : Ex) (h : (dst.any fun k => e.uses k) = false) (w : World) : e.ev (setO dst env v) w = e.ev env w := by
  cases dst with
  | none => rfl
  | some k => exact ev_set e (by simpa using h)

theorem one_step {draw : Bool} {i : Nat} {r : PT} {s : List Ent} {pend : List Ex} {live : Live} {dead : List Nat} {z : Cmd × List Ent × List Ex}
    (h : cOps P V N ops draw (.one i r) s pend live dead = some z) {Qc : Exit → Env → World → Prop} {env : Env} {w : World} {a : Act} (inv : Inv V N s env w a.tmps)
    (hw : z.1.wp P Qc env w) (hq : ∀ env w, Qc .normal env w → AllFine env w z.2.2) : OneStep P V N ops draw i r z live dead Qc env w a := by
  have h0 := h
  simp only [cOps] at h0
  obtain ⟨o, ho, h1⟩ := bind_inv h0
  clear h0
  obtain ⟨p, hp, h2⟩ := bind_inv h1
  clear h1
  split at h2
  case isFalse => cases h2
  rename_i hchk
  simp only [Bool.and_eq_true] at hchk
  obtain ⟨hdead, hdst⟩ := hchk
  split at h2
  · rename_i hst
    have hstA : stillAt P ops i = true := by simp [stillAt, ho, hst]
    obtain ⟨e, he, h3⟩ := bind_inv h2
    clear h2
    obtain ⟨x, hx, h4⟩ := bind_inv h3
    clear h3
    split at h4
    · rename_i hd
      have hfine := cOps_fine (P := P) V N ops draw r _ _ _ _ z h4 Qc env w hw hq
      obtain ⟨v, hv⟩ := stillStep (P := P) inv hp he hx (hfine x (by simp))
      exact .still o v _ _ _ _ _ z env hstA ho h4 rfl (classOf_yields hv) hv.run (by rw [hd]; exact inv) hw (fun hdraw Cs hl => classOf_live inv hp he hv hdraw Cs hl)
    · rename_i t hd
      rw [hd] at hdst
      simp only [Option.all_some, Bool.and_eq_true, decide_eq_true_eq] at hdst
      obtain ⟨htN, hpt⟩ := hdst
      split at h4
      · rename_i k hk
        obtain ⟨z', hz', h5⟩ := bind_inv h4
        clear h4
        split at h5
        · rename_i hpn
          have hpn' := nilP_eq hpn
          have hz : z = (seqC (chkC (reduce pend [e])) (seqC (.set k e) z'.1), z'.2) := (Option.some.inj h5).symm
          rw [hz] at hw
          have w1 := (chkC_wp (P := P) _ _ _ _).1 ((seqC_wp (P := P) _ _ _ _ _).1 hw)
          have w2 := (seqC_wp (P := P) _ _ _ _ _).1 w1.2
          obtain ⟨u, hu, w3⟩ := Ok_inv w2
          have hxe : x = e := by rw [hpn'] at hx; simpa [wrapP] using hx.symm
          obtain ⟨v, hv⟩ := stillStep (P := P) inv hp he hx (by rw [hxe]; exact ⟨u, hu⟩)
          have hvu : v = u := by
            have := hv.yes (by rw [hpn']; intro y hy; cases hy)
            rw [this] at hu; exact Option.some.inj hu
          refine .still o v _ _ _ _ _ z' (env.set k v) hstA ho hz' (by rw [hz]) (classOf_yields hv) hv.run ?_ (by rw [hvu]; exact w3)
            (fun hdraw Cs hl => liveOk_env (fun e => e.uses k) (fun e he w => ev_set e he) (classOf_live inv hp he hv hdraw Cs hl))
          rw [hd]; exact inv_entP (inv_var inv hk htN (.inr rfl)) hk (fun h => by rw [hpn] at h; cases h)
        · rename_i hpn
          obtain ⟨g, hg, h6⟩ := map_inv h5
          rw [← h6] at hw
          have w1 := (chkC_wp (P := P) _ _ _ _).1 ((seqC_wp (P := P) _ _ _ _ _).1 hw)
          have w2 := (seqC_wp (P := P) _ _ _ _ _).1 w1.2
          obtain ⟨gv, hgv, w3⟩ := Ok_inv w2
          rcases wrapP_spec inv p [] _ g gv hg (by intro y hy; cases hy) hgv with ⟨hph, hg1⟩ | ⟨hph, hg1⟩
          · simp only [List.nil_append] at hph
            simp only [Ex.ev, Option.some.injEq] at hg1
            rw [← hg1] at w3
            simp only [condTo, if_true] at w3
            obtain ⟨u, hu, w4⟩ := Ok_inv w3
            have hrun := stillEx_sound (P := P) inv hph he hu
            have hv : StillStep P ops V N s p o e env w a u := ⟨fun _ => hrun, (fun hn => by rw [(wanted_path inv hp).2 hph] at hn; cases hn), fun _ => hu, fun hn => absurd hph hn⟩
            refine .still o u _ _ _ _ _ z' (env.set k u) hstA ho hz' (by rw [← h6]) (classOf_yields hv) hv.run ?_ w4
              (fun hdraw Cs hl => liveOk_env (fun e => e.uses k) (fun e he w => ev_set e he) (classOf_live inv hp he hv hdraw Cs hl))
            rw [hd]; exact inv_entP (inv_var inv hk htN (.inr rfl)) hk (fun _ hnp => absurd ((pathHolds_set _ hpt).2 hph) hnp)
          · simp only [List.nil_append] at hph
            rw [hg1] at w3
            simp only [condTo, Bool.false_eq_true, if_false] at w3
            have hnw : Region.wanted o (yielded ops a.tmps) = false := by
              cases hq : Region.wanted o (yielded ops a.tmps) with
              | false => rfl
              | true => exact absurd ((wanted_path inv hp).1 hq) hph
            have hv : StillStep P ops V N s p o e env w a undef := ⟨(fun hy => by rw [hnw] at hy; cases hy), fun _ => rfl, fun hy => absurd hy hph, fun _ => rfl⟩
            refine .still o undef _ _ _ _ _ z' (env.set k undef) hstA ho hz' (by rw [← h6]) (classOf_yields hv) hv.run ?_ w3
              (fun hdraw Cs hl => liveOk_env (fun e => e.uses k) (fun e he w => ev_set e he) (classOf_live inv hp he hv hdraw Cs hl))
            rw [hd]; exact inv_entP (inv_var inv hk htN (.inl rfl)) hk (fun _ _ => getD_set_self _ (by rw [inv.size]; exact htN))
      · rename_i hV
        split at h4
        case isFalse => cases h4
        rename_i hfr
        have hfine := cOps_fine (P := P) V N ops draw r _ _ _ _ z h4 Qc env w hw hq
        obtain ⟨v, hv⟩ := stillStep (P := P) inv hp he hx (hfine x (by simp))
        refine .still o v _ _ _ _ _ z env hstA ho h4 rfl (classOf_yields hv) hv.run ?_ hw (fun hdraw Cs hl => classOf_live inv hp he hv hdraw Cs hl)
        rw [hd]
        exact inv_tmp inv hV htN hfr hpt (fun h u hu => by rw [hv.yes h] at hu; exact Option.some.inj hu) hv.no
  · rename_i hst
    have hstA : stillAt P ops i = false := by simp [stillAt, ho, hst]
    obtain ⟨mk, hmk, h3⟩ := bind_inv h2
    clear h2
    obtain ⟨x, hx, h4⟩ := bind_inv h3
    clear h3
    split at h4
    case isFalse => cases h4
    rename_i hks
    simp only [Bool.and_eq_true] at hks
    obtain ⟨hkeep, hso⟩ := hks
    obtain ⟨z', hz', h6⟩ := map_inv h4
    clear h4
    have hdN : ∀ t, o.dst = some t → t < N := fun t ht => by
      rw [ht] at hdst
      simp only [Option.all_some, Bool.and_eq_true, decide_eq_true_eq] at hdst
      exact hdst.1
    have hdP : ∀ t, o.dst = some t → (p.all fun x => x.1 != t) = true := fun t ht => by
      rw [ht] at hdst
      simp only [Option.all_some, Bool.and_eq_true, decide_eq_true_eq] at hdst
      exact hdst.2
    have h7 : z'.2 = z.2 := by rw [← h6]; split <;> rfl
    refine .eff o _ _ _ _ z' hstA ho hz' h7 ?_
    intro K Qx hK
    -- what the command says of the effect
    have w2 : if isNilP p then (mk (o.dst.bind (posV V)) ((live.filter fun y => !(waitsT ops ops.size i y.1 && r.allW ops y.1)).map (·.2))).wp P (thenTo (z'.1.wp P Qc) Qc) env w
        else (Cmd.cond x (mk (o.dst.bind (posV V)) ((live.filter fun y => !(waitsT ops ops.size i y.1 && r.allW ops y.1)).map (·.2))) (.clr (o.dst.bind (posV V)).toList)).wp P (thenTo (z'.1.wp P Qc) Qc) env w := by
      rw [← h6] at hw
      split at hw
      · rename_i hn
        have w1 := (chkC_wp (P := P) _ _ _ _).1 ((seqC_wp (P := P) _ _ _ _ _).1 hw)
        rw [if_pos hn]
        exact (seqC_wp (P := P) _ _ _ _ _).1 w1.2
      · rename_i hn
        have w1 := (chkC_wp (P := P) _ _ _ _).1 ((seqC_wp (P := P) _ _ _ _ _).1 hw)
        rw [if_neg hn]
        exact (seqC_wp (P := P) _ _ _ _ _).1 w1.2
    have liveAt : ∀ (env' : Env) (w' : World), (∀ e : Ex, ((o.dst.bind (posV V)).any fun k => e.uses k) = false → ∀ w, e.ev env' w = e.ev env w) →
        Stab ((live.filter fun y => !(waitsT ops ops.size i y.1 && r.allW ops y.1)).map (·.2)) env w w' → ∀ Cs, LiveOk Cs live dead env w → Keep ops Cs i w' ∧
        LiveOk Cs ((live.filter fun y => !(waitsT ops ops.size i y.1 && r.allW ops y.1)).filter fun y => !((o.dst.bind (posV V)).any fun k => y.2.uses k))
          (dead ++ (live.filter fun y => waitsT ops ops.size i y.1 && r.allW ops y.1).map (·.1) ++ ((live.filter fun y => !(waitsT ops ops.size i y.1 && r.allW ops y.1)).filter fun y => (o.dst.bind (posV V)).any fun k => y.2.uses k).map (·.1)) env' w' := by
      intro env' w' hev hs Cs hl
      obtain ⟨hk, hl'⟩ := liveOk_eff (ops := ops) (i := i) (fun y => waitsT ops ops.size i y.1 && r.allW ops y.1) hdead (fun y hy => by simp only [Bool.and_eq_true] at hy; exact hy.1) hkeep hl hs
      exact ⟨hk, liveOk_env (fun e => (o.dst.bind (posV V)).any fun k => e.uses k) hev hl'⟩
    refine eff_step inv ho hp hmk hx hso w2 ?_ ?_
    · intro v w' hph hs hn
      refine hK _ w' _ (by
        rw [put_tmps]
        refine inv_entE (inv_eff inv w' hdN v) fun t ht hnp => absurd ?_ hnp
        rw [ht]
        exact (pathHolds_set _ (hdP t ht)).2 hph) (put_defers _ _ _) hn ?_
      exact liveAt _ w' (fun e he w => setO_ev e he w) hs
    · intro hph hn
      refine hK _ w _ (by
        rw [put_tmps]
        refine inv_entE (inv_noeff inv w hdN undef) fun t ht _ => ?_
        rw [ht]
        exact getD_set_self _ (by rw [inv.size]; exact hdN t ht)) (put_defers _ _ _) hn ?_
      exact liveAt _ w (fun e he w => clr_ev e he w) (fun e _ v h => h)

/-! Regions. -/
def PT.list : PT → Option (List Nat)
  | .nil => some []
  | .one i r => r.list.map (i :: ·)
  | .alt _ _ => none

theorem list_ofList (l : List Nat) : (PT.ofList l).list = some l := by
  induction l with
  | nil => rfl
  | cons i l ih => simp [PT.ofList, PT.list, ih]

theorem sound_seq {d : List Deferred} {Qc : Exit → Env → World → Prop} {Q : Exit → Act → World → Prop} : ∀ (T : PT) (l : List Nat), T.list = some l → ∀ (s : List Ent) (pend : List Ex) (live : Live) (dead : List Nat) (z : Cmd × List Ent × List Ex),
    cOps P V N ops false T s pend live dead = some z → ∀ (env : Env) (w : World) (a : Act), Inv V N s env w a.tmps → a.defers = d → z.1.wp P Qc env w →
    (∀ env w, Qc .normal env w → AllFine env w z.2.2) → (∀ env w a, Inv V N z.2.1 env w a.tmps → a.defers = d → Qc .normal env w → Q .normal a w) → wpOps P ops Q l a w := by
  intro T
  induction T with
  | nil =>
    intro l hl s pend live dead z h env w a inv hd hw hq hQ
    simp [PT.list] at hl; subst hl
    simp [cOps] at h; subst h
    exact hQ env w a inv hd hw
  | alt a b _ _ => intro l hl; simp [PT.list] at hl
  | one i r ih =>
    intro l hl s pend live dead z h env w a inv hd hw hq hQ
    simp only [PT.list] at hl
    obtain ⟨l', hl', rfl⟩ := map_inv hl
    rw [wpOps_cons]
    cases one_step h inv hw hq with
    | still o v C s' pend' live' dead' z' env' hst ho hz h2 hy hC inv' hw' _ =>
      refine hy.wpOp ho hC ?_
      exact ih l' hl' _ _ _ _ z' hz env' w _ inv' (by rw [put_defers]; exact hd) hw' (by rw [h2]; exact hq) (by rw [h2]; exact hQ)
    | eff o s' pend' live' dead' z' hst ho hz h2 hk =>
      refine hk _ Q fun env' w' a' inv' hd' hw' _ => ?_
      exact ih l' hl' _ _ _ _ z' hz env' w' a' inv' (by rw [hd']; exact hd) hw' (by rw [h2]; exact hq) (by rw [h2]; exact hQ)

/-- Q, but nothing is said of another way out than the region's end. -/
def OnlyNormal (Q : Exit → Act → World → Prop) : Exit → Act → World → Prop
  | .normal, a, w => Q .normal a w
  | _, _, _ => False

theorem piOk_heads : ∀ (T : PT) (listed : Array Bool), piOk P ops true T listed = true → T.heads ≠ [] ∧ 1 ≤ T.depth
  | .nil, listed, h => by simp [piOk] at h
  | .one i r, listed, h => by simp [PT.heads, PT.depth]
  | .alt a b, listed, h => by
    simp only [piOk, Bool.true_or, Bool.true_and, Bool.and_eq_true] at h
    have := piOk_heads a listed h.1
    simp [PT.heads, PT.depth, this.1]
    omega

theorem sound_draw {d : List Deferred} (hsel : Region.noSelect ops = true) {Q : Exit → Act → World → Prop} : ∀ (T : PT) (br : Bool) (Qc : Exit → Env → World → Prop) (listed : Array Bool), piOk P ops br T listed = true → Closed ops listed →
    ∀ (s : List Ent) (pend : List Ex) (live : Live) (dead : List Nat) (z : Cmd × List Ent × List Ex),
    cOps P V N ops true T s pend live dead = some z → ∀ (env : Env) (w : World) (a : Act), Inv V N s env w a.tmps → a.defers = d → z.1.wp P Qc env w →
    (∀ env w, Qc .normal env w → AllFine env w z.2.2) → (∀ env w a, Inv V N z.2.1 env w a.tmps → a.defers = d → Qc .normal env w → Q .normal a w) →
    ∀ (Cs : Cls), LiveOk Cs live dead env w → ∀ fuel : Nat,
      (br = true → T.depth ≤ fuel + 1 → ∀ i ∈ T.heads, i ∈ Region.ready .any ops listed → wpOp P ops (OnlyNormal Q) i (fun a' w' => After P ops Cs i w w' ∧ wpAnyX P ops (OnlyNormal Q) Cs fuel (listed.setIfInBounds i true) a' w') a w) ∧
      (br = false → T.depth ≤ fuel → wpAnyX P ops (OnlyNormal Q) Cs fuel listed a w) := by
  intro T
  induction T with
  | nil =>
    intro br Qc listed hpi hcl s pend live dead z h env w a inv hd hw hq hQ Cs hl fuel
    cases br with
    | true => simp [piOk] at hpi
    | false =>
      refine ⟨(fun h => by cases h), fun _ _ => ?_⟩
      simp only [piOk, Bool.not_false, Bool.true_and, List.isEmpty_iff] at hpi
      simp [cOps] at h; subst h
      have hqq := hQ env w a inv hd hw
      cases fuel with
      | zero => exact ⟨hpi, hqq⟩
      | succ n => exact ⟨fun _ => hqq, fun i hi => by rw [hpi] at hi; cases hi⟩
  | one i r ih =>
    intro br Qc listed hpi hcl s pend live dead z h env w a inv hd hw hq hQ Cs hl fuel
    have effCase : stillAt P ops i = false → piOk P ops false r (listed.setIfInBounds i true) = true → ∀ f, r.depth ≤ f → i ∈ Region.ready .any ops listed →
        wpOp P ops (OnlyNormal Q) i (fun a' w' => After P ops Cs i w w' ∧ wpAnyX P ops (OnlyNormal Q) Cs f (listed.setIfInBounds i true) a' w') a w := by
      intro hns hpr f hf hi
      cases one_step h inv hw hq with
      | still o v C s' pend' live' dead' z' env' hst ho hz h2 hy hC inv' hw' hl' => rw [hns] at hst; cases hst
      | eff o s' pend' live' dead' z' hst ho hz h2 hk =>
        refine hk _ _ fun env' w' a' inv' hd' hw' hl' => ?_
        obtain ⟨hkeep, hlive⟩ := hl' Cs hl
        refine ⟨by unfold After; simp only [hns, Bool.false_eq_true, if_false]; exact hkeep, ?_⟩
        exact (ih false Qc _ hpr (hcl.set hi) _ _ _ _ z' hz env' w' a' inv' (by rw [hd']; exact hd) hw' (by rw [h2]; exact hq) (by rw [h2]; exact hQ) Cs hlive f).2 rfl hf
    cases br with
    | true =>
      refine ⟨fun _ hdep j hj hjr => ?_, (fun h => by cases h)⟩
      simp only [piOk, if_true, Bool.and_eq_true, Bool.not_eq_true'] at hpi
      simp only [PT.heads, List.mem_singleton] at hj
      subst hj
      simp only [PT.depth] at hdep
      exact effCase hpi.1 hpi.2 fuel (by omega) hjr
    | false =>
      refine ⟨(fun h => by cases h), fun _ hdep => ?_⟩
      simp only [PT.depth] at hdep
      obtain ⟨f, rfl⟩ : ∃ f, fuel = f + 1 := ⟨fuel - 1, by omega⟩
      simp only [piOk, Bool.false_eq_true, if_false, Bool.and_eq_true] at hpi
      obtain ⟨hpi1, hpr⟩ := hpi
      cases hst : stillAt P ops i with
      | false =>
        simp only [hst, Bool.false_eq_true, if_false, beq_iff_eq] at hpi1
        refine ⟨(fun h0 => by rw [h0] at hpi1; cases hpi1), fun j hj => ?_⟩
        rw [hpi1] at hj
        simp only [List.mem_singleton] at hj
        subst hj
        exact effCase hst hpr f (by omega) (by rw [hpi1]; simp)
      | true =>
        simp only [hst, if_true, Bool.and_eq_true] at hpi1
        obtain ⟨hrd, hfree⟩ := hpi1
        cases one_step h inv hw hq with
        | eff o s' pend' live' dead' z' hst' ho hz h2 hk => rw [hst] at hst'; cases hst'
        | still o v C s' pend' live' dead' z' env' hst' ho hz h2 hy hC inv' hw' hl' =>
          have hr : i ∈ Region.ready .any ops listed := by simpa using hrd
          refine wpAnyX_first ho (Region.noSelect_spec hsel) (fun c a w h => h) hst f listed a w hcl (Region.free_spec ho hfree) hr hy hC ?_
          exact (ih false Qc _ hpr (hcl.set hr) _ _ _ _ z' hz env' w _ inv' (by rw [put_defers]; exact hd) hw' (by rw [h2]; exact hq) (by rw [h2]; exact hQ) _ (hl' rfl Cs hl) f).2 rfl (by omega)
  | alt x y ihx ihy =>
    intro br Qc listed hpi hcl s pend live dead z h env w a inv hd hw hq hQ Cs hl fuel
    simp only [piOk, Bool.and_eq_true] at hpi
    obtain ⟨⟨hhd, hpx⟩, hpy⟩ := hpi
    simp only [cOps] at h
    obtain ⟨zx, hzx, h1⟩ := bind_inv h
    obtain ⟨zy, hzy, h2⟩ := map_inv h1
    rw [← h2] at hw hQ
    have wx := (seqC_wp (P := P) _ _ _ _ _).1 hw.1
    have wy := (seqC_wp (P := P) _ _ _ _ _).1 hw.2
    have hx : ∀ f, x.depth ≤ f + 1 → ∀ i ∈ x.heads, i ∈ Region.ready .any ops listed → wpOp P ops (OnlyNormal Q) i (fun a' w' => After P ops Cs i w w' ∧ wpAnyX P ops (OnlyNormal Q) Cs f (listed.setIfInBounds i true) a' w') a w :=
      fun f hf => (ihx true _ listed hpx hcl s pend live dead zx hzx env w a inv hd wx (fun env w h => ((chkC_wp (P := P) _ _ _ _).1 h).1)
        (fun env w a inv hd h => hQ env w a (inv_nil inv w) hd ((chkC_wp (P := P) _ _ _ _).1 h).2) Cs hl f).1 rfl hf
    have hy : ∀ f, y.depth ≤ f + 1 → ∀ i ∈ y.heads, i ∈ Region.ready .any ops listed → wpOp P ops (OnlyNormal Q) i (fun a' w' => After P ops Cs i w w' ∧ wpAnyX P ops (OnlyNormal Q) Cs f (listed.setIfInBounds i true) a' w') a w :=
      fun f hf => (ihy true _ listed hpy hcl s pend live dead zy hzy env w a inv hd wy (fun env w h => ((chkC_wp (P := P) _ _ _ _).1 h).1)
        (fun env w a inv hd h => hQ env w a (inv_nil inv w) hd ((chkC_wp (P := P) _ _ _ _).1 h).2) Cs hl f).1 rfl hf
    have both : ∀ f, (PT.alt x y).depth ≤ f + 1 → ∀ i ∈ (PT.alt x y).heads, i ∈ Region.ready .any ops listed → wpOp P ops (OnlyNormal Q) i (fun a' w' => After P ops Cs i w w' ∧ wpAnyX P ops (OnlyNormal Q) Cs f (listed.setIfInBounds i true) a' w') a w := by
      intro f hf i hi hr
      simp only [PT.depth] at hf
      simp only [PT.heads, List.mem_append] at hi
      rcases hi with hi | hi
      · exact hx f (by omega) i hi hr
      · exact hy f (by omega) i hi hr
    cases br with
    | true => exact ⟨fun _ hdep => both fuel hdep, (fun h => by cases h)⟩
    | false =>
      refine ⟨(fun h => by cases h), fun _ hdep => ?_⟩
      simp only [Bool.false_or, beq_iff_eq] at hhd
      have hne := piOk_heads x listed hpx
      have hd1 : 1 ≤ (PT.alt x y).depth := by simp only [PT.depth]; omega
      obtain ⟨f, rfl⟩ : ∃ f, fuel = f + 1 := ⟨fuel - 1, by omega⟩
      refine ⟨fun h0 => ?_, fun i hi => both f hdep i ?_ hi⟩
      · rw [h0] at hhd
        have := hne.1
        simp at hhd
        exact absurd hhd.1 this
      · rw [hhd] at hi; exact hi

theorem wp_onlyNormal {c : Code} {Q : Exit → Act → World → Prop} {a : Act} {w : World} (h : c.wp P (OnlyNormal Q) a w) : c.wp P Q a w :=
  Code.wp_mono (fun e a w h => by cases e <;> first | exact h | exact h.elim) h

/-- What is asked of a command for a piece of code. -/
def Sound (P : Program) (V : List Nat) (N : Nat) (c : Code) (st : St) (x : Cmd × St) : Prop :=
  (∀ (Q : Exit → Env → World → Prop) (env : Env) (w : World), x.1.wp P Q env w → (∀ env w, Q .normal env w → AllFine env w x.2.pend) → AllFine env w st.pend) ∧
  ∀ (d : List Deferred) (Qc : Exit → Env → World → Prop) (Q : Exit → Act → World → Prop) (env : Env) (w : World) (a : Act), Inv V N st.ents env w a.tmps → a.defers = d → x.1.wp P Qc env w →
    (∀ env w, Qc .normal env w → AllFine env w x.2.pend) →
    (∀ e env w a, Inv V N (match e with | .normal => x.2.ents | _ => []) env w a.tmps → a.defers = d → Qc e env w → Q e a w) → c.wp P Q a w

theorem ev_drew (env : Env) (w : World) (e : Ex) : e.ev env w.drew = e.ev env w := ev_heap (w := w.drew) (w' := w) rfl e

theorem inv_any {s : List Ent} {env : Env} {w : World} {tmps : Array Value} (inv : Inv V N s env w tmps) (e : Exit) (s' : List Ent) (he : e ≠ .normal) : Inv V N (match e with | .normal => s' | _ => []) env w tmps := by
  cases e <;> first | exact absurd rfl he | exact inv_nil inv w

theorem cRegion_sound {id : Nat} {draw : Bool} {st : St} {x : Cmd × St} (h : cRegion P V N ops draw st = some x) : Sound P V N (.region id ops draw) st x := by
  unfold cRegion at h
  split at h
  · rename_i hdr
    subst hdr
    simp only at h
    split at h
    · rename_i hchk
      simp only [Bool.and_eq_true, decide_eq_true_eq] at hchk
      obtain ⟨⟨⟨hpi, hsel⟩, hm⟩, hdep⟩ := hchk
      obtain ⟨z, hz, rfl⟩ := map_inv h
      constructor
      · intro Q env w hw hq
        exact ((chkC_wp (P := P) _ _ _ _).1 ((seqC_wp (P := P) _ _ _ _ _).1 hw)).1
      · intro d Qc Q env w a inv hd hw hq hQ
        have w1 := ((chkC_wp (P := P) _ _ _ _).1 ((seqC_wp (P := P) _ _ _ _ _).1 hw)).2
        have w2 : z.1.wp P Qc env w.drew := (seqC_wp (P := P) _ _ _ _ _).1 w1
        refine wp_onlyNormal (wp_region_X hm ?_)
        exact (sound_draw hsel _ false Qc _ hpi closed_start [] [] [] [] z hz env w.drew a (inv_nil inv _) hd w2 hq (fun env w a inv hd h => hQ .normal env w a inv hd h) [] (fun x hx => by cases hx) ops.size).2 rfl hdep
    · cases h
  · rename_i hdr
    have hdr' : draw = false := by simpa using hdr
    subst hdr'
    obtain ⟨z, hz, rfl⟩ := map_inv h
    constructor
    · intro Q env w hw hq
      exact cOps_fine (P := P) V N ops false _ _ _ _ _ z hz Q env w hw hq
    · intro d Qc Q env w a inv hd hw hq hQ
      exact wp_region (sound_seq _ _ (list_ofList _) _ _ _ _ z hz env w a inv hd hw hq (fun env w a inv hd h => hQ .normal env w a inv hd h))
end
end Go.Eng
