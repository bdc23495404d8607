/- Engine, part K: a whole function: its call returns what its command says. -/
import Derived.Test.YtmpgfgemnhbkhaaGreatDoorEngJ
set_option linter.unusedSimpArgs false
set_option linter.unusedVariables false
namespace Go.Eng
section
variable {P : Program} {V : List Nat} {N : Nat}

theorem look_ev {s : List Ent} {env : Env} {w : World} {a : Act} (inv : Inv V N s env w a.tmps) {c : Operand} {e : Ex} {v : Value} (h : look V s [] c = some e) (hv : e.ev env w = some v) : a.eval c = v :=
  look_rel inv (p := []) (by intro y hy; cases hy) c e v h hv

theorem cCode_sound : ∀ (c : Code) (st : St) (x : Cmd × St), cCode P V N c st = some x → Sound P V N c st x := by
  intro c
  induction c with
  | skip =>
    intro st x h
    simp [cCode] at h; subst h
    exact ⟨fun Q env w hw hq => hq env w hw, fun d Qc Q env w a inv hd hw hq hQ => wp_skip (hQ .normal env w a inv hd hw)⟩
  | region id ops draw => intro st x h; exact cRegion_sound h
  | seq b c ihb ihc =>
    intro st x h
    simp only [cCode] at h
    obtain ⟨xb, hxb, h1⟩ := bind_inv h
    obtain ⟨xc, hxc, rfl⟩ := map_inv h1
    have sb := ihb st xb hxb
    have sc := ihc xb.2 xc hxc
    constructor
    · intro Q env w hw hq
      exact sb.1 _ env w ((seqC_wp (P := P) _ _ _ _ _).1 hw) fun env w h => sc.1 Q env w h hq
    · intro d Qc Q env w a inv hd hw hq hQ
      refine wp_seq ?_
      refine sb.2 d (thenTo (xc.1.wp P Qc) Qc) _ env w a inv hd ((seqC_wp (P := P) _ _ _ _ _).1 hw) (fun env w h => sc.1 Qc env w h hq) ?_
      intro e env w a inv hd h
      cases e with
      | normal => exact sc.2 d Qc Q env w a inv hd h hq hQ
      | _ => exact hQ _ env w a inv hd h
  | cond c x y ihx ihy =>
    intro st z h
    simp only [cCode] at h
    obtain ⟨e, he, h1⟩ := bind_inv h
    obtain ⟨zx, hzx, h2⟩ := bind_inv h1
    obtain ⟨zy, hzy, rfl⟩ := map_inv h2
    have sx := ihx _ zx hzx
    have sy := ihy _ zy hzy
    constructor
    · intro Q env w hw hq
      have w1 := (chkC_wp (P := P) _ _ _ _).1 ((seqC_wp (P := P) _ _ _ _ _).1 hw)
      obtain ⟨v, hv, w2⟩ := Ok_inv w1.2
      exact reduce_fine _ _ w1.1 (fun e' he' => by simp at he'; subst he'; exact ⟨v, hv⟩)
    · intro d Qc Q env w a inv hd hw hq hQ
      have w1 := (chkC_wp (P := P) _ _ _ _).1 ((seqC_wp (P := P) _ _ _ _ _).1 hw)
      obtain ⟨v, hv, w2⟩ := Ok_inv w1.2
      have ev := look_ev inv he hv
      have side : ∀ {cc : Code} {zz : Cmd × St}, Sound P V N cc ⟨st.ents, [], st.ks⟩ zz ∨ (∃ ks, Sound P V N cc ⟨st.ents, [], ks⟩ zz) → (seqC zz.1 (chkC zz.2.pend)).wp P (thenTo (Qc .normal) Qc) env w → cc.wp P Q a w := by
        intro cc zz hs hz
        rw [thenTo_self] at hz
        have hz' := (seqC_wp (P := P) _ _ _ _ _).1 hz
        have gen : ∀ ks, Sound P V N cc ⟨st.ents, [], ks⟩ zz → cc.wp P Q a w := fun ks hs =>
          hs.2 d (thenTo ((chkC zz.2.pend).wp P Qc) Qc) Q env w a inv hd hz' (fun env w h => ((chkC_wp (P := P) _ _ _ _).1 h).1) (by
            intro e env w a inv hd h
            cases e with
            | normal => exact hQ .normal env w a (inv_nil inv w) hd ((chkC_wp (P := P) _ _ _ _).1 h).2
            | _ => exact hQ _ env w a inv hd h)
        rcases hs with hs | ⟨ks, hs⟩
        · exact gen _ hs
        · exact gen _ hs
      unfold condTo at w2
      split at w2
      · rename_i b
        refine wp_cond (t := b) ev ?_
        cases b with
        | true => simp only [if_true] at w2 ⊢; exact side (.inl sx) (by rw [thenTo_self]; exact w2)
        | false => simp only [Bool.false_eq_true, if_false] at w2 ⊢; exact side (.inr ⟨_, sy⟩) (by rw [thenTo_self]; exact w2)
      · exact w2.elim
  | block id b ih =>
    intro st x h
    simp only [cCode] at h
    obtain ⟨xb, hxb, rfl⟩ := map_inv h
    have sb := ih _ xb hxb
    constructor
    · intro Q env w hw hq
      exact ((chkC_wp (P := P) _ _ _ _).1 ((seqC_wp (P := P) _ _ _ _ _).1 hw)).1
    · intro d Qc Q env w a inv hd hw hq hQ
      have w1 := ((chkC_wp (P := P) _ _ _ _).1 ((seqC_wp (P := P) _ _ _ _ _).1 hw)).2
      refine wp_block ?_
      refine sb.2 d _ _ env w a inv hd ((seqC_wp (P := P) _ _ _ _ _).1 w1) (fun env w h => ((chkC_wp (P := P) _ _ _ _).1 h).1) ?_
      intro e env w a inv hd h
      cases e with
      | normal => exact hQ .normal env w a (inv_nil inv w) hd ((chkC_wp (P := P) _ _ _ _).1 h).2
      | exit id' =>
        simp only [thenTo, blockTo] at h
        simp only [Exit.inBlock]
        split at h
        · rename_i hid; simp only [hid, if_true]; exact hQ .normal env w a (inv_nil inv w) hd h
        · rename_i hid; simp only [hid, if_false]; exact hQ _ env w a inv hd h
      | _ => exact hQ _ env w a inv hd h
  | loop b ih =>
    intro st x h
    simp only [cCode] at h
    split at h
    · cases h
    · rename_i k ks hks
      obtain ⟨xb, hxb, rfl⟩ := map_inv h
      have sb := ih _ xb hxb
      constructor
      · intro Q env w hw hq
        exact ((chkC_wp (P := P) _ _ _ _).1 ((seqC_wp (P := P) _ _ _ _ _).1 hw)).1
      · intro d Qc Q env w a inv hd hw hq hQ
        have w1 := ((chkC_wp (P := P) _ _ _ _).1 ((seqC_wp (P := P) _ _ _ _ _).1 hw)).2
        obtain ⟨I, m, h0, hround⟩ := w1
        -- the rounds, counted down by the measure of the slots
        intro bf kk cs
        have key : ∀ n env w a, m env w = n → I env w → Inv V N [] env w a.tmps → a.defers = d →
            ∃ e a' w', Q e a' w' ∧ Arrives P (lone (bf.at a (.code b :: .inLoop b :: kk)) cs w) bf kk cs e a' w' := by
          intro n
          induction n using Nat.strongRecOn with
          | _ n ihn =>
            intro env w a hn hI inv hd
            have hb := hround env w hI
            have hwp := sb.2 d (thenTo ((chkC xb.2.pend).wp P (thenTo (fun env' w' => I (mask k env') w' ∧ m (mask k env') w' < m env w) Qc)) (thenTo (fun env' w' => I (mask k env') w' ∧ m (mask k env') w' < m env w) Qc))
              (Exit.then (fun a' w' => ∃ env', Inv V N [] env' w' a'.tmps ∧ a'.defers = d ∧ I env' w' ∧ m env' w' < m env w) Q) env w a inv hd ((seqC_wp (P := P) _ _ _ _ _).1 hb)
              (fun env w h => ((chkC_wp (P := P) _ _ _ _).1 h).1) (by
                intro e env' w' a' inv' hd' h
                cases e with
                | normal =>
                  have h2 := ((chkC_wp (P := P) _ _ _ _).1 h).2
                  exact ⟨mask k env', inv_mask inv' k, hd', h2.1, h2.2⟩
                | _ => exact hQ _ env' w' a' inv' hd' h)
            obtain ⟨e, a₁, w₁, hq1, harr⟩ := hwp bf (.inLoop b :: kk) cs
            cases e with
            | normal =>
              obtain ⟨env', inv', hd', hI', hlt⟩ := hq1
              obtain ⟨e₂, a₂, w₂, hq₂, harr₂⟩ := ihn (m env' w₁) (hn ▸ hlt) env' w₁ a₁ rfl hI' inv' hd'
              exact ⟨e₂, a₂, w₂, hq₂, .of_steps (Steps.trans harr (.one step_inLoop)) harr₂⟩
            | exit id => exact ⟨_, a₁, w₁, hq1, .pass (x := .inLoop b) rfl (fun _ _ => .inl (by simp)) harr⟩
            | goto l => exact ⟨_, a₁, w₁, hq1, .pass (x := .inLoop b) rfl (fun _ _ => .inl (by simp)) harr⟩
            | ret => exact ⟨_, a₁, w₁, hq1, .pass (x := .inLoop b) rfl (fun _ _ => .inl (by simp)) harr⟩
            | panic ch => exact ⟨_, a₁, w₁, hq1, .pass (x := .inLoop b) rfl (fun _ _ => .inl (by simp)) harr⟩
            | outgrown => exact ⟨_, a₁, w₁, hq1, .pass (x := .inLoop b) rfl (fun _ _ => .inl (by simp)) harr⟩
        obtain ⟨e, a', w', hq', harr⟩ := key _ (mask k env) w a rfl h0 (inv_mask inv k) hd
        exact ⟨e, a', w', hq', .of_steps (.one step_loop) harr⟩
  | exit id =>
    intro st x h
    simp [cCode] at h; subst h
    constructor
    · intro Q env w hw hq
      exact ((chkC_wp (P := P) _ _ _ _).1 ((seqC_wp (P := P) _ _ _ _ _).1 hw)).1
    · intro d Qc Q env w a inv hd hw hq hQ
      have w1 := ((chkC_wp (P := P) _ _ _ _).1 ((seqC_wp (P := P) _ _ _ _ _).1 hw)).2
      exact wp_exit (hQ (.exit id) env w a (inv_nil inv w) hd w1)
  | ret =>
    intro st x h
    simp [cCode] at h; subst h
    constructor
    · intro Q env w hw hq
      exact ((chkC_wp (P := P) _ _ _ _).1 ((seqC_wp (P := P) _ _ _ _ _).1 hw)).1
    · intro d Qc Q env w a inv hd hw hq hQ
      have w1 := ((chkC_wp (P := P) _ _ _ _).1 ((seqC_wp (P := P) _ _ _ _ _).1 hw)).2
      exact wp_ret (hQ .ret env w a (inv_nil inv w) hd w1)
  | _ => intro st x h; simp [cCode] at h

/-! The function. -/
def resV : List Value → Value
  | [v] => v
  | vs => .tuple vs.toArray

def env0 (V : List Nat) (args : List Value) : Env := V.map fun t => (args[t]?).getD undef

/-- A call returns a value of which F holds. -/
def Ret (P : Program) (f : FuncId) (args : List Value) (w : World) (F : Value → World → Prop) : Prop := CallTo P f args.toArray w F

def RetPost (rs : List Ex) (F : Value → World → Prop) : Exit → Env → World → Prop
  | .normal, env, w | .ret, env, w => Ok (evs env w rs) fun vs => F (resV vs) w
  | _, _, _ => False

theorem env0_len (V : List Nat) (args : List Value) : (env0 V args).length = V.length := by simp [env0]

theorem inv_start {args : List Value} {n : Nat} (hn : args.length ≤ n) (w : World) :
    Inv V n [] (env0 V args) w (args.toArray ++ Array.replicate (n - args.toArray.size) undef) where
  len := env0_len V args
  size := by simp; omega
  agree := fun t i v hi hv => by
    refine .inr ?_
    have ht := (posV_spec hi).2
    unfold env0 at hv
    rw [List.getElem?_map, ht] at hv
    simp only [Option.map_some, Option.some.injEq] at hv
    rw [← hv, Array.getD_eq_getD_getElem?, Array.getElem?_append]
    simp only [List.size_toArray]
    split
    · simp
    · rename_i hlt
      have h1 : args[t]? = none := by simp; omega
      rw [h1, Array.getElem?_replicate]
      split <;> rfl
  ents := fun en hen => by cases hen

theorem resEx_run {env : Env} {w : World} {tmps : Array Value} (inv : Inv V N [] env w tmps) : ∀ (l : List ResultVar) (rs : List Ex) (vs : List Value), resEx P V l = some rs → evs env w rs = some vs →
    (l.mapM fun r => (match r with
      | .tmp t => pure (tmps.getD t undef)
      | .cell a t => do loadVar t (← asAddr (tmps.getD a undef)) : Sem Value)).run P w = .ok vs w
  | [], rs, vs, h, hv => by
    simp [resEx] at h; subst h
    simp [evs] at hv; subst hv
    simp
  | .tmp t :: r, rs, vs, h, hv => by
    simp only [resEx] at h
    split at h
    · rename_i i es hi hes
      simp at h; subst h
      simp only [evs] at hv
      obtain ⟨u, hu, h1⟩ := bind_inv hv
      obtain ⟨us, hus, h2⟩ := bind_inv h1
      simp at h2; subst h2
      have := resEx_run inv r es us hes hus
      have ht : tmps.getD t undef = u := by
        have hl := lookT_spec inv (p := []) (t := t) (e := .var i) (v := u) (by intro y hy; cases hy) (by simp [lookT, findE, hi]) hu
        exact hl
      simp only [List.mapM_cons, Sem.run_bind, Sem.run_pure, Result.andThen_ok, this, ht]
    · cases h
  | .cell a T :: r, rs, vs, h, hv => by
    simp only [resEx] at h
    split at h
    · rename_i i sz es hi hsz hes
      simp at h; subst h
      simp only [evs] at hv
      obtain ⟨u, hu, h1⟩ := bind_inv hv
      obtain ⟨us, hus, h2⟩ := bind_inv h1
      simp at h2; subst h2
      have := resEx_run inv r es us hes hus
      simp only [Ex.ev] at hu
      obtain ⟨q, hq, hu⟩ := bind_inv hu
      have ht : tmps.getD a undef = q :=
        lookT_spec inv (p := []) (t := a) (e := .var i) (v := q) (by intro y hy; cases hy) (by simp [lookT, findE, hi]) (by simp only [Ex.ev]; exact hq)
      have hload := run_loadAt (P := P) hsz hu
      have hp : ∃ ad, q = .pointer (some ad) := by
        unfold ldv at hu; split at hu
        · exact ⟨_, rfl⟩
        · cases hu
      obtain ⟨ad, rfl⟩ := hp
      simp only [Instr.loadAt, Instr.sureAddr, Sem.run_bind, Sem.run_pure, Result.andThen_ok] at hload
      have hadr : (asAddr (.pointer (some ad))).run P w = .ok ad w := rfl
      simp only [List.mapM_cons, Sem.run_bind, ht, hadr, Sem.run_pure, Result.andThen_ok, hload, this]
    · cases h

theorem run_results {fn : Func} {env : Env} {w : World} {tmps : Array Value} (inv : Inv V N [] env w tmps) {rs : List Ex} {vs : List Value} (h : resEx P V fn.results.toList = some rs) (hv : evs env w rs = some vs) :
    (results fn tmps).run P w = .ok (resV vs) w := by
  have h1 := resEx_run inv _ rs vs h hv
  rw [← Array.toList_mapM] at h1
  simp only [Sem.run_map] at h1
  unfold results
  simp only [Sem.run_bind]
  generalize (fn.results.mapM fun r => (match r with
      | .tmp t => pure (tmps.getD t undef)
      | .cell a t => do loadVar t (← asAddr (tmps.getD a undef)) : Sem Value)).run P w = r at h1 ⊢
  cases r with
  | halt x w1 => simp at h1
  | ok a w1 =>
    simp at h1
    obtain ⟨h2, rfl⟩ := h1
    have ha : a = vs.toArray := by rw [← h2]
    subst ha
    simp only [Result.andThen_ok, Sem.run_pure]
    congr 1
    cases vs with
    | nil => rfl
    | cons v r => cases r with
      | nil => rfl
      | cons v' r' => simp [resV]

/-- THE BRIDGE: a call of a function returns what its command says. -/
theorem ret_of_cmd {f : FuncId} {fn : Func} {ks : List (List Nat)} {cmd : Cmd} {rs : List Ex} {args : List Value} {w : World} {F : Value → World → Prop}
    (hf : P.funcs[f]? = some fn) (hn : args.length ≤ fn.ntmps) (hc : compile P fn V ks = some (cmd, rs)) (hw : cmd.wp P (RetPost rs F) (env0 V args) w) : Ret P f args w F := by
  unfold compile at hc
  split at hc
  · rename_i c hb
    obtain ⟨x, hx, h1⟩ := bind_inv hc
    obtain ⟨rs', hrs, h2⟩ := map_inv h1
    simp only [Prod.mk.injEq] at h2
    obtain ⟨rfl, rfl⟩ := h2
    have sd := cCode_sound (P := P) c _ x hx
    unfold Ret CallTo
    refine calls_of_wp hf hb ?_
    refine sd.2 [] (thenTo ((chkC x.2.pend).wp P (RetPost rs' F)) (RetPost rs' F)) _ (env0 V args) w _ (inv_start hn w) rfl ((seqC_wp (P := P) _ _ _ _ _).1 hw) (fun env w h => ((chkC_wp (P := P) _ _ _ _).1 h).1) ?_
    intro e env w a inv hd h
    have fin : RetPost rs' F .normal env w → a.defers = [] ∧ ∃ v, (results fn a.tmps).run P w = .ok v w ∧ (∃ u, Ending.returned v = .returned u ∧ F u w) := by
      intro h
      obtain ⟨vs, hvs, hF⟩ := Ok_inv h
      exact ⟨hd, resV vs, run_results (inv_nil inv w) hrs hvs, _, rfl, hF⟩
    cases e with
    | normal => exact fin ((chkC_wp (P := P) _ _ _ _).1 h).2
    | ret => exact fin h
    | _ => exact (h : False).elim
  · cases hc
end
end Go.Eng
