/- Engine, part XQ: orders: what one of them tells holds of each. -/
import Derived.Test.YtkgpmjjleemdlaaGreatEngXK
set_option linter.unusedSimpArgs false
set_option linter.unusedVariables false
set_option linter.unusedSectionVars false
namespace Go.Eng
variable [Sy]
section
variable {P : Program} {G : Nat} {wE w w' : World} {ρ ρ' : Rho} {h h' : HT} {m m' s s' : Nat} {env env' : Env} {tab : XT} {R : CH}

theorem st_inj {x x' : Exit} {e e' : Env} {h h' : HT} {m m' s s' r r' : Nat} (he : XS.st x e h m s r = .st x' e' h' m' s' r') : x = x' ∧ e = e' ∧ h = h' ∧ m = m' ∧ s = s' ∧ r = r' := by
  injection he with a b c d e f
  exact ⟨a, b, c, d, e, f⟩
/-- It leaves where the reserved blocks begin. -/
def RK (W : List Nat) (f : SH) : Prop := ∀ env h m s r xx env2 h2 m2 s2 r2, f env h m s r = .st xx env2 h2 m2 s2 r2 → r2 = r ∧ xx = .normal ∧ ∀ i, i ∉ W → env2[i]? = env[i]?
theorem oW_keep {d : Option Nat} {env : Env} {v : Value} {i : Nat} (h : i ∉ oW d) : (setO d env v)[i]? = env[i]? := setO_keep fun j hj e => h (by subst hj; rw [e]; exact List.mem_cons_self)
theorem out_r {a : XA} {d : Option Nat} {st : List Ex} {r : Nat} {xx : Exit} {env2 : Env} {h2 : HT} {m2 s2 r2 : Nat} (hr : XA.out d st env h r a = .st xx env2 h2 m2 s2 r2) : r2 = r ∧ xx = .normal ∧ ∀ i, i ∉ oW d → env2[i]? = env[i]? := by
  obtain ⟨v, h1, m1, s1⟩ := a
  obtain ⟨g1, g2⟩ := bs_some (show (Bool.rec .bad (xset d v env h1 m1 s1 r) (stable st h h1 env) : XS) = _ from hr)
  rw [xset_eq] at g2
  obtain ⟨e, e2, _, _, _, f⟩ := st_inj g2
  exact ⟨f.symm, e.symm, fun i hi => by rw [← e2]; exact oW_keep hi⟩
theorem call_r {x : XR} {d : Option Nat} {st : List Ex} {r : Nat} {xx : Exit} {env2 : Env} {h2 : HT} {m2 s2 r2 : Nat} (hr : afterCall d st env h r x = .st xx env2 h2 m2 s2 r2) : r2 = r ∧ xx = .normal ∧ ∀ i, i ∉ oW d → env2[i]? = env[i]? := by
  obtain ⟨v, h1, m1, s1, g1, g2⟩ := xr_some (show (XR.rec .bad (fun v h' m s => Bool.rec .bad (xset d v env h' m s r) (stable st h h' env)) x : XS) = _ from hr)
  obtain ⟨g3, g4⟩ := bs_some g2
  rw [xset_eq] at g4
  obtain ⟨e, e2, _, _, _, f⟩ := st_inj g4
  exact ⟨f.symm, e.symm, fun i hi => by rw [← e2]; exact oW_keep hi⟩
theorem hWrite_st' {b : Nat} {f : List Value → TypeId → XS} {xx : Exit} {env2 : Env} {h2 : HT} {m2 s2 r2 : Nat} (h1 : hWrite h b f .bad = .st xx env2 h2 m2 s2 r2) : ∃ c T, f c T = .st xx env2 h2 m2 s2 r2 := by
  unfold hWrite hCells at h1
  split at h1
  · rename_i c T t hb
    cases t with
    | zero => cases h1
    | succ t => exact ⟨c, T, h1⟩
  · cases h1
theorem atom_r (x : XC) (hx : atomX x = true) : RK (wrX x) (xcmd tab R x) := by
  intro env h m s r xx env2 h2 m2 s2 r2 hr
  cases x <;> try (cases hx; done)
  · obtain ⟨e, e2, _, _, _, f⟩ := st_inj hr; exact ⟨f.symm, e.symm, fun i _ => by rw [e2]⟩
  · obtain ⟨_, _, g⟩ := os_some hr
    obtain ⟨e, e2, _, _, _, f⟩ := st_inj g; exact ⟨f.symm, e.symm, fun i _ => by rw [e2]⟩
  · rename_i i e0
    obtain ⟨v, g1, g2⟩ := os_some (show (Option.rec .bad (fun v => setK env i v fun env => XS.st .normal env h m s r) (xe h env e0) : XS) = _ from hr)
    rw [setK_eq] at g2
    obtain ⟨e, e2, _, _, _, f⟩ := st_inj g2; exact ⟨f.symm, e.symm, fun j hj => by rw [← e2]; exact List.getElem?_set_ne (fun e => hj (by rw [e]; exact List.mem_cons_self))⟩
  · rename_i l
    have g2 : xclr l env (fun env => XS.st .normal env h m s r) = _ := hr
    rw [xclr_eq] at g2
    obtain ⟨e, e2, _, _, _, f⟩ := st_inj g2; exact ⟨f.symm, e.symm, fun j hj => by rw [← e2]; exact clr_keep _ _ hj⟩
  · rename_i d f a st
    obtain ⟨vs, g1, g2⟩ := os_some (show (Option.rec .bad (fun vs => Option.rec .bad (fun F => afterCall d st env h r (R F vs h m s)) (tab.get f)) (xes h env a) : XS) = _ from hr)
    obtain ⟨F, g3, g4⟩ := os_some g2
    exact call_r g4
  · rename_i d f a st
    obtain ⟨fv, g1, g2⟩ := os_some (show (Option.rec .bad (fun fv => vFun fv (fun g xs ys => Option.rec .bad (fun vs => Option.rec .bad (fun F => appK vs ys fun vs => appK xs vs fun vs => afterCall d st env h r (R F vs h m s)) (tab.get g)) (xes h env a)) .bad) (xe h env f) : XS) = _ from hr)
    unfold vFun at g2
    split at g2
    · obtain ⟨vs, g5, g6⟩ := os_some g2
      obtain ⟨F, g7, g8⟩ := os_some g6
      rw [appK_eq, appK_eq] at g8
      exact call_r g8
    · cases g2
  · obtain ⟨_, _, g⟩ := os_some hr; obtain ⟨_, _, g⟩ := os_some g; obtain ⟨_, _, g⟩ := os_some g; exact out_r g
  · obtain ⟨_, _, g⟩ := os_some hr; obtain ⟨_, _, g⟩ := os_some g; exact out_r g
  · obtain ⟨_, _, g⟩ := os_some hr; obtain ⟨_, _, g⟩ := os_some g; obtain ⟨_, _, g⟩ := os_some g; exact out_r g
  · obtain ⟨_, _, g⟩ := os_some hr; exact out_r g
  · obtain ⟨_, _, g⟩ := os_some hr; obtain ⟨_, _, g⟩ := os_some g; obtain ⟨_, _, g⟩ := os_some g; exact out_r g
  · obtain ⟨_, _, g⟩ := os_some hr; obtain ⟨_, _, g⟩ := os_some g; obtain ⟨_, _, g⟩ := os_some g; obtain ⟨_, _, g⟩ := os_some g; exact out_r g
  · obtain ⟨_, _, g⟩ := os_some hr; obtain ⟨_, _, g⟩ := os_some g; obtain ⟨_, _, g⟩ := os_some g; obtain ⟨_, _, g⟩ := os_some g; exact out_r g
  · obtain ⟨u, _, g⟩ := os_some hr
    obtain ⟨v, _, g⟩ := os_some g
    unfold xstore at g
    unfold vPtr at g
    split at g
    · obtain ⟨c, T, g⟩ := hWrite_st' g
      obtain ⟨_, g⟩ := bs_some g
      obtain ⟨_, _, g⟩ := os_some g
      rw [fN_eq] at g
      obtain ⟨_, g⟩ := bs_some g
      obtain ⟨e, e2, _, _, _, f⟩ := st_inj g; exact ⟨f.symm, e.symm, fun i _ => by rw [e2]⟩
    · cases g
  · rename_i d T e0
    obtain ⟨v, _, g⟩ := os_some (show (Option.rec .bad (fun v => HT.setK h m (some (.cells (xcells v) T s)) fun h' => fN (Nat.succ m) fun m' => fN (Nat.succ s) fun s' => xset d (.pointer (some ⟨m, 0, none⟩)) env h' m' s' r) (xe h env e0) : XS) = _ from hr)
    rw [HT.setK_eq, fN_eq, fN_eq, xset_eq] at g
    obtain ⟨e, e2, _, _, _, f⟩ := st_inj g
    exact ⟨f.symm, e.symm, fun i hi => by rw [← e2]; exact oW_keep hi⟩
  · rename_i d T n e0
    obtain ⟨v, _, g⟩ := os_some (show (Option.rec .bad (fun v => Bool.rec .bad (HT.setK h m (some (.cells (xcells v) T s)) fun h' => fN (Nat.succ m) fun m' => fN (Nat.succ s) fun s' => xset d (.slice (some ⟨m, 0, none⟩) n n) env h' m' s' r) (Nat.blt n capU)) (xe h env e0) : XS) = _ from hr)
    obtain ⟨_, g⟩ := bs_some g
    rw [HT.setK_eq, fN_eq, fN_eq, xset_eq] at g
    obtain ⟨e, e2, _, _, _, f⟩ := st_inj g
    exact ⟨f.symm, e.symm, fun i hi => by rw [← e2]; exact oW_keep hi⟩

theorem takeP_some {j : Nat} : ∀ {l l' : List Pd}, takeP j l = some l' → ∃ a b p0, l = a ++ p0 :: b ∧ p0.j = j ∧ l' = a ++ b
  | [], l', h => by cases h
  | p :: r, l', h => by
    unfold takeP at h
    split at h
    · rename_i e
      obtain rfl := Option.some.inj h
      exact ⟨[], r, p, rfl, of_decide_eq_true e, rfl⟩
    · split at h
      · rename_i r' hr
        obtain rfl := Option.some.inj h
        obtain ⟨a, b, p0, h1, h2, h3⟩ := takeP_some hr
        exact ⟨p :: a, b, p0, by rw [h1]; rfl, h2, by rw [h3]; rfl⟩
      · cases h
theorem findAl_some {a : Al} : ∀ {l : List LA} {p : Pd}, findAl a l = some p → p ∈ als l ∧ p.d = a.d ∧ p.T = a.T ∧ p.k = a.k ∧ p.e = a.e
  | [], p, h => by cases h
  | .al q :: r, p, h => by
    unfold findAl at h
    split at h
    · rename_i e1
      obtain rfl := Option.some.inj h
      simp only [Bool.and_eq_true, decide_eq_true_eq] at e1
      exact ⟨List.mem_cons_self, e1.1, e1.2.1, beqK_eq e1.2.2.1, beqE_eq _ _ e1.2.2.2⟩
    · obtain ⟨h1, h2⟩ := findAl_some h
      exact ⟨List.mem_cons_of_mem _ h1, h2⟩
  | .at c x :: r, p, h => by
    unfold findAl at h
    obtain ⟨h1, h2⟩ := findAl_some h
    exact ⟨h1, h2⟩
def natOf : Option Value → Nat
  | some (.int _ n) => n.toNat
  | _ => 0
/-- What an allocation tells: of the block's number. -/
def Pd.pv (p : Pd) (env : Env) (w : World) (q : Nat) : Value := match p.k with
  | .new => .pointer (some ⟨q, 0, none⟩)
  | .row n => .slice (some ⟨q, 0, none⟩) n n
  | .mk _ l c => .slice (some ⟨q, 0, none⟩) (natOf (l.ev env w)) (natOf (c.ev env w))
/-- What it holds. -/
def Pd.cont (p : Pd) (env : Env) (w : World) : Option (Array Value) := match p.k with
  | .mk _ _ c => some (List.replicate (natOf (c.ev env w)) p.z).flatten.toArray
  | _ => (p.e.ev env w).map (·.cells)
/-- The same, of the interpreter. -/
def MV (h : HT) (env : Env) (p : Pd) (cs : List Value) (pvm : Nat → Value) : Prop := match p.k with
  | .new => (∃ v, xe h env p.e = some v ∧ cs = v.cells.toList) ∧ pvm = fun q => .pointer (some ⟨q, 0, none⟩)
  | .row n => (∃ v, xe h env p.e = some v ∧ cs = v.cells.toList) ∧ n < capU ∧ pvm = fun q => .slice (some ⟨q, 0, none⟩) n n
  | .mk _ l c => ∃ kl kc nl nc, xe h env l = some (.int kl (.ofNat nl)) ∧ xe h env c = some (.int kc (.ofNat nc)) ∧ nl ≤ nc ∧ nc ≤ 100000 ∧ cs = (List.replicate nc p.z).flatten ∧ pvm = fun q => .slice (some ⟨q, 0, none⟩) nl nc
theorem or_some {α : Type} {o : Option α} {y : XS} {xx : Exit} {env2 : Env} {h2 : HT} {m2 s2 r2 : Nat} (h : (Option.rec y (fun _ => .bad) o : XS) = .st xx env2 h2 m2 s2 r2) : o = none ∧ y = .st xx env2 h2 m2 s2 r2 := by
  cases o with
  | none => exact ⟨rfl, h⟩
  | some a => cases h
theorem oo_some {α : Type} {o : Option α} {y : Option XA} {a : XA} (h : (Option.rec y (fun _ => none) o : Option XA) = some a) : y = some a := by
  cases o with
  | none => exact h
  | some _ => cases h
theorem xmkR_some {b T : Nat} {z : List Value} {l c : Value} {a : XA} (hr : xmkR h m s b T z l c = some a) : ∃ kl kc nl nc, l = .int kl (.ofNat nl) ∧ c = .int kc (.ofNat nc) ∧ nl ≤ nc ∧ nc ≤ 100000 ∧ a = ⟨.slice (some ⟨b, 0, none⟩) nl nc, h.set b (some (.cells (List.replicate nc z).flatten T s)), m, s + 1⟩ := by
  have hr' : vNat l (fun l => vNat c (fun c => Bool.rec none (Bool.rec none (repK z c fun cs => Option.rec (HT.setK h b (some (.cells cs T s)) fun h' => fN (Nat.succ s) fun s' => some ⟨.slice (some ⟨b, 0, none⟩) l c, h', m, s'⟩) (fun _ => none) (h.get b)) (Nat.ble c 100000)) (Nat.ble l c)) none) none = some a := hr
  cases l with
  | int kl il =>
    cases il with
    | negSucc _ => cases hr'
    | ofNat nl =>
      cases c with
      | int kc ic =>
        cases ic with
        | negSucc _ => cases hr'
        | ofNat nc =>
          obtain ⟨h1, h2⟩ := brec_some (show (Bool.rec none (Bool.rec none (repK z nc fun cs => Option.rec (HT.setK h b (some (.cells cs T s)) fun h' => fN (Nat.succ s) fun s' => some ⟨.slice (some ⟨b, 0, none⟩) nl nc, h', m, s'⟩) (fun _ => none) (h.get b)) (Nat.ble nc 100000)) (Nat.ble nl nc) : Option XA) = some a from hr')
          obtain ⟨h3, h4⟩ := brec_some h2
          rw [repK_eq] at h4
          have h5 := oo_some h4
          rw [HT.setK_eq, fN_eq] at h5
          exact ⟨kl, kc, nl, nc, rfl, rfl, Nat.le_of_ble_eq_true h1, Nat.le_of_ble_eq_true h3, (Option.some.inj h5).symm⟩
      | _ => cases hr'
  | _ => cases hr'
theorem al_run {p : Pd} {r : Nat} {xx : Exit} {env2 : Env} {h2 : HT} {m2 s2 r2 : Nat} (hr : xcmd tab R p.x env h m s r = .st xx env2 h2 m2 s2 r2) :
    ∃ cs pvm, MV h env p cs pvm ∧ xx = .normal ∧ env2 = env.set p.d (pvm (r + p.j)) ∧ h2 = h.set (r + p.j) (some (.cells cs p.T s)) ∧ m = m2 ∧ s2 = s + 1 ∧ r2 = r := by
  obtain ⟨j, d, T, k, e, z⟩ := p
  cases k with
  | new =>
    obtain ⟨v, g1, g2⟩ := os_some (show (Option.rec .bad (fun v => fN (Nat.add r j) fun b => Option.rec (HT.setK h b (some (.cells (xcells v) T s)) fun h' => fN (Nat.succ s) fun s' => xset (some d) (.pointer (some ⟨b, 0, none⟩)) env h' m s' r) (fun _ => .bad) (h.get b)) (xe h env e) : XS) = _ from hr)
    rw [fN_eq] at g2
    obtain ⟨_, g3⟩ := or_some g2
    rw [HT.setK_eq, fN_eq, xset_eq, xcells_eq] at g3
    obtain ⟨a1, a2, a3, a4, a5, a6⟩ := st_inj g3
    exact ⟨_, _, ⟨⟨v, g1, rfl⟩, rfl⟩, a1.symm, a2.symm, a3.symm, a4, a5.symm, a6.symm⟩
  | row n =>
    obtain ⟨v, g1, g2⟩ := os_some (show (Option.rec .bad (fun v => fN (Nat.add r j) fun b => Bool.rec .bad (Option.rec (HT.setK h b (some (.cells (xcells v) T s)) fun h' => fN (Nat.succ s) fun s' => xset (some d) (.slice (some ⟨b, 0, none⟩) n n) env h' m s' r) (fun _ => .bad) (h.get b)) (Nat.blt n capU)) (xe h env e) : XS) = _ from hr)
    rw [fN_eq] at g2
    obtain ⟨g0, g2⟩ := bs_some g2
    obtain ⟨_, g3⟩ := or_some g2
    rw [HT.setK_eq, fN_eq, xset_eq, xcells_eq] at g3
    obtain ⟨a1, a2, a3, a4, a5, a6⟩ := st_inj g3
    exact ⟨_, _, ⟨⟨v, g1, rfl⟩, blt_true g0, rfl⟩, a1.symm, a2.symm, a3.symm, a4, a5.symm, a6.symm⟩
  | mk t l c =>
    obtain ⟨u, g1, g2⟩ := os_some (show (Option.rec .bad (fun u => Option.rec .bad (fun v => fN (Nat.add r j) fun b => Option.rec .bad (XA.out (some d) [] env h r) (xmkR h m s b T z u v)) (xe h env c)) (xe h env l) : XS) = _ from hr)
    obtain ⟨v, g3, g4⟩ := os_some g2
    rw [fN_eq] at g4
    obtain ⟨a, g5, g6⟩ := os_some g4
    obtain ⟨kl, kc, nl, nc, rfl, rfl, h1, h2, rfl⟩ := xmkR_some g5
    have g7 : xset (some d) (.slice (some ⟨r + j, 0, none⟩) nl nc) env (h.set (r + j) (some (.cells (List.replicate nc z).flatten T s))) m (s + 1) r = _ := g6
    rw [xset_eq] at g7
    obtain ⟨a1, a2, a3, a4, a5, a6⟩ := st_inj g7
    exact ⟨_, _, ⟨kl, kc, nl, nc, g1, g3, h1, h2, rfl, rfl⟩, a1.symm, a2.symm, a3.symm, a4, a5.symm, a6.symm⟩
theorem EnvQ.setL (he : EnvQ ρ env env') {d : Nat} {u : Value} (hv : ∀ v, env'[d]? = some v → VQ ρ u v) : EnvQ ρ (env.set d u) env' := by
  refine ⟨by simp [he.1], fun i a b ha hb => ?_⟩
  rw [List.getElem?_set] at ha
  by_cases hi : d = i
  · rw [if_pos hi] at ha
    split at ha
    · obtain rfl := Option.some.inj ha
      subst hi
      exact .inr (hv b hb)
    · cases ha
  · rw [if_neg hi] at ha
    exact he.2 i a b ha hb
theorem EnvQ.setR (he : EnvQ ρ env env') {d : Nat} {v : Value} (hu : ∀ u, env[d]? = some u → isUndef u = true) : EnvQ ρ env (env'.set d v) := by
  refine ⟨by simp [he.1], fun i a b ha hb => ?_⟩
  rw [List.getElem?_set] at hb
  by_cases hi : d = i
  · subst hi
    exact .inl (hu a ha)
  · rw [if_neg hi] at hb
    exact he.2 i a b ha hb
end
end Go.Eng
