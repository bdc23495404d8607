/- Engine, part XR: orders, their soundness. -/
import Derived.Test.YtmpgfgemnhbkhaaGreatDoorEngXQ
set_option linter.unusedSimpArgs false
set_option linter.unusedVariables false
set_option linter.unusedSectionVars false
namespace Go.Eng
variable [Sy]
/-- Where an order began. -/
structure Org where
  G : Nat
  wE : World
  r : Nat
  W : List Nat
  env : Env
  ρ : Rho
  h : HT
  m : Nat
  s : Nat
  w : World
/-- An allocation that the world has made and the interpreter has not. -/
structure PdOk (o : Org) (ρ : Rho) (h : HT) (w : World) (env' : Env) (p : Pd) (q : Nat) : Prop where
  slot : ∀ v, env'[p.d]? = some v → v = pv p q
  val : ∀ v, p.e.ev o.env o.w = some v → w.heap[q]? = some (.cells v.cells p.T (0, 0))
  new : o.w.heap.size ≤ q
  lt : q < w.heap.size
  off : ∀ b x, h.get b = some x → ρ.σ b ≠ q
structure OInv (P : Program) (tab : XT) (R : CH) (o : Org) (f : Nat → Nat) (pend : List Pd) (l : List LA) (ρ : Rho) (h : HT) (m s : Nat) (w : World) (env env' : Env) : Prop where
  rm : o.r ≤ o.m
  hs0 : HS o.G o.wE o.ρ o.h o.m o.s o.w
  hs : HS o.G o.wE ρ h m s w
  he : EnvQ ρ env env'
  st : Step o.r o.ρ ρ o.h h o.m m o.s s o.w w
  ok : ∀ p ∈ pend, PdOk o ρ h w env' p (f p.d)
  pw : pend.Pairwise fun p q => p.d ≠ q.d
  ne : ∀ p ∈ pend, ∀ q ∈ pend, f p.d = f q.d → p.d = q.d
  mem : ∀ p ∈ pend, p ∈ als l
  js : (als l).Pairwise fun p q => p.j ≠ q.j ∧ p.d ≠ q.d
  free : ∀ p ∈ als l, ¬ ρ.D (o.r + p.j) ∧ o.r + p.j < m
  keep : ∀ i, i ∉ o.W → env'[i]? = o.env[i]?
  kc : ∀ p ∈ als l, p.e.kc o.G = true ∧ p.e.apart o.W = true ∧ ∃ v, p.e.ev o.env o.w = some v
  atoms : ∀ c x, LA.at c x ∈ l → Snd P o.G o.wE tab R c x ∧ atomX x = true ∧ (∀ i ∈ wr c, i ∈ o.W) ∧ ∀ p ∈ als l, p.d ∉ wrX x
  dW : ∀ p ∈ als l, p.d ∈ o.W
  und : ∀ p ∈ als l, ∀ u, env[p.d]? = some u → isUndef u = true
section
variable {P : Program} {tab : XT} {R : CH} {o : Org} {f : Nat → Nat} {pend pend' : List Pd} {l l' : List LA} {ρ : Rho} {h : HT} {m s : Nat} {w : World} {env env' : Env} {xx : Exit} {env2 : Env} {h2 : HT} {m2 s2 r2 : Nat}
theorem vq_pv {ρ : Rho} {p : Pd} {k q : Nat} (hD : ρ.D k) (hσ : ρ.σ k = q) (hn : ∀ n, p.row = some n → n < capU) : VQ ρ (pv p k) (pv p q) := by
  subst hσ
  unfold pv
  cases hr : p.row with
  | none => exact .ptr k 0 none hD
  | some n => exact .slice k 0 none n n hD (hn n hr)
theorem OInv.catch1 {p : Pd} (iv : OInv P tab R o f pend (.al p :: l) ρ h m s w env env') (hp : takeP p.j pend = some pend') (hr : xcmd tab R (chain (.al p :: l)) env h m s o.r = .st xx env2 h2 m2 s2 r2) :
    ∃ ρ1 env1 h1 s1, OInv P tab R o f pend' l ρ1 h1 m s1 w env1 env' ∧ xcmd tab R (chain l) env1 h1 m s1 o.r = .st xx env2 h2 m2 s2 r2 := by
  obtain ⟨a, b, p0, e1, e2, e3⟩ := takeP_some hp
  have hjs := List.pairwise_cons.1 (show (p :: als l).Pairwise _ from iv.js)
  have hmem0 : p0 ∈ pend := by rw [e1]; simp
  obtain rfl : p0 = p := by
    rcases List.mem_cons.1 (show p0 ∈ p :: als l from iv.mem p0 hmem0) with h | h
    · exact h
    · exact absurd e2.symm (hjs.1 p0 h).1
  obtain ⟨x1, env1, h1, m1, s1, r1, g1, g2⟩ := xs_some (show (XS.rec .bad (hNext (xcmd tab R (chain l))) (xcmd tab R p0.x env h m s o.r) : XS) = _ from hr)
  obtain ⟨v, k1, rfl, rfl, rfl, rfl, rfl, rfl, k2⟩ := al_run g1
  have hmem : p0 ∈ als (.al p0 :: l) := List.mem_cons_self
  obtain ⟨c1, c2, v0, c3⟩ := iv.kc p0 hmem
  obtain ⟨v', q1, q2⟩ := xe_vq iv.hs iv.he p0.e c1 k1
  have hev : p0.e.ev env' w = p0.e.ev o.env o.w := Ex.apart_ev iv.keep p0.e c2
  rw [hev, c3] at q1
  obtain rfl := Option.some.inj q1
  have ok := iv.ok p0 hmem0
  obtain ⟨f1, f2⟩ := iv.free p0 hmem
  have hb := ok.val v0 c3
  have hle := Rho.le_bind f1 (f p0.d) v0.cells.size
  have hwE : o.wE.heap.size ≤ f p0.d := Nat.le_trans iv.hs0.kept.size ok.new
  have hs1 := iv.hs.bind (T := p0.T) f1 f2 (Nat.le_refl m) hwE ok.off hb (lq_vl (vq_cells q2))
  have st1 := Step.bind iv.hs0 iv.st iv.hs f1 (Nat.le_add_right _ _) (Nat.le_refl m) v0.cells.size (.cells v.cells.toList p0.T s) (.inl ok.new)
  have hpm : ∀ q ∈ pend', q ∈ pend ∧ q.d ≠ p0.d := by
    intro q hq
    rw [e3] at hq
    have hpw := iv.pw
    rw [e1] at hpw
    have h1 := List.pairwise_append.1 hpw
    rcases List.mem_append.1 hq with hq | hq
    · exact ⟨by rw [e1]; exact List.mem_append_left _ hq, h1.2.2 q hq p0 List.mem_cons_self⟩
    · exact ⟨by rw [e1]; exact List.mem_append_right _ (List.mem_cons_of_mem _ hq), fun e => (List.pairwise_cons.1 h1.2.1).1 q hq e.symm⟩
  refine ⟨ρ.bind (o.r + p0.j) (f p0.d) v0.cells.size, _, _, s + 1, ⟨iv.rm, iv.hs0, hs1, ?_, st1, ?_, ?_, ?_, ?_, hjs.2, ?_, iv.keep, ?_, ?_, ?_, ?_⟩, g2⟩
  · refine (iv.he.mono hle).setL fun v hv => ?_
    rw [ok.slot v hv]
    exact vq_pv (Rho.bind_D _ _ _ _) (Rho.bind_σ _ _ _ _) k2
  · intro q hq
    obtain ⟨hq1, hq2⟩ := hpm q hq
    have okq := iv.ok q hq1
    refine ⟨okq.slot, okq.val, okq.new, okq.lt, fun b x hb => ?_⟩
    by_cases e : b = o.r + p0.j
    · rw [e, Rho.bind_σ]
      intro e4
      exact hq2 (iv.ne p0 hmem0 q hq1 e4).symm
    · rw [HT.get_other _ _ e] at hb
      rw [hle.σ b (iv.hs.live b x hb).1]
      exact okq.off b x hb
  · rw [e3]
    have hpw := iv.pw
    rw [e1] at hpw
    have h1 := List.pairwise_append.1 hpw
    exact List.pairwise_append.2 ⟨h1.1, (List.pairwise_cons.1 h1.2.1).2, fun x hx y hy => h1.2.2 x hx y (List.mem_cons_of_mem _ hy)⟩
  · exact fun q hq q' hq' e => iv.ne q (hpm q hq).1 q' (hpm q' hq').1 e
  · intro q hq
    rcases List.mem_cons.1 (show q ∈ p0 :: als l from iv.mem q (hpm q hq).1) with e | e
    · exact absurd (by rw [e]) (hpm q hq).2
    · exact e
  · intro q hq
    obtain ⟨d1, d2⟩ := iv.free q (List.mem_cons_of_mem _ hq)
    refine ⟨fun hD => ?_, d2⟩
    rcases hD with hD | hD
    · exact d1 hD
    · exact (hjs.1 q hq).1 (by omega)
  · exact fun q hq => iv.kc q (List.mem_cons_of_mem _ hq)
  · intro c x hcx
    obtain ⟨t1, t2, t3, t4⟩ := iv.atoms c x (List.mem_cons_of_mem _ hcx)
    exact ⟨t1, t2, t3, fun q hq => t4 q (List.mem_cons_of_mem _ hq)⟩
  · exact fun q hq => iv.dW q (List.mem_cons_of_mem _ hq)
  · intro q hq u hu
    rw [List.getElem?_set_ne (hjs.1 q hq).2] at hu
    exact iv.und q (List.mem_cons_of_mem _ hq) u hu
theorem OInv.catch : ∀ {l : List LA} {pend : List Pd} {ρ : Rho} {h : HT} {s : Nat} {env : Env} {l' : List LA} {pend' : List Pd}, OInv P tab R o f pend l ρ h m s w env env' → catchUp l pend = (l', pend') → xcmd tab R (chain l) env h m s o.r = .st xx env2 h2 m2 s2 r2 →
    ∃ ρ1 env1 h1 s1, OInv P tab R o f pend' l' ρ1 h1 m s1 w env1 env' ∧ xcmd tab R (chain l') env1 h1 m s1 o.r = .st xx env2 h2 m2 s2 r2
  | [], pend, ρ, h, s, env, l', pend', iv, hc, hr => by
    simp only [catchUp, Prod.mk.injEq] at hc
    obtain ⟨rfl, rfl⟩ := hc
    exact ⟨ρ, env, h, s, iv, hr⟩
  | .at c x :: l, pend, ρ, h, s, env, l', pend', iv, hc, hr => by
    simp only [catchUp, Prod.mk.injEq] at hc
    obtain ⟨rfl, rfl⟩ := hc
    exact ⟨ρ, env, h, s, iv, hr⟩
  | .al p :: l, pend, ρ, h, s, env, l', pend', iv, hc, hr => by
    unfold catchUp at hc
    split at hc
    · rename_i pend1 hp
      obtain ⟨ρ1, env1, h1, s1, iv1, hr1⟩ := iv.catch1 hp hr
      exact OInv.catch iv1 hc hr1
    · simp only [Prod.mk.injEq] at hc
      obtain ⟨rfl, rfl⟩ := hc
      exact ⟨ρ, env, h, s, iv, hr⟩
def Post0 (o : Org) (xx : Exit) (env2 : Env) (h2 : HT) (m2 s2 : Nat) : Exit → Env → World → Prop := fun x e u => x = xx ∧ ∃ ρ2, HS o.G o.wE ρ2 h2 m2 s2 u ∧ EnvQ ρ2 env2 e ∧ Step o.r o.ρ ρ2 o.h h2 o.m m2 o.s s2 o.w u
/-- Behind one command of an order. -/
def Bhd (P : Program) (tab : XT) (R : CH) (o : Org) (pend : List Pd) (l : List LA) (xx : Exit) (env2 : Env) (h2 : HT) (m2 s2 r2 : Nat) : Exit → Env → World → Prop := fun x e u => x = .normal ∧ ∃ f ρ1 h1 m1 s1 env1, OInv P tab R o f pend l ρ1 h1 m1 s1 u env1 e ∧ xcmd tab R (chain l) env1 h1 m1 s1 o.r = .st xx env2 h2 m2 s2 r2
theorem wr_le {c c' : Cmd} (h : atomLe c c' = true) : wr c = wr c' := by
  cases c <;> cases c' <;> try (cases h; done)
  all_goals try rfl
  all_goals simp only [atomLe, Bool.and_eq_true, decide_eq_true_eq] at h
  · rw [show wr (.set _ _) = _ from rfl, h.1]; rfl
  · rw [h]
  · rename_i d f a st d' f' a' st'; obtain rfl : d = d' := h.1; cases d <;> rfl
  · rename_i d f a st d' f' a' st'; obtain rfl : d = d' := h.1; cases d <;> rfl
  · rename_i d b ts ty a st d' b' ts' ty' a' st'; obtain rfl : d = d' := h.1; cases d <;> rfl
  · rename_i d g a st d' g' a' st'; obtain rfl : d = d' := h.1; cases d <;> rfl
/-- The world allocates, the interpreter not yet. -/
theorem OInv.alloc (iv : OInv P tab R o f pend l ρ h m s w env env') {p : Pd} (hp : p ∈ als l) (hd : ∀ q ∈ pend, q.d ≠ p.d) (hr : xcmd tab R (chain l) env h m s o.r = .st xx env2 h2 m2 s2 r2) :
    ∃ v, p.e.ev env' w = some v ∧ Bhd P tab R o (p :: pend) l xx env2 h2 m2 s2 r2 .normal (env'.set p.d (pv p w.heap.size)) (w.alloc (.cells v.cells p.T)) := by
  obtain ⟨c1, c2, v0, c3⟩ := iv.kc p hp
  have hev : p.e.ev env' w = p.e.ev o.env o.w := Ex.apart_ev iv.keep p.e c2
  refine ⟨v0, hev.trans c3, rfl, fun x => if x = p.d then w.heap.size else f x, ρ, h, m, s, env, ?_, hr⟩
  have hoff := Off.alloc w (.cells v0.cells p.T) (fun _ => False)
  have hold : ∀ q ∈ pend, (if q.d = p.d then w.heap.size else f q.d) = f q.d := fun q hq => if_neg (hd q hq)
  refine ⟨iv.rm, iv.hs0, iv.hs.off hoff (fun _ _ _ h => h) (fun _ _ h => h), iv.he.setR (iv.und p hp), Step.off iv.hs0 iv.hs iv.st hoff (fun _ _ _ h => h) (fun _ h => h.elim), ?_, List.pairwise_cons.2 ⟨fun q hq e => hd q hq e.symm, iv.pw⟩, ?_, ?_, iv.js, iv.free, ?_, iv.kc, iv.atoms, iv.dW, iv.und⟩
  · intro q hq
    rcases List.mem_cons.1 hq with rfl | hq
    · rw [if_pos rfl]
      refine ⟨fun v hv => ?_, fun v hv => ?_, iv.st.size, by rw [alloc_size]; omega, fun b x hb e => by have := iv.hs.blk hb; omega⟩
      · rw [List.getElem?_set] at hv
        rw [if_pos rfl] at hv
        split at hv
        · exact (Option.some.inj hv).symm
        · cases hv
      · rw [c3] at hv
        obtain rfl := Option.some.inj hv
        exact hp_new _ _
    · rw [hold q hq]
      have ok := iv.ok q hq
      refine ⟨fun v hv => ok.slot v (by rw [List.getElem?_set_ne (fun e => hd q hq e.symm)] at hv; exact hv), fun v hv => ?_, ok.new, Nat.lt_of_lt_of_le ok.lt hoff.size, ok.off⟩
      rw [hoff.block _ ok.lt (fun h => h)]
      exact ok.val v hv
  · have hlt : ∀ q ∈ pend, f q.d < w.heap.size := fun q hq => (iv.ok q hq).lt
    intro q hq q' hq' e
    rcases List.mem_cons.1 hq with e1 | hq
    · rcases List.mem_cons.1 hq' with e2 | hq'
      · rw [e1, e2]
      · rw [e1] at e
        simp only [if_true, hold q' hq'] at e
        have := hlt q' hq'
        omega
    · rcases List.mem_cons.1 hq' with e2 | hq'
      · rw [e2] at e
        simp only [if_true, hold q hq] at e
        have := hlt q hq
        omega
      · simp only [hold q hq, hold q' hq'] at e
        exact iv.ne q hq q' hq' e
  · intro q hq
    rcases List.mem_cons.1 hq with rfl | hq
    · exact hp
    · exact iv.mem q hq
  · intro i hi
    rw [List.getElem?_set_ne (fun e => hi (by rw [← e]; exact iv.dW p hp))]
    exact iv.keep i hi
/-- A command of the order, which both carry out. -/
theorem OInv.at {c0 : Cmd} {x0 : XC} (iv : OInv P tab R o f pend (.at c0 x0 :: l) ρ h m s w env env') {c : Cmd} (hle : atomLe c c0 = true) (hd : ∀ q ∈ pend, q.d ∉ wr c0) (hr : xcmd tab R (chain (.at c0 x0 :: l)) env h m s o.r = .st xx env2 h2 m2 s2 r2) :
    c.wp P (Bhd P tab R o pend l xx env2 h2 m2 s2 r2) env' w := by
  obtain ⟨x1, env1, h1, m1, s1, r1, g1, g2⟩ := xs_some (show (XS.rec .bad (hNext (xcmd tab R (chain l))) (xcmd tab R x0 env h m s o.r) : XS) = _ from hr)
  obtain ⟨a1, a2, a3, a4⟩ := iv.atoms c0 x0 List.mem_cons_self
  obtain ⟨b1, b2, b3⟩ := atom_r (R := R) (tab := tab) x0 a2 env h m s o.r x1 env1 h1 m1 s1 r1 g1
  subst b1; subst b2
  have hw := atom_keep hle (atomLe_wp hle (a1 env h m s o.r .normal env1 h1 m1 s1 o.r g1 ρ w env' iv.hs iv.he))
  rw [wr_le hle] at hw
  refine Cmd.wp_mono c (fun x e u hp => ?_) hw
  obtain ⟨⟨e1, ρ2, k1, k2, k3⟩, k4⟩ := hp
  refine ⟨e1, f, ρ2, h1, m1, s1, env1, ?_, g2⟩
  have hals : ∀ p ∈ als l, p ∈ als (.at c0 x0 :: l) := fun p hp => hp
  refine ⟨iv.rm, iv.hs0, k1, k2, Step.trans iv.hs0 iv.st (k3.weak ?_), ?_, iv.pw, iv.ne, iv.mem, iv.js, ?_, ?_, iv.kc, ?_, iv.dW, ?_⟩
  · exact Nat.le_trans iv.rm iv.st.mle
  · intro q hq
    have ok := iv.ok q hq
    refine ⟨fun v hv => ok.slot v (by rw [k4 _ (hd q hq)] at hv; exact hv), fun v hv => ?_, ok.new, Nat.lt_of_lt_of_le ok.lt k3.size, fun b y hb e => ?_⟩
    · rw [k3.out _ ok.lt ok.off]
      exact ok.val v hv
    · rcases k3.img b y hb with g | ⟨b0, o0, g3, g4⟩
      · have := ok.lt
        omega
      · exact ok.off b0 o0 g3 (g4.trans e)
  · intro p hp
    obtain ⟨d1, d2⟩ := iv.free p hp
    refine ⟨fun hD => ?_, Nat.lt_of_lt_of_le d2 k3.mle⟩
    rcases k3.new _ hD with g | g
    · exact d1 g
    · omega
  · intro i hi
    rw [k4 i (fun hm => hi (a3 i hm))]
    exact iv.keep i hi
  · intro c x hcx
    exact iv.atoms c x (List.mem_cons_of_mem _ hcx)
  · intro p hp u' hu
    rw [b3 _ (a4 p hp)] at hu
    exact iv.und p hp u' hu
theorem all_apart {d : Nat} {l : List Pd} (h : (l.all fun q => !(decide (q.d = d))) = true) : ∀ q ∈ l, q.d ≠ d := by
  intro q hq e
  have := List.all_eq_true.1 h q hq
  rw [decide_eq_true e] at this
  cases this
theorem linS_snd {a : Cmd} (iv : OInv P tab R o f pend l ρ h m s w env env') (hl : linS a pend l = some (pend', l')) (hr : xcmd tab R (chain l) env h m s o.r = .st xx env2 h2 m2 s2 r2) : a.wp P (Bhd P tab R o pend' l' xx env2 h2 m2 s2 r2) env' w := by
  unfold linS at hl
  split at hl
  · rename_i d T row e ha
    split at hl
    · rename_i p hp
      obtain ⟨f1, f2, f3, f4, f5⟩ := findAl_some hp
      split at hl
      · rename_i hall
        simp only [Option.some.injEq, Prod.mk.injEq] at hl
        obtain ⟨rfl, rfl⟩ := hl
        have hd := all_apart hall
        rw [← f2] at hd
        obtain ⟨v, k1, k2⟩ := iv.alloc f1 hd hr
        unfold asAlloc at ha
        split at ha
        · simp only [Option.some.injEq, Prod.mk.injEq] at ha
          obtain ⟨rfl, rfl, rfl, rfl⟩ := ha
          rw [f5] at k1
          simp only [Cmd.wp, k1, Ok_some]
          rw [f2, f3, show pv p w.heap.size = .pointer (some ⟨w.heap.size, 0, none⟩) by unfold pv; rw [f4]] at k2
          exact k2
        · simp only [Option.some.injEq, Prod.mk.injEq] at ha
          obtain ⟨rfl, rfl, rfl, rfl⟩ := ha
          rename_i n _ 
          rw [f5] at k1
          simp only [Cmd.wp, k1, Ok_some]
          rw [f2, f3] at k2
          unfold pv at k2
          rw [f4] at k2
          exact k2
        · cases ha
      · cases hl
    · cases hl
  · split at hl
    · rename_i c x l1 pend1 hc
      split at hl
      · rename_i hall
        simp only [Option.some.injEq, Prod.mk.injEq] at hl
        obtain ⟨rfl, rfl⟩ := hl
        simp only [Bool.and_eq_true] at hall
        obtain ⟨ρ1, env1, h1, s1, iv1, hr1⟩ := iv.catch hc hr
        refine iv1.at hall.1 (fun q hq hm => ?_) hr1
        have h3 := List.all_eq_true.1 hall.2 q hq
        have h4 : ((wr c).any fun j => decide (j = q.d)) = true := List.any_eq_true.2 ⟨q.d, hm, by simp⟩
        rw [h4] at h3
        cases h3
      · cases hl
    · cases hl
theorem linE_snd {a : Cmd} (iv : OInv P tab R o f pend l ρ h m s w env env') (hl : linE (linS a pend l) = true) (hr : xcmd tab R (chain l) env h m s o.r = .st xx env2 h2 m2 s2 r2) : a.wp P (Post0 o xx env2 h2 m2 s2) env' w := by
  unfold linE at hl
  split at hl
  · rename_i pend1 l1 h1
    split at hl
    · rename_i hc
      refine Cmd.wp_mono a (fun x e u hp => ?_) (linS_snd iv h1 hr)
      obtain ⟨rfl, f', ρ1, h3, m1, s1, env1, iv1, hr1⟩ := hp
      obtain ⟨ρ2, env3, h4, s3, iv2, hr2⟩ := iv1.catch hc hr1
      obtain ⟨e1, e2, e3, e4, e5, _⟩ := st_inj (show XS.st .normal env3 h4 m1 s3 o.r = _ from hr2)
      subst e1; subst e2; subst e3; subst e4; subst e5
      exact ⟨rfl, ρ2, iv2.hs, iv2.he, iv2.st⟩
    · cases hl
  · cases hl
theorem lin_snd : ∀ (c : Cmd) {pend : List Pd} {l : List LA} {ρ : Rho} {h : HT} {m s : Nat} {w : World} {env env' : Env} {f : Nat → Nat}, OInv P tab R o f pend l ρ h m s w env env' → lin c pend l = true → xcmd tab R (chain l) env h m s o.r = .st xx env2 h2 m2 s2 r2 → c.wp P (Post0 o xx env2 h2 m2 s2) env' w := by
  intro c
  induction c with
  | alt a b iha ihb =>
    intro pend l ρ h m s w env env' f iv hl hr
    simp only [lin, Bool.and_eq_true] at hl
    exact ⟨iha iv hl.1 hr, ihb iv hl.2 hr⟩
  | seq a b iha ihb =>
    intro pend l ρ h m s w env env' f iv hl hr
    unfold lin at hl
    split at hl
    · rename_i pend1 l1 h1
      refine Cmd.wp_mono a (fun x e u hp => ?_) (linS_snd iv h1 hr)
      obtain ⟨rfl, f', ρ1, h3, m1, s1, env1, iv1, hr1⟩ := hp
      exact ihb iv1 hl hr1
    · cases hl
  | _ =>
    intro pend l ρ h m s w env env' f iv hl hr
    exact linE_snd iv hl hr
theorem pairB_pw : ∀ {l : List Nat}, pairB l = true → l.Pairwise (· ≠ ·)
  | [], _ => .nil
  | a :: r, h => by
    simp only [pairB, Bool.and_eq_true] at h
    refine List.pairwise_cons.2 ⟨fun b hb e => ?_, pairB_pw h.2⟩
    have h1 : (r.any fun b => decide (a = b)) = true := List.any_eq_true.2 ⟨b, hb, by simp [e]⟩
    rw [h1] at h
    cases h.1
theorem als_mem : ∀ {l : List LA} {p : Pd}, p ∈ als l → p.d ∈ allWr l
  | [], p, h => by cases h
  | .al q :: r, p, h => by
    rcases List.mem_cons.1 h with rfl | h
    · exact List.mem_cons_self
    · exact List.mem_cons_of_mem _ (als_mem h)
  | .at c x :: r, p, h => List.mem_append_right _ (als_mem h)
theorem at_wr : ∀ {l : List LA} {c : Cmd} {x : XC}, LA.at c x ∈ l → ∀ i ∈ wr c, i ∈ allWr l
  | [], c, x, h, i, hi => by cases h
  | .al q :: r, c, x, h, i, hi => by
    rcases List.mem_cons.1 h with h | h
    · cases h
    · exact List.mem_cons_of_mem _ (at_wr h i hi)
  | .at c' x' :: r, c, x, h, i, hi => by
    rcases List.mem_cons.1 h with h | h
    · cases h; exact List.mem_append_left _ hi
    · exact List.mem_append_right _ (at_wr h i hi)
theorem atsOk_mem {ds : List Nat} : ∀ {l : List LA}, atsOk ds l = true → ∀ c x, LA.at c x ∈ l → atomX x = true ∧ ∀ d ∈ ds, d ∉ wrX x
  | [], _, c, x, hm => by cases hm
  | .al q :: r, h, c, x, hm => by
    rcases List.mem_cons.1 hm with hm | hm
    · cases hm
    · exact atsOk_mem (l := r) h c x hm
  | .at c' x' :: r, h, c, x, hm => by
    simp only [atsOk, Bool.and_eq_true] at h
    rcases List.mem_cons.1 hm with hm | hm
    · cases hm
      refine ⟨h.1.1, fun d hd hw => ?_⟩
      have h1 := List.all_eq_true.1 h.1.2 d hd
      have h2 : ((wrX x').any fun j => decide (j = d)) = true := List.any_eq_true.2 ⟨d, hw, by simp⟩
      rw [h2] at h1
      cases h1
    · exact atsOk_mem h.2 c x hm
theorem mkLA_at {F : Cmd → Option XC} : ∀ {cs : List Cmd} {j : Nat} {l : List LA}, mkLA F j cs = some l → ∀ c x, LA.at c x ∈ l → F c = some x
  | [], j, l, h, c, x, hm => by
    obtain rfl := Option.some.inj h
    cases hm
  | c0 :: r, j, l, h, c, x, hm => by
    unfold mkLA at h
    split at h
    · split at h
      · rename_i l1 h1
        obtain rfl := Option.some.inj h
        rcases List.mem_cons.1 hm with hm | hm
        · cases hm
        · exact mkLA_at h1 c x hm
      · cases h
    · split at h
      · rename_i x0 l1 h0 h1
        obtain rfl := Option.some.inj h
        rcases List.mem_cons.1 hm with hm | hm
        · cases hm; exact h0
        · exact mkLA_at h1 c x hm
      · cases h
theorem xes_each {h : HT} {env : Env} : ∀ {es : List Ex} {vs : List Value}, xes h env es = some vs → ∀ e ∈ es, ∃ v, xe h env e = some v
  | [], _, _, e, he => by cases he
  | a :: r, vs, hx, e, he => by
    obtain ⟨v, hv, hr1⟩ := orec_some (show (Option.rec none (fun v => Option.rec none (fun vs => some (v :: vs)) (xes h env r)) (xe h env a) : Option (List Value)) = some vs from hx)
    obtain ⟨us, hus, _⟩ := orec_some hr1
    rcases List.mem_cons.1 he with rfl | he
    · exact ⟨v, hv⟩
    · exact xes_each hus e he
theorem clrL (is : List Nat) : ∀ {env : Env}, EnvQ ρ env env' → EnvQ ρ (is.foldl (fun env i => env.set i undef) env) env' := by
  induction is with
  | nil => exact fun h => h
  | cons a r ih =>
    intro env he
    refine ih ⟨by simp [he.1], fun i x y hx hy => ?_⟩
    rw [List.getElem?_set] at hx
    by_cases hi : a = i
    · rw [if_pos hi] at hx
      split at hx
      · obtain rfl := Option.some.inj hx; exact .inl rfl
      · cases hx
    · rw [if_neg hi] at hx
      exact he.2 i x y hx hy
theorem clr_und : ∀ (is : List Nat) (env : Env) (d : Nat), d ∈ is → ∀ u, (is.foldl (fun env i => env.set i undef) env)[d]? = some u → isUndef u = true
  | [], env, d, hd, u, hu => by cases hd
  | a :: r, env, d, hd, u, hu => by
    rw [List.foldl_cons] at hu
    by_cases hr : d ∈ r
    · exact clr_und r _ d hr u hu
    · rw [clr_keep r _ hr] at hu
      rcases List.mem_cons.1 hd with rfl | hd
      · rw [List.getElem?_set] at hu
        rw [if_pos rfl] at hu
        split at hu
        · obtain rfl := Option.some.inj hu; rfl
        · cases hu
      · exact absurd hd hr
theorem alt_snd {G : Nat} {wE : World} {F : Cmd → Option XC} (hF : ∀ c x, F c = some x → Snd P G wE tab R c x) (c : Cmd) (x : XC) (hx : altX G F c = some x) : Snd P G wE tab R c x := by
  intro env h m s r xx env2 h2 m2 s2 r2 hr ρ w env' hs he
  unfold altX at hx
  split at hx
  · rename_i l hl
    split at hx
    · rename_i hc
      obtain rfl := Option.some.inj hx
      simp only [Bool.and_eq_true] at hc
      obtain ⟨c1, c2, c3, c4, c5⟩ := hc
      obtain ⟨x1, env1, h1, m1, s1, r1, g1, g2⟩ := xs_some (show (XS.rec .bad (hNext (xcmd tab R (.seq (.clr ((als l).map (·.d))) (.seq (.chk ((als l).map (·.e))) (chain l))))) (fN (Nat.add m (als l).length) fun m' => XS.st .normal env h m' s m) : XS) = _ from hr)
      rw [fN_eq] at g1
      obtain ⟨rfl, rfl, rfl, rfl, rfl, rfl⟩ := st_inj g1
      obtain ⟨x1, env1, h1, m1, s1, r1, g3, g4⟩ := xs_some (show (XS.rec .bad (hNext (xcmd tab R (.seq (.chk ((als l).map (·.e))) (chain l)))) (xclr ((als l).map (·.d)) env fun env => XS.st .normal env h (m + (als l).length) s m) : XS) = _ from g2)
      rw [xclr_eq] at g3
      obtain ⟨rfl, rfl, rfl, rfl, rfl, rfl⟩ := st_inj g3
      generalize hv : (((als l).map (·.d)).foldl (fun env i => env.set i undef) env) = envc at g4
      obtain ⟨x1, env1, h1, m1, s1, r1, g5, g6⟩ := xs_some (show (XS.rec .bad (hNext (xcmd tab R (chain l))) (xcmd tab R (.chk ((als l).map (·.e))) envc h (m + (als l).length) s m) : XS) = _ from g4)
      obtain ⟨vs, g7, g8⟩ := os_some (show (Option.rec .bad (fun _ => XS.st .normal envc h (m + (als l).length) s m) (xes h envc ((als l).map (·.e))) : XS) = _ from g5)
      obtain ⟨rfl, rfl, rfl, rfl, rfl, rfl⟩ := st_inj g8
      have heq : EnvQ ρ envc env' := by rw [← hv]; exact clrL _ he
      have hs1 : HS G wE ρ h (m + (als l).length) s w := ⟨hs.kept, hs.fix, fun b hb => Nat.lt_of_lt_of_le (hs.dom b hb) (Nat.le_add_right _ _), hs.spos, hs.live, hs.own, hs.inj⟩
      have hall : ∀ p ∈ als l, p.e.kc G = true ∧ p.e.apart (allWr l) = true ∧ p.j < (als l).length := by
        intro p hp
        have := List.all_eq_true.1 c5 p hp
        simp only [Bool.and_eq_true, decide_eq_true_eq] at this
        exact this
      let o : Org := ⟨G, wE, m, allWr l, env', ρ, h, m, s, w⟩
      have iv : OInv P tab R o (fun _ => 0) [] l ρ h (m + (als l).length) s w envc env' := by
        refine ⟨Nat.le_refl _, hs, hs1, heq, { Step.refl m ρ h m s w with mle := Nat.le_add_right _ _ }, (fun p hp => by cases hp), .nil, (fun p hp => by cases hp), (fun p hp => by cases hp), ?_, ?_, fun _ _ => rfl, ?_, ?_, fun p hp => als_mem hp, ?_⟩
        · exact (List.pairwise_map.1 (pairB_pw c3)).and (List.pairwise_map.1 (pairB_pw c4))
        · intro p hp
          refine ⟨fun hD => ?_, Nat.add_lt_add_left (hall p hp).2.2 m⟩
          have : m + p.j < m := hs.dom _ hD
          omega
        · intro p hp
          obtain ⟨k1, k2, _⟩ := hall p hp
          obtain ⟨v, k3⟩ := xes_each g7 p.e (List.mem_map.2 ⟨p, hp, rfl⟩)
          obtain ⟨v', k4, _⟩ := xe_vq hs1 heq p.e k1 k3
          exact ⟨k1, k2, v', k4⟩
        · intro c x hcx
          obtain ⟨k1, k2⟩ := atsOk_mem c2 c x hcx
          exact ⟨hF c x (mkLA_at hl c x hcx), k1, at_wr hcx, fun p hp => k2 p.d (List.mem_map.2 ⟨p, hp, rfl⟩)⟩
        · intro p hp u hu
          rw [← hv] at hu
          exact clr_und _ env p.d (List.mem_map.2 ⟨p, hp, rfl⟩) u hu
      exact lin_snd (o := o) c iv c1 g6
    · cases hx
  · cases hx
end
end Go.Eng
