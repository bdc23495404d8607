/- Engine, part XR: orders, their soundness. -/
import Derived.Test.YtkgpmjjleemdlaaGreatEngXQ
set_option linter.unusedSimpArgs false
set_option linter.unusedVariables false
set_option linter.unusedSectionVars false
namespace Go.Eng
variable [Sy]
/-- Where an order began. -/
structure Org where
  G : Nat
  wE : World
  r : Nat
  W : List Nat
  E : TypeId → Option (TypeId × List Value)
  ds : List Nat
  A : List Pd
  env : Env
  ρ : Rho
  h : HT
  m : Nat
  s : Nat
  w : World
/-- What is known of the allocations from the start. -/
structure OrgOk (P : Program) (o : Org) : Prop where
  kc : ∀ p ∈ o.A, p.e.kc o.G = true
  th : ∀ p ∈ o.A, ∃ e', thin o.ds p.e = some e' ∧ e'.apart o.W = true ∧ ∃ v, e'.ev o.env o.w = some v
  mkk : ∀ p ∈ o.A, ∀ t l c, p.k = .mk t l c → l.kc o.G = true ∧ c.kc o.G = true ∧ l.apart o.W = true ∧ c.apart o.W = true ∧ o.E t = some (p.T, p.z) ∧ ∃ nl nc : Nat, l.ev o.env o.w = some (.int .i64 nl) ∧ c.ev o.env o.w = some (.int .i64 nc) ∧ nl ≤ nc ∧ nc ≤ 100000
  dsW : ∀ d ∈ o.ds, d ∈ o.W
  Ad : ∀ p ∈ o.A, p.d ∈ o.ds
  E : ∀ t T z, o.E t = some (T, z) → ∃ sz, elT P t = some (T, sz, z) ∧ z.all (conV o.G 8) = true
/-- A place, or a row. -/
def onePl (v : Value) : Prop := (∃ a, v = .pointer (some a)) ∨ ∃ a n c, v = .slice (some a) n c
/-- An allocation that the world has made and the interpreter has not. -/
structure PdOk (o : Org) (ρ : Rho) (h : HT) (w : World) (env' : Env) (p : Pd) (q : Nat) : Prop where
  slot : ∀ v, env'[p.d]? = some v → v = p.pv o.env o.w q
  val : ∀ cs, p.cont env' w = some cs → w.heap[q]? = some (.cells cs p.T (0, 0))
  new : o.w.heap.size ≤ q
  lt : q < w.heap.size
  off : ∀ b x, h.get b = some x → ρ.σ b ≠ q
structure OInv (P : Program) (tab : XT) (R : CH) (o : Org) (f : Nat → Nat) (pend : List Pd) (l : List LA) (ρ : Rho) (h : HT) (m s : Nat) (w : World) (env env' : Env) : Prop where
  og : OrgOk P o
  rm : o.r ≤ o.m
  hs0 : HS o.G o.wE o.ρ o.h o.m o.s o.w
  hs : HS o.G o.wE ρ h m s w
  he : EnvQ ρ env env'
  st : Step o.r o.ρ ρ o.h h o.m m o.s s o.w w
  ok : ∀ p ∈ pend, PdOk o ρ h w env' p (f p.d)
  pw : pend.Pairwise fun p q => p.d ≠ q.d
  ne : ∀ p ∈ pend, ∀ q ∈ pend, f p.d = f q.d → p.d = q.d
  mem : ∀ p ∈ pend, p ∈ als l
  js : (als l).Pairwise fun p q => p.j ≠ q.j ∧ p.d ≠ q.d
  free : ∀ p ∈ als l, ¬ ρ.D (o.r + p.j) ∧ o.r + p.j < m
  keep : ∀ i, i ∉ o.W → env'[i]? = o.env[i]?
  sub : ∀ p ∈ als l, p ∈ o.A
  atoms : ∀ c x, LA.at c x ∈ l → Snd P o.G o.wE tab R c x ∧ atomX x = true ∧ (∀ i ∈ wr c, i ∈ o.W) ∧ ∀ d ∈ o.ds, d ∉ wrX x ∧ d ∉ wr c
  und : ∀ p ∈ als l, ∀ u, env[p.d]? = some u → isUndef u = true
  rd : ∀ p ∈ pend, ∃ U, p.e.apart U = true ∧ ∀ d ∈ unal l pend, d ∈ U
  one : ∀ d ∈ o.ds, d ∉ unal l pend → ∃ v, env'[d]? = some v ∧ onePl v
  len : ∀ d ∈ o.ds, d < env'.length
theorem mem_unal {l : List LA} {pend : List Pd} {d : Nat} : d ∈ unal l pend ↔ ∃ p ∈ als l, p.d = d ∧ ∀ q ∈ pend, q.d ≠ d := by
  unfold unal
  simp only [List.mem_map, List.mem_filter, Bool.not_eq_true', List.any_eq_false, decide_eq_true_eq]
  constructor
  · rintro ⟨p, ⟨h1, h2⟩, rfl⟩
    exact ⟨p, h1, rfl, h2⟩
  · rintro ⟨p, h1, rfl, h2⟩
    exact ⟨p, ⟨h1, h2⟩, rfl⟩
theorem updV_aggs {o n : Nat} {u v r : Value} (h : updV o n u v = some r) : ∃ xs ys, u = .agg xs ∧ r = .agg ys ∧ ys.size = xs.size ∧ v.cells.size = n ∧ o + n ≤ xs.size := by
  unfold updV at h
  split at h
  · rename_i cs
    split at h
    · rename_i hc
      obtain rfl := Option.some.inj h
      exact ⟨_, _, rfl, rfl, setRow_size _ _ _, hc.1, by omega⟩
    · cases h
  · cases h
/-- Alike: the same, or aggregates of the same length. -/
def Like (u v : Value) : Prop := u = v ∨ ∃ xs ys, u = .agg xs ∧ v = .agg ys ∧ xs.size = ys.size
theorem upd_like {o n : Nat} {u u' v v' r' : Value} (hl : Like u u') (hv : v.cells.size = v'.cells.size) (h : updV o n u' v' = some r') : ∃ r, updV o n u v = some r ∧ Like r r' := by
  obtain ⟨xs, ys, rfl, rfl, h1, h2, h3⟩ := updV_aggs h
  have : ∃ zs, u = .agg zs ∧ zs.size = xs.size := by
    rcases hl with rfl | ⟨zs, ws, rfl, e, h4⟩
    · exact ⟨_, rfl, rfl⟩
    · cases e; exact ⟨_, rfl, h4⟩
  obtain ⟨zs, rfl, h4⟩ := this
  refine ⟨.agg (setRow zs o v.cells.toList), ?_, .inr ⟨_, _, rfl, rfl, by rw [setRow_size, h1, h4]⟩⟩
  show (if v.cells.size = n ∧ o + v.cells.size ≤ zs.size then some (Value.agg (setRow zs o v.cells.toList)) else none) = _
  rw [if_pos ⟨by omega, by omega⟩]
theorem one_cells {v : Value} (h : onePl v) : v.cells.size = 1 := by
  rcases h with ⟨a, rfl⟩ | ⟨a, n, c, rfl⟩ <;> rfl
theorem one_var {v : Value} (h : onePl v) : varV v = some v := by
  rcases h with ⟨a, rfl⟩ | ⟨a, n, c, rfl⟩ <;> rfl
theorem any_mem {ds : List Nat} {d : Nat} : (ds.any fun j => decide (j = d)) = true ↔ d ∈ ds := by
  simp
/-- Where its thinned form has a value, an expression has one. -/
theorem thin_ev {ds U : List Nat} {env : Env} {w : World} (hU : ∀ d ∈ ds, d ∉ U → ∃ v, env[d]? = some v ∧ onePl v) : ∀ (e : Ex) {e' : Ex}, thin ds e = some e' → e.apart U = true → ∀ {v' : Value}, e'.ev env w = some v' → ∃ v, e.ev env w = some v ∧ Like v v' := by
  intro e
  induction e with
  | op2 op a b iha ihb =>
    intro e' ht ha v' hv
    simp only [Ex.apart, Bool.and_eq_true] at ha
    unfold thin at ht
    split at ht
    · rename_i o n a d heq
      obtain ⟨rfl, rfl, rfl⟩ := Ex.op2.inj heq
      split at ht
      · rename_i hd
        split at ht
        · rename_i a' h1
          obtain rfl := Option.some.inj ht
          simp only [Ex.ev, Option.bind_eq_some_iff, Option.bind_some] at hv
          obtain ⟨u', k1, k2⟩ := hv
          obtain ⟨u, k3, k4⟩ := iha h1 ha.1 k1
          have hdU : d ∉ U := fun hm => by
            have := ha.2
            simp only [Ex.apart, Bool.not_eq_true'] at this
            rw [any_mem.2 hm] at this
            cases this
          obtain ⟨v, k5, k6⟩ := hU d (any_mem.1 hd) hdU
          obtain ⟨r, k7, k8⟩ := upd_like (v := v) k4 (by rw [one_cells k6]; rfl) k2
          refine ⟨r, ?_, k8⟩
          simp only [Ex.ev, k3, k5, one_var k6, Option.bind_some]
          exact k7
        · cases ht
      · split at ht
        · rename_i a' h1
          obtain rfl := Option.some.inj ht
          simp only [Ex.ev, Option.bind_eq_some_iff] at hv
          obtain ⟨u', k1, v, ⟨v0, k2, k2'⟩, k3⟩ := hv
          obtain ⟨u, k4, k5⟩ := iha h1 ha.1 k1
          obtain ⟨r, k7, k8⟩ := upd_like (v := v) k5 rfl k3
          refine ⟨r, ?_, k8⟩
          simp only [Ex.ev, k4, k2, k2', Option.bind_some]
          exact k7
        · cases ht
    · rename_i o n a b hnv heq
      obtain ⟨rfl, rfl, rfl⟩ := Ex.op2.inj heq
      split at ht
      · rename_i a' h0 h1
        obtain rfl := Option.some.inj ht
        simp only [Ex.ev, Option.bind_eq_some_iff] at hv
        obtain ⟨u', k1, v, k2, k3⟩ := hv
        obtain ⟨u, k4, k5⟩ := iha h1 ha.1 k1
        obtain ⟨r, k7, k8⟩ := upd_like (v := v) k5 rfl k3
        refine ⟨r, ?_, k8⟩
        simp only [Ex.ev, k4, k2, Option.bind_some]
        exact k7
      · cases ht
    · split at ht
      · obtain rfl := Option.some.inj ht
        exact ⟨v', hv, .inl rfl⟩
      · cases ht
  | _ =>
    intro e' ht ha v' hv
    unfold thin at ht
    first
      | (split at ht
         · obtain rfl := Option.some.inj ht
           exact ⟨v', hv, .inl rfl⟩
         · cases ht)
      | (simp only at ht
         split at ht
         · obtain rfl := Option.some.inj ht
           exact ⟨v', hv, .inl rfl⟩
         · cases ht)
theorem thin_kc {ds : List Nat} {G : Nat} : ∀ (e : Ex) {e' : Ex}, thin ds e = some e' → e.kc G = true → e'.kc G = true := by
  intro e
  induction e with
  | op2 op a b iha ihb =>
    intro e' ht ha
    simp only [Ex.kc, Bool.and_eq_true] at ha
    unfold thin at ht
    split at ht
    · rename_i o n a d heq
      obtain ⟨rfl, rfl, rfl⟩ := Ex.op2.inj heq
      split at ht
      · split at ht
        · rename_i a' h1
          obtain rfl := Option.some.inj ht
          simp only [Ex.kc, Bool.and_eq_true]
          exact ⟨iha h1 ha.1, rfl⟩
        · cases ht
      · split at ht
        · rename_i a' h1
          obtain rfl := Option.some.inj ht
          simp only [Ex.kc, Bool.and_eq_true]
          exact ⟨iha h1 ha.1, trivial⟩
        · cases ht
    · rename_i o n a b hnv heq
      obtain ⟨rfl, rfl, rfl⟩ := Ex.op2.inj heq
      split at ht
      · rename_i a' h0 h1
        obtain rfl := Option.some.inj ht
        simp only [Ex.kc, Bool.and_eq_true]
        exact ⟨iha h1 ha.1, ha.2⟩
      · cases ht
    · split at ht
      · obtain rfl := Option.some.inj ht
        simp only [Ex.kc, Bool.and_eq_true]
        exact ha
      · cases ht
  | _ =>
    intro e' ht ha
    unfold thin at ht
    first
      | (split at ht
         · obtain rfl := Option.some.inj ht
           exact ha
         · cases ht)
      | (simp only at ht
         split at ht
         · obtain rfl := Option.some.inj ht
           exact ha
         · cases ht)
theorem apart_var {L : List Nat} {d : Nat} (h : d ∉ L) : (Ex.var d).apart L = true := by
  simp only [Ex.apart, Bool.not_eq_true']
  cases hh : L.any fun j => decide (j = d) with
  | false => rfl
  | true => exact absurd (any_mem.1 hh) h
theorem apart_sub {W L : List Nat} (hL : ∀ i ∈ L, i ∈ W) : ∀ (e : Ex), e.apart W = true → e.apart L = true := by
  intro e
  induction e with
  | var i =>
    intro h
    refine apart_var fun hm => ?_
    simp only [Ex.apart, Bool.not_eq_true'] at h
    rw [any_mem.2 (hL _ hm)] at h
    cases h
  | const v => intro _; rfl
  | op1 o x ih => intro h; exact ih h
  | op2 o x y ih1 ih2 => intro h; simp only [Ex.apart, Bool.and_eq_true] at h ⊢; exact ⟨ih1 h.1, ih2 h.2⟩
  | op3 o x y z ih1 ih2 ih3 => intro h; simp only [Ex.apart, Bool.and_eq_true] at h ⊢; exact ⟨ih1 h.1, ih2 h.2.1, ih3 h.2.2⟩
  | pick c a b ih1 ih2 ih3 => intro h; simp only [Ex.apart, Bool.and_eq_true] at h ⊢; exact ⟨ih1 h.1, ih2 h.2.1, ih3 h.2.2⟩
  | _ => intro h; cases h
theorem thin_apart {ds W L : List Nat} (hL : ∀ i ∈ L, i ∈ W) (hd : ∀ d ∈ ds, d ∉ L) : ∀ (e : Ex) {e' : Ex}, thin ds e = some e' → e'.apart W = true → e.apart L = true := by
  intro e
  induction e with
  | op2 op a b iha ihb =>
    intro e' ht ha
    unfold thin at ht
    split at ht
    · rename_i o n a d heq
      obtain ⟨rfl, rfl, rfl⟩ := Ex.op2.inj heq
      split at ht
      · rename_i hd'
        split at ht
        · rename_i a' h1
          obtain rfl := Option.some.inj ht
          simp only [Ex.apart, Bool.and_eq_true] at ha
          have := iha h1 ha.1
          have h2 := apart_var (hd d (any_mem.1 hd'))
          simp only [Ex.apart, Bool.and_eq_true] at h2 ⊢
          exact ⟨this, h2⟩
        · cases ht
      · split at ht
        · rename_i a' h1
          obtain rfl := Option.some.inj ht
          have ha2 : a'.apart W = true ∧ (Ex.var d).apart W = true := by simpa only [Ex.apart, Bool.and_eq_true] using ha
          have := iha h1 ha2.1
          have h2 := apart_sub hL _ ha2.2
          simp only [Ex.apart, Bool.and_eq_true] at h2 ⊢
          exact ⟨this, h2⟩
        · cases ht
    · rename_i o n a b hnv heq
      obtain ⟨rfl, rfl, rfl⟩ := Ex.op2.inj heq
      split at ht
      · rename_i a' h0 h1
        obtain rfl := Option.some.inj ht
        have ha2 : a'.apart W = true ∧ b.apart W = true := by simpa only [Ex.apart, Bool.and_eq_true] using ha
        have := iha h1 ha2.1
        have h2 := apart_sub hL _ ha2.2
        simp only [Ex.apart, Bool.and_eq_true]
        exact ⟨this, h2⟩
      · cases ht
    · split at ht
      · obtain rfl := Option.some.inj ht
        exact apart_sub hL _ ha
      · cases ht
  | _ =>
    intro e' ht ha
    unfold thin at ht
    first
      | (split at ht
         · obtain rfl := Option.some.inj ht
           exact apart_sub hL _ ha
         · cases ht)
      | (simp only at ht
         split at ht
         · obtain rfl := Option.some.inj ht
           exact apart_sub hL _ ha
         · cases ht)
section
variable {P : Program} {tab : XT} {R : CH} {o : Org} {f : Nat → Nat} {pend pend' : List Pd} {l l' : List LA} {ρ : Rho} {h : HT} {m s : Nat} {w : World} {env env' : Env} {xx : Exit} {env2 : Env} {h2 : HT} {m2 s2 r2 : Nat}
theorem OInv.evNow (iv : OInv P tab R o f pend l ρ h m s w env env') {p : Pd} (hp : p ∈ o.A) (ha : p.e.apart (unal l pend) = true) : ∃ v, p.e.ev env' w = some v := by
  obtain ⟨e', h1, h2, v0, h3⟩ := iv.og.th p hp
  rw [← Ex.apart_ev (w2 := w) iv.keep e' h2] at h3
  obtain ⟨v, h4, _⟩ := thin_ev iv.one p.e h1 ha h3
  exact ⟨v, h4⟩
/-- What the interpreter's allocation holds and tells, the world's does. -/
theorem OInv.mv (iv : OInv P tab R o f pend l ρ h m s w env env') {p : Pd} (hp : p ∈ o.A) {cs : List Value} {pvm : Nat → Value} (hm : MV h env p cs pvm) :
    ∃ cs', p.cont env' w = some cs' ∧ VL ρ cs cs' ∧ ∀ (ρ' : Rho) k, ρ'.D k → VQ ρ' (pvm k) (p.pv o.env o.w (ρ'.σ k)) := by
  unfold MV at hm
  split at hm
  · rename_i hk
    obtain ⟨⟨v, h1, rfl⟩, rfl⟩ := hm
    obtain ⟨v', q1, q2⟩ := xe_vq iv.hs iv.he p.e (iv.og.kc p hp) h1
    refine ⟨v'.cells, by unfold Pd.cont; rw [hk]; simp only [q1, Option.map_some], lq_vl (vq_cells q2), fun ρ' k hD => ?_⟩
    unfold Pd.pv; rw [hk]
    exact .ptr k 0 none hD
  · rename_i n hk
    obtain ⟨⟨v, h1, rfl⟩, h2, rfl⟩ := hm
    obtain ⟨v', q1, q2⟩ := xe_vq iv.hs iv.he p.e (iv.og.kc p hp) h1
    refine ⟨v'.cells, by unfold Pd.cont; rw [hk]; simp only [q1, Option.map_some], lq_vl (vq_cells q2), fun ρ' k hD => ?_⟩
    unfold Pd.pv; rw [hk]
    exact .slice k 0 none n n hD h2
  · rename_i t l0 c0 hk
    obtain ⟨kl, kc, nl, nc, h1, h2, h3, h4, rfl, rfl⟩ := hm
    obtain ⟨a1, a2, a3, a4, a5, _⟩ := iv.og.mkk p hp t l0 c0 hk
    obtain ⟨l', q1, q2⟩ := xe_vq iv.hs iv.he l0 a1 h1
    obtain ⟨c', q3, q4⟩ := xe_vq iv.hs iv.he c0 a2 h2
    obtain rfl := vq_int q2
    obtain rfl := vq_int q4
    have e1 : l0.ev o.env o.w = some (.int kl (.ofNat nl)) := by rw [← Ex.apart_ev (w2 := w) iv.keep l0 a3]; exact q1
    have e2 : c0.ev o.env o.w = some (.int kc (.ofNat nc)) := by rw [← Ex.apart_ev (w2 := w) iv.keep c0 a4]; exact q3
    obtain ⟨_, _, hz⟩ := iv.og.E t _ _ a5
    refine ⟨_, by unfold Pd.cont; rw [hk], ?_, fun ρ' k hD => ?_⟩
    · refine lq_vl ?_
      rw [q3]
      show LQ ρ _ (List.replicate nc p.z).flatten
      exact con_lq iv.hs.fix fun v hv => List.all_eq_true.1 hz v (mem_flat hv)
    · unfold Pd.pv; rw [hk]
      simp only [e1, e2]
      exact .slice k 0 none nl nc hD (Nat.lt_of_le_of_lt h4 (by decide))
theorem cont_ev {p : Pd} {env1 env2 : Env} {w1 w2 : World} {L W : List Nat} (hk : ∀ i, i ∉ L → env2[i]? = env1[i]?) (hL : ∀ i ∈ L, i ∈ W) (he : p.e.apart L = true) (hm : ∀ t l c, p.k = .mk t l c → c.apart W = true) : p.cont env2 w2 = p.cont env1 w1 := by
  unfold Pd.cont
  split
  · rename_i t l c hk'
    rw [Ex.apart_ev (w := w1) (w2 := w2) hk c (apart_sub hL c (hm t l c hk'))]
  · rw [Ex.apart_ev (w := w1) (w2 := w2) hk p.e he]
theorem OInv.catch1 {p : Pd} (iv : OInv P tab R o f pend (.al p :: l) ρ h m s w env env') (hp : takeP p.j pend = some pend') (hr : xcmd tab R (chain (.al p :: l)) env h m s o.r = .st xx env2 h2 m2 s2 r2) :
    ∃ ρ1 env1 h1 s1, OInv P tab R o f pend' l ρ1 h1 m s1 w env1 env' ∧ xcmd tab R (chain l) env1 h1 m s1 o.r = .st xx env2 h2 m2 s2 r2 := by
  obtain ⟨a, b, p0, e1, e2, e3⟩ := takeP_some hp
  have hjs := List.pairwise_cons.1 (show (p :: als l).Pairwise _ from iv.js)
  have hmem0 : p0 ∈ pend := by rw [e1]; simp
  obtain rfl : p0 = p := by
    rcases List.mem_cons.1 (show p0 ∈ p :: als l from iv.mem p0 hmem0) with h | h
    · exact h
    · exact absurd e2.symm (hjs.1 p0 h).1
  obtain ⟨x1, env1, h1, m1, s1, r1, g1, g2⟩ := xs_some (show (XS.rec .bad (hNext (xcmd tab R (chain l))) (xcmd tab R p0.x env h m s o.r) : XS) = _ from hr)
  obtain ⟨cs, pvm, k1, rfl, rfl, rfl, rfl, rfl, rfl⟩ := al_run g1
  have hmem : p0 ∈ als (.al p0 :: l) := List.mem_cons_self
  have hA := iv.sub p0 hmem
  obtain ⟨cs', c1, c2, c3⟩ := iv.mv hA k1
  have ok := iv.ok p0 hmem0
  obtain ⟨f1, f2⟩ := iv.free p0 hmem
  have hb := ok.val cs' c1
  have hle := Rho.le_bind f1 (f p0.d) cs'.size
  have hwE : o.wE.heap.size ≤ f p0.d := Nat.le_trans iv.hs0.kept.size ok.new
  have hs1 := iv.hs.bind (T := p0.T) f1 f2 (Nat.le_refl m) hwE ok.off hb c2
  have st1 := Step.bind iv.hs0 iv.st iv.hs f1 (Nat.le_add_right _ _) (Nat.le_refl m) cs'.size (.cells cs p0.T s) (.inl ok.new)
  have hpm : ∀ q ∈ pend', q ∈ pend ∧ q.d ≠ p0.d := by
    intro q hq
    rw [e3] at hq
    have hpw := iv.pw
    rw [e1] at hpw
    have h1 := List.pairwise_append.1 hpw
    rcases List.mem_append.1 hq with hq | hq
    · exact ⟨by rw [e1]; exact List.mem_append_left _ hq, h1.2.2 q hq p0 List.mem_cons_self⟩
    · exact ⟨by rw [e1]; exact List.mem_append_right _ (List.mem_cons_of_mem _ hq), fun e => (List.pairwise_cons.1 h1.2.1).1 q hq e.symm⟩
  have hun : ∀ d, d ∈ unal (.al p0 :: l) pend ↔ d ∈ unal l pend' := by
    intro d
    rw [mem_unal, mem_unal]
    constructor
    · rintro ⟨q, hq, rfl, hn⟩
      rcases List.mem_cons.1 (show q ∈ p0 :: als l from hq) with rfl | hq
      · exact absurd rfl (hn q hmem0)
      · exact ⟨q, hq, rfl, fun q' hq' => hn q' (hpm q' hq').1⟩
    · rintro ⟨q, hq, rfl, hn⟩
      refine ⟨q, List.mem_cons_of_mem _ hq, rfl, fun q' hq' => ?_⟩
      rw [e1] at hq'
      rcases List.mem_append.1 hq' with h | h
      · exact hn q' (by rw [e3]; exact List.mem_append_left _ h)
      · rcases List.mem_cons.1 h with rfl | h
        · exact fun e => (hjs.1 q hq).2 e
        · exact hn q' (by rw [e3]; exact List.mem_append_right _ h)
  refine ⟨ρ.bind (o.r + p0.j) (f p0.d) cs'.size, _, _, s + 1, ⟨iv.og, iv.rm, iv.hs0, hs1, ?_, st1, ?_, ?_, ?_, ?_, hjs.2, ?_, iv.keep, ?_, ?_, ?_, ?_, ?_, iv.len⟩, g2⟩
  · refine (iv.he.mono hle).setL fun v hv => ?_
    rw [ok.slot v hv]
    have := c3 (ρ.bind (o.r + p0.j) (f p0.d) cs'.size) (o.r + p0.j) (Rho.bind_D _ _ _ _)
    rw [Rho.bind_σ] at this
    exact this
  · intro q hq
    obtain ⟨hq1, hq2⟩ := hpm q hq
    have okq := iv.ok q hq1
    refine ⟨okq.slot, okq.val, okq.new, okq.lt, fun b x hb => ?_⟩
    by_cases e : b = o.r + p0.j
    · rw [e, Rho.bind_σ]
      intro e4
      exact hq2 (iv.ne p0 hmem0 q hq1 e4).symm
    · rw [HT.get_other _ _ e] at hb
      rw [hle.σ b (iv.hs.live b x hb).1]
      exact okq.off b x hb
  · rw [e3]
    have hpw := iv.pw
    rw [e1] at hpw
    have h1 := List.pairwise_append.1 hpw
    exact List.pairwise_append.2 ⟨h1.1, (List.pairwise_cons.1 h1.2.1).2, fun x hx y hy => h1.2.2 x hx y (List.mem_cons_of_mem _ hy)⟩
  · exact fun q hq q' hq' e => iv.ne q (hpm q hq).1 q' (hpm q' hq').1 e
  · intro q hq
    rcases List.mem_cons.1 (show q ∈ p0 :: als l from iv.mem q (hpm q hq).1) with e | e
    · exact absurd (by rw [e]) (hpm q hq).2
    · exact e
  · intro q hq
    obtain ⟨d1, d2⟩ := iv.free q (List.mem_cons_of_mem _ hq)
    refine ⟨fun hD => ?_, d2⟩
    rcases hD with hD | hD
    · exact d1 hD
    · exact (hjs.1 q hq).1 (by omega)
  · exact fun q hq => iv.sub q (List.mem_cons_of_mem _ hq)
  · intro c x hcx
    exact iv.atoms c x (List.mem_cons_of_mem _ hcx)
  · intro q hq u hu
    rw [List.getElem?_set_ne (hjs.1 q hq).2] at hu
    exact iv.und q (List.mem_cons_of_mem _ hq) u hu
  · intro q hq
    obtain ⟨U, u1, u2⟩ := iv.rd q (hpm q hq).1
    exact ⟨U, u1, fun d hd => u2 d ((hun d).2 hd)⟩
  · exact fun d hd hn => iv.one d hd fun h => hn ((hun d).1 h)
theorem OInv.catch : ∀ {l : List LA} {pend : List Pd} {ρ : Rho} {h : HT} {s : Nat} {env : Env} {l' : List LA} {pend' : List Pd}, OInv P tab R o f pend l ρ h m s w env env' → catchUp l pend = (l', pend') → xcmd tab R (chain l) env h m s o.r = .st xx env2 h2 m2 s2 r2 →
    ∃ ρ1 env1 h1 s1, OInv P tab R o f pend' l' ρ1 h1 m s1 w env1 env' ∧ xcmd tab R (chain l') env1 h1 m s1 o.r = .st xx env2 h2 m2 s2 r2
  | [], pend, ρ, h, s, env, l', pend', iv, hc, hr => by
    simp only [catchUp, Prod.mk.injEq] at hc
    obtain ⟨rfl, rfl⟩ := hc
    exact ⟨ρ, env, h, s, iv, hr⟩
  | .at c x :: l, pend, ρ, h, s, env, l', pend', iv, hc, hr => by
    simp only [catchUp, Prod.mk.injEq] at hc
    obtain ⟨rfl, rfl⟩ := hc
    exact ⟨ρ, env, h, s, iv, hr⟩
  | .al p :: l, pend, ρ, h, s, env, l', pend', iv, hc, hr => by
    unfold catchUp at hc
    split at hc
    · rename_i pend1 hp
      obtain ⟨ρ1, env1, h1, s1, iv1, hr1⟩ := iv.catch1 hp hr
      exact OInv.catch iv1 hc hr1
    · simp only [Prod.mk.injEq] at hc
      obtain ⟨rfl, rfl⟩ := hc
      exact ⟨ρ, env, h, s, iv, hr⟩
def Post0 (o : Org) (xx : Exit) (env2 : Env) (h2 : HT) (m2 s2 : Nat) : Exit → Env → World → Prop := fun x e u => x = xx ∧ ∃ ρ2, HS o.G o.wE ρ2 h2 m2 s2 u ∧ EnvQ ρ2 env2 e ∧ Step o.r o.ρ ρ2 o.h h2 o.m m2 o.s s2 o.w u
/-- Behind one command of an order. -/
def Bhd (P : Program) (tab : XT) (R : CH) (o : Org) (pend : List Pd) (l : List LA) (xx : Exit) (env2 : Env) (h2 : HT) (m2 s2 r2 : Nat) : Exit → Env → World → Prop := fun x e u => x = .normal ∧ ∃ f ρ1 h1 m1 s1 env1, OInv P tab R o f pend l ρ1 h1 m1 s1 u env1 e ∧ xcmd tab R (chain l) env1 h1 m1 s1 o.r = .st xx env2 h2 m2 s2 r2
theorem wr_le {c c' : Cmd} (h : atomLe c c' = true) : wr c = wr c' := by
  cases c <;> cases c' <;> try (cases h; done)
  all_goals try rfl
  all_goals simp only [atomLe, Bool.and_eq_true, decide_eq_true_eq] at h
  · rw [show wr (.set _ _) = _ from rfl, h.1]; rfl
  · rw [h]
  · rename_i d f a st d' f' a' st'; obtain rfl : d = d' := h.1; cases d <;> rfl
  · rename_i d f a st d' f' a' st'; obtain rfl : d = d' := h.1; cases d <;> rfl
  · rename_i d b ts ty a st d' b' ts' ty' a' st'; obtain rfl : d = d' := h.1; cases d <;> rfl
  · rename_i d g a st d' g' a' st'; obtain rfl : d = d' := h.1; cases d <;> rfl
  · rename_i d T e st d' T' e' st'; obtain rfl : d = d' := h.1; cases d <;> rfl
  · rename_i d T n e st d' T' n' e' st'; obtain rfl : d = d' := h.1; cases d <;> rfl
/-- The world allocates, the interpreter not yet. -/
theorem OInv.alloc (iv : OInv P tab R o f pend l ρ h m s w env env') {p : Pd} (hp : p ∈ als l) (hd : ∀ q ∈ pend, q.d ≠ p.d) (ha : p.e.apart (unal l pend) = true) (hr : xcmd tab R (chain l) env h m s o.r = .st xx env2 h2 m2 s2 r2) {cs' : Array Value} (hc : p.cont env' w = some cs') :
    Bhd P tab R o (p :: pend) l xx env2 h2 m2 s2 r2 .normal (env'.set p.d (p.pv o.env o.w w.heap.size)) (w.alloc (.cells cs' p.T)) := by
  have hA := iv.sub p hp
  have hds := iv.og.Ad p hA
  have hun : p.d ∈ unal l pend := mem_unal.2 ⟨p, hp, rfl, hd⟩
  have hset : ∀ U : List Nat, p.d ∈ U → ∀ i, i ∉ U → (env'.set p.d (p.pv o.env o.w w.heap.size))[i]? = env'[i]? := fun U hU i hi => List.getElem?_set_ne fun e => hi (by rw [← e]; exact hU)
  have hmk : ∀ q ∈ o.A, ∀ t l c, q.k = .mk t l c → c.apart o.W = true := fun q hq t l c hk => (iv.og.mkk q hq t l c hk).2.2.2.1
  have hcont : ∀ q ∈ o.A, ∀ U : List Nat, p.d ∈ U → q.e.apart U = true → ∀ w2, q.cont (env'.set p.d (p.pv o.env o.w w.heap.size)) w2 = q.cont env' w := by
    intro q hq U hU hqU w2
    refine cont_ev (L := [p.d]) (W := o.W) (hset _ List.mem_cons_self) (fun i hi => ?_) (apart_sub (fun i hi => ?_) q.e hqU) (hmk q hq)
    · rw [List.mem_singleton.1 hi]; exact iv.og.dsW _ hds
    · rw [List.mem_singleton.1 hi]; exact hU
  refine ⟨rfl, fun x => if x = p.d then w.heap.size else f x, ρ, h, m, s, env, ?_, hr⟩
  have hoff := Off.alloc w (.cells cs' p.T) (fun _ => False)
  have hold : ∀ q ∈ pend, (if q.d = p.d then w.heap.size else f q.d) = f q.d := fun q hq => if_neg (hd q hq)
  have hsub : ∀ d ∈ unal l (p :: pend), d ∈ unal l pend := by
    intro d hd'
    obtain ⟨q, h1, h2, h3⟩ := mem_unal.1 hd'
    exact mem_unal.2 ⟨q, h1, h2, fun q' hq' => h3 q' (List.mem_cons_of_mem _ hq')⟩
  refine ⟨iv.og, iv.rm, iv.hs0, iv.hs.off hoff (fun _ _ _ h => h) (fun _ _ h => h), iv.he.setR (iv.und p hp), Step.off iv.hs0 iv.hs iv.st hoff (fun _ _ _ h => h) (fun _ h => h.elim), ?_, List.pairwise_cons.2 ⟨fun q hq e => hd q hq e.symm, iv.pw⟩, ?_, ?_, iv.js, iv.free, ?_, iv.sub, iv.atoms, iv.und, ?_, ?_, ?_⟩
  · intro q hq
    rcases List.mem_cons.1 hq with rfl | hq
    · rw [if_pos rfl]
      refine ⟨fun v hv => ?_, fun cs hv => ?_, iv.st.size, by rw [alloc_size]; omega, fun b x hb e => by have := iv.hs.blk hb; omega⟩
      · rw [List.getElem?_set] at hv
        rw [if_pos rfl] at hv
        split at hv
        · exact (Option.some.inj hv).symm
        · cases hv
      · rw [hcont q hA _ hun ha, hc] at hv
        obtain rfl := Option.some.inj hv
        exact hp_new _ _
    · rw [hold q hq]
      have ok := iv.ok q hq
      refine ⟨fun v hv => ok.slot v (by rw [List.getElem?_set_ne (fun e => hd q hq e.symm)] at hv; exact hv), fun cs hv => ?_, ok.new, Nat.lt_of_lt_of_le ok.lt hoff.size, ok.off⟩
      obtain ⟨U, u1, u2⟩ := iv.rd q hq
      rw [hcont q (iv.sub q (iv.mem q hq)) U (u2 _ hun) u1] at hv
      rw [hoff.block _ ok.lt (fun h => h)]
      exact ok.val cs hv
  · have hlt : ∀ q ∈ pend, f q.d < w.heap.size := fun q hq => (iv.ok q hq).lt
    intro q hq q' hq' e
    rcases List.mem_cons.1 hq with e1 | hq
    · rcases List.mem_cons.1 hq' with e2 | hq'
      · rw [e1, e2]
      · rw [e1] at e
        simp only [if_true, hold q' hq'] at e
        have := hlt q' hq'
        omega
    · rcases List.mem_cons.1 hq' with e2 | hq'
      · rw [e2] at e
        simp only [if_true, hold q hq] at e
        have := hlt q hq
        omega
      · simp only [hold q hq, hold q' hq'] at e
        exact iv.ne q hq q' hq' e
  · intro q hq
    rcases List.mem_cons.1 hq with rfl | hq
    · exact hp
    · exact iv.mem q hq
  · intro i hi
    rw [List.getElem?_set_ne (fun e => hi (by rw [← e]; exact iv.og.dsW _ hds))]
    exact iv.keep i hi
  · intro q hq
    rcases List.mem_cons.1 hq with rfl | hq
    · exact ⟨_, ha, hsub⟩
    · obtain ⟨U, u1, u2⟩ := iv.rd q hq
      exact ⟨U, u1, fun d hd' => u2 d (hsub d hd')⟩
  · intro d hd' hn
    by_cases e : d = p.d
    · subst e
      refine ⟨p.pv o.env o.w w.heap.size, ?_, ?_⟩
      · rw [List.getElem?_set, if_pos rfl, if_pos (iv.len _ hds)]
      · unfold Pd.pv
        split
        · exact .inl ⟨_, rfl⟩
        · exact .inr ⟨_, _, _, rfl⟩
        · exact .inr ⟨_, _, _, rfl⟩
    · rw [List.getElem?_set_ne (fun e2 => e e2.symm)]
      refine iv.one d hd' fun hm => hn ?_
      obtain ⟨q, h1, h2, h3⟩ := mem_unal.1 hm
      refine mem_unal.2 ⟨q, h1, h2, fun q' hq' => ?_⟩
      rcases List.mem_cons.1 hq' with rfl | hq'
      · exact fun e2 => e e2.symm
      · exact h3 q' hq'
  · intro d hd'
    rw [List.length_set]
    exact iv.len d hd'
/-- A command of the order, which both carry out. -/
theorem OInv.at {c0 : Cmd} {x0 : XC} (iv : OInv P tab R o f pend (.at c0 x0 :: l) ρ h m s w env env') {c : Cmd} (hle : atomLe c c0 = true) (hr : xcmd tab R (chain (.at c0 x0 :: l)) env h m s o.r = .st xx env2 h2 m2 s2 r2) :
    c.wp P (Bhd P tab R o pend l xx env2 h2 m2 s2 r2) env' w := by
  obtain ⟨x1, env1, h1, m1, s1, r1, g1, g2⟩ := xs_some (show (XS.rec .bad (hNext (xcmd tab R (chain l))) (xcmd tab R x0 env h m s o.r) : XS) = _ from hr)
  obtain ⟨a1, a2, a3, a4⟩ := iv.atoms c0 x0 List.mem_cons_self
  obtain ⟨b1, b2, b3⟩ := atom_r (R := R) (tab := tab) x0 a2 env h m s o.r x1 env1 h1 m1 s1 r1 g1
  subst b1; subst b2
  have hw := atom_keep hle (atomLe_wp hle (a1 env h m s o.r .normal env1 h1 m1 s1 o.r g1 ρ w env' iv.hs iv.he))
  rw [wr_le hle] at hw
  have hsz : ∀ (Q : Exit → Env → World → Prop), c.wp P Q env' w → c.wp P (fun x e u => Q x e u ∧ e.length = env'.length) env' w := fun Q hq => atom_len hle hq
  refine Cmd.wp_mono c (fun x e u hp => ?_) (hsz _ hw)
  obtain ⟨⟨⟨e1, ρ2, k1, k2, k3⟩, k4⟩, k5⟩ := hp
  refine ⟨e1, f, ρ2, h1, m1, s1, env1, ?_, g2⟩
  have hd : ∀ d ∈ o.ds, e[d]? = env'[d]? := fun d hd => k4 d (a4 d hd).2
  refine ⟨iv.og, iv.rm, iv.hs0, k1, k2, Step.trans iv.hs0 iv.st (k3.weak ?_), ?_, iv.pw, iv.ne, iv.mem, iv.js, ?_, ?_, iv.sub, ?_, ?_, iv.rd, ?_, ?_⟩
  · exact Nat.le_trans iv.rm iv.st.mle
  · intro q hq
    have ok := iv.ok q hq
    have hA := iv.sub q (iv.mem q hq)
    refine ⟨fun v hv => ok.slot v (by rw [hd _ (iv.og.Ad q hA)] at hv; exact hv), fun v hv => ?_, ok.new, Nat.lt_of_lt_of_le ok.lt k3.size, fun b y hb e => ?_⟩
    · rw [k3.out _ ok.lt ok.off]
      obtain ⟨e', t1, t2, _⟩ := iv.og.th q hA
      rw [cont_ev (w1 := w) (W := o.W) (L := wr c0) k4 a3 (thin_apart a3 (fun d hd => (a4 d hd).2) q.e t1 t2) (fun t l c hk => (iv.og.mkk q hA t l c hk).2.2.2.1)] at hv
      exact ok.val v hv
    · rcases k3.img b y hb with g | ⟨b0, o0, g3, g4⟩
      · have := ok.lt
        omega
      · exact ok.off b0 o0 g3 (g4.trans e)
  · intro p hp
    obtain ⟨d1, d2⟩ := iv.free p hp
    refine ⟨fun hD => ?_, Nat.lt_of_lt_of_le d2 k3.mle⟩
    rcases k3.new _ hD with g | g
    · exact d1 g
    · omega
  · intro i hi
    rw [k4 i (fun hm => hi (a3 i hm))]
    exact iv.keep i hi
  · intro c x hcx
    exact iv.atoms c x (List.mem_cons_of_mem _ hcx)
  · intro p hp u' hu
    rw [b3 _ (a4 p.d (iv.og.Ad p (iv.sub p hp))).1] at hu
    exact iv.und p hp u' hu
  · intro d hd' hn
    rw [hd d hd']
    exact iv.one d hd' hn
  · intro d hd'
    rw [k5]
    exact iv.len d hd'
theorem all_apart {d : Nat} {l : List Pd} (h : (l.all fun q => !(decide (q.d = d))) = true) : ∀ q ∈ l, q.d ≠ d := by
  intro q hq e
  have := List.all_eq_true.1 h q hq
  rw [decide_eq_true e] at this
  cases this
theorem linA_snd {a : Cmd} (iv : OInv P tab R o f pend l ρ h m s w env env') (hl : linA a pend l = some (pend', l')) (hr : xcmd tab R (chain l) env h m s o.r = .st xx env2 h2 m2 s2 r2) : a.wp P (Bhd P tab R o pend' l' xx env2 h2 m2 s2 r2) env' w := by
  unfold linA at hl
  split at hl
  · rename_i c x l1 pend1 hc
    split at hl
    · rename_i hall
      simp only [Option.some.injEq, Prod.mk.injEq] at hl
      obtain ⟨rfl, rfl⟩ := hl
      obtain ⟨ρ1, env1, h1, s1, iv1, hr1⟩ := iv.catch hc hr
      exact iv1.at hall hr1
    · cases hl
  · cases hl
theorem linS_snd {a : Cmd} (iv : OInv P tab R o f pend l ρ h m s w env env') (hl : linS o.E o.A a pend l = some (pend', l')) (hr : xcmd tab R (chain l) env h m s o.r = .st xx env2 h2 m2 s2 r2) : a.wp P (Bhd P tab R o pend' l' xx env2 h2 m2 s2 r2) env' w := by
  unfold linS at hl
  split at hl
  · rename_i hk
    simp only [Option.some.injEq, Prod.mk.injEq] at hl
    obtain ⟨rfl, rfl⟩ := hl
    unfold skipC at hk
    split at hk
    · rename_i es
      replace hk : (es.all fun e => (o.A.any fun p => beqE p.e e) && e.apart (unal l pend)) = true := by
        split at hk
        · cases hk
        · exact hk
      have hes : ∀ e ∈ es, ∃ v, e.ev env' w = some v := by
        intro e he
        have h1 := List.all_eq_true.1 hk e he
        simp only [Bool.and_eq_true] at h1
        obtain ⟨p, hp, hb⟩ := List.any_eq_true.1 h1.1
        obtain rfl := beqE_eq _ _ hb
        exact iv.evNow hp h1.2
      obtain ⟨vs, hvs⟩ := evs_all hes
      simp only [Cmd.wp, hvs, Ok_some]
      exact ⟨rfl, f, ρ, h, m, s, env, iv, hr⟩
    · cases hk
  · split at hl
    · rename_i al hal
      split at hl
      · rename_i p hp
        obtain ⟨f1, f2, f3, f4, f5⟩ := findAl_some hp
        split at hl
        · rename_i hall
          simp only [Option.some.injEq, Prod.mk.injEq] at hl
          obtain ⟨rfl, rfl⟩ := hl
          simp only [Bool.and_eq_true] at hall
          have hd := all_apart hall.1
          have hA := iv.sub p f1
          obtain ⟨v, hv⟩ := iv.evNow hA hall.2
          unfold asAlloc at hal
          split at hal
          · obtain rfl := Option.some.inj hal
            have hc : p.cont env' w = some v.cells := by unfold Pd.cont; rw [f4]; simp only [hv, Option.map_some]
            have k2 := iv.alloc f1 hd hall.2 hr hc
            rw [f5] at hv
            simp only [Cmd.wp, hv, Ok_some]
            rw [f2, f3, show p.pv o.env o.w w.heap.size = .pointer (some ⟨w.heap.size, 0, none⟩) by unfold Pd.pv; rw [f4]] at k2
            exact k2
          · obtain rfl := Option.some.inj hal
            rename_i n _ _
            have hc : p.cont env' w = some v.cells := by unfold Pd.cont; rw [f4]; simp only [hv, Option.map_some]
            have k2 := iv.alloc f1 hd hall.2 hr hc
            rw [f5] at hv
            simp only [Cmd.wp, hv, Ok_some]
            rw [f2, f3] at k2
            unfold Pd.pv at k2
            rw [f4] at k2
            exact k2
          · rename_i d0 t l0 c0 st0 _
            split at hal
            · rename_i T z hE
              obtain rfl := Option.some.inj hal
              obtain ⟨a1, a2, a3, a4, a5, nl, nc, a6, a7, a8, a9⟩ := iv.og.mkk p hA t l0 c0 f4
              obtain ⟨sz, b1, b2⟩ := iv.og.E t _ _ a5
              have e1 : l0.ev env' w = some (.int .i64 nl) := by rw [Ex.apart_ev (w := o.w) iv.keep l0 a3]; exact a6
              have e2 : c0.ev env' w = some (.int .i64 nc) := by rw [Ex.apart_ev (w := o.w) iv.keep c0 a4]; exact a7
              have hc : p.cont env' w = some (List.replicate nc p.z).flatten.toArray := by unfold Pd.cont; rw [f4]; simp only [e2]; rfl
              have k2 := iv.alloc f1 hd hall.2 hr hc
              obtain ⟨_, i, z', g1, g2, g3, g4, g5, g6, g7⟩ := elT_some b1
              have hb : i.bytes * nc ≤ 65536 * 100000 := Nat.mul_le_mul g6 a9
              have hb' : ((i.bytes : Int) * (nc : Int)) ≤ 281474976710656 := by
                have : ((i.bytes * nc : Nat) : Int) ≤ ((65536 * 100000 : Nat) : Int) := Int.ofNat_le.2 hb
                rw [Int.natCast_mul] at this
                omega
              have hrun := run_make (P := P) w t p.T i z' g1 g2 g3 .i64 .i64 (nl : Int) (nc : Int) (by omega) (by omega) hb' (by omega)
              simp only [Int.toNat_natCast] at hrun
              rw [← g4] at hrun
              have hm : madeCells z'.cells (nc * z'.cells.size) = (List.replicate nc p.z).flatten.toArray := by
                apply Array.toList_inj.1
                rw [madeCells_flat, g7]
              rw [hm] at hrun
              simp only [Cmd.wp, evs, e1, e2, Option.bind_some, Ok_some]
              unfold RunTo
              simp only [Tag.sem, hrun]
              refine ⟨stab_alloc _ _ _ _, ?_⟩
              rw [f2] at k2
              have hpv : p.pv o.env o.w w.heap.size = .slice (some ⟨w.heap.size, 0, none⟩) nl nc := by unfold Pd.pv; rw [f4]; simp only [a6, a7]; rfl
              rw [hpv] at k2
              exact k2
            · cases hal
          · cases hal
        · cases hl
      · exact linA_snd iv hl hr
    · exact linA_snd iv hl hr
theorem linE_snd {a : Cmd} (iv : OInv P tab R o f pend l ρ h m s w env env') (hl : linE (linS o.E o.A a pend l) = true) (hr : xcmd tab R (chain l) env h m s o.r = .st xx env2 h2 m2 s2 r2) : a.wp P (Post0 o xx env2 h2 m2 s2) env' w := by
  unfold linE at hl
  split at hl
  · rename_i pend1 l1 h1
    split at hl
    · rename_i hc
      refine Cmd.wp_mono a (fun x e u hp => ?_) (linS_snd iv h1 hr)
      obtain ⟨rfl, f', ρ1, h3, m1, s1, env1, iv1, hr1⟩ := hp
      obtain ⟨ρ2, env3, h4, s3, iv2, hr2⟩ := iv1.catch hc hr1
      obtain ⟨e1, e2, e3, e4, e5, _⟩ := st_inj (show XS.st .normal env3 h4 m1 s3 o.r = _ from hr2)
      subst e1; subst e2; subst e3; subst e4; subst e5
      exact ⟨rfl, ρ2, iv2.hs, iv2.he, iv2.st⟩
    · cases hl
  · cases hl
theorem lin_snd : ∀ (c : Cmd) {pend : List Pd} {l : List LA} {ρ : Rho} {h : HT} {m s : Nat} {w : World} {env env' : Env} {f : Nat → Nat}, OInv P tab R o f pend l ρ h m s w env env' → lin o.E o.A c pend l = true → xcmd tab R (chain l) env h m s o.r = .st xx env2 h2 m2 s2 r2 → c.wp P (Post0 o xx env2 h2 m2 s2) env' w := by
  intro c
  induction c with
  | alt a b iha ihb =>
    intro pend l ρ h m s w env env' f iv hl hr
    simp only [lin, Bool.and_eq_true] at hl
    exact ⟨iha iv hl.1 hr, ihb iv hl.2 hr⟩
  | seq a b iha ihb =>
    intro pend l ρ h m s w env env' f iv hl hr
    unfold lin at hl
    split at hl
    · rename_i pend1 l1 h1
      refine Cmd.wp_mono a (fun x e u hp => ?_) (linS_snd iv h1 hr)
      obtain ⟨rfl, f', ρ1, h3, m1, s1, env1, iv1, hr1⟩ := hp
      exact ihb iv1 hl hr1
    · cases hl
  | _ =>
    intro pend l ρ h m s w env env' f iv hl hr
    exact linE_snd iv hl hr
theorem pairB_pw : ∀ {l : List Nat}, pairB l = true → l.Pairwise (· ≠ ·)
  | [], _ => .nil
  | a :: r, h => by
    simp only [pairB, Bool.and_eq_true] at h
    refine List.pairwise_cons.2 ⟨fun b hb e => ?_, pairB_pw h.2⟩
    have h1 : (r.any fun b => decide (a = b)) = true := List.any_eq_true.2 ⟨b, hb, by simp [e]⟩
    rw [h1] at h
    cases h.1
theorem als_mem : ∀ {l : List LA} {p : Pd}, p ∈ als l → p.d ∈ allWr l
  | [], p, h => by cases h
  | .al q :: r, p, h => by
    rcases List.mem_cons.1 h with rfl | h
    · exact List.mem_cons_self
    · exact List.mem_cons_of_mem _ (als_mem h)
  | .at c x :: r, p, h => List.mem_append_right _ (als_mem h)
theorem at_wr : ∀ {l : List LA} {c : Cmd} {x : XC}, LA.at c x ∈ l → ∀ i ∈ wr c, i ∈ allWr l
  | [], c, x, h, i, hi => by cases h
  | .al q :: r, c, x, h, i, hi => by
    rcases List.mem_cons.1 h with h | h
    · cases h
    · exact List.mem_cons_of_mem _ (at_wr h i hi)
  | .at c' x' :: r, c, x, h, i, hi => by
    rcases List.mem_cons.1 h with h | h
    · cases h; exact List.mem_append_left _ hi
    · exact List.mem_append_right _ (at_wr h i hi)
theorem free2_mem {ds l : List Nat} (h : free2 ds l = true) : ∀ d ∈ ds, d ∉ l := by
  intro d hd hm
  have h1 := List.all_eq_true.1 h d hd
  rw [any_mem.2 hm] at h1
  cases h1
theorem atsOk_mem {ds : List Nat} : ∀ {l : List LA}, atsOk ds l = true → ∀ c x, LA.at c x ∈ l → atomX x = true ∧ ∀ d ∈ ds, d ∉ wrX x ∧ d ∉ wr c
  | [], _, c, x, hm => by cases hm
  | .al q :: r, h, c, x, hm => by
    rcases List.mem_cons.1 hm with hm | hm
    · cases hm
    · exact atsOk_mem (l := r) h c x hm
  | .at c' x' :: r, h, c, x, hm => by
    simp only [atsOk, Bool.and_eq_true] at h
    rcases List.mem_cons.1 hm with hm | hm
    · cases hm
      exact ⟨h.1.1, fun d hd => ⟨free2_mem h.1.2.1 d hd, free2_mem h.1.2.2 d hd⟩⟩
    · exact atsOk_mem h.2 c x hm
theorem mkLA_at {E : TypeId → Option (TypeId × List Value)} {F : Cmd → Option XC} : ∀ {cs : List Cmd} {ds bad : List Nat} {j : Nat} {l : List LA}, mkLA E F ds bad j cs = some l → ∀ c x, LA.at c x ∈ l → F c = some x
  | [], ds, bad, j, l, h, c, x, hm => by
    obtain rfl := Option.some.inj h
    cases hm
  | c0 :: r, ds, bad, j, l, h, c, x, hm => by
    unfold mkLA at h
    split at h
    · split at h
      · split at h
        · rename_i l1 h1
          obtain rfl := Option.some.inj h
          rcases List.mem_cons.1 hm with hm | hm
          · cases hm
          · exact mkLA_at h1 c x hm
        · cases h
      · split at h
        · rename_i x0 l1 h0 h1
          obtain rfl := Option.some.inj h
          rcases List.mem_cons.1 hm with hm | hm
          · cases hm; exact h0
          · exact mkLA_at h1 c x hm
        · cases h
    · split at h
      · rename_i x0 l1 h0 h1
        obtain rfl := Option.some.inj h
        rcases List.mem_cons.1 hm with hm | hm
        · cases hm; exact h0
        · exact mkLA_at h1 c x hm
      · cases h
theorem mkLA_al {E : TypeId → Option (TypeId × List Value)} {F : Cmd → Option XC} : ∀ {cs : List Cmd} {ds bad : List Nat} {j : Nat} {l : List LA}, mkLA E F ds bad j cs = some l → ∀ p, LA.al p ∈ l → ∀ t l c, p.k = .mk t l c → E t = some (p.T, p.z)
  | [], ds, bad, j, l, h, p, hm => by
    obtain rfl := Option.some.inj h
    cases hm
  | c0 :: r, ds, bad, j, l, h, p, hm => by
    unfold mkLA at h
    split at h
    · rename_i a ha
      split at h
      · split at h
        · rename_i l1 h1
          obtain rfl := Option.some.inj h
          rcases List.mem_cons.1 hm with hm | hm
          · cases hm
            intro t l c hk
            unfold asAlloc at ha
            split at ha
            · obtain rfl := Option.some.inj ha; cases hk
            · obtain rfl := Option.some.inj ha; cases hk
            · split at ha
              · rename_i T z hE
                obtain rfl := Option.some.inj ha
                cases hk
                exact hE
              · cases ha
            · cases ha
          · exact mkLA_al h1 p hm
        · cases h
      · split at h
        · rename_i x0 l1 h0 h1
          obtain rfl := Option.some.inj h
          rcases List.mem_cons.1 hm with hm | hm
          · cases hm
          · exact mkLA_al h1 p hm
        · cases h
    · split at h
      · rename_i x0 l1 h0 h1
        obtain rfl := Option.some.inj h
        rcases List.mem_cons.1 hm with hm | hm
        · cases hm
        · exact mkLA_al h1 p hm
      · cases h
theorem als_al : ∀ {l : List LA} {p : Pd}, p ∈ als l → LA.al p ∈ l
  | [], p, h => by cases h
  | .al q :: r, p, h => by
    rcases List.mem_cons.1 h with rfl | h
    · exact List.mem_cons_self
    · exact List.mem_cons_of_mem _ (als_al h)
  | .at c x :: r, p, h => List.mem_cons_of_mem _ (als_al (l := r) h)
theorem leq_some {x y : Value} (h : (U2.bin .leq).ap x y = some (.bool true)) (hk : (∃ n, x = .int .i64 n) ∨ ∃ n, y = .int .i64 n) : ∃ a b, x = .int .i64 a ∧ y = .int .i64 b ∧ a ≤ b := by
  rcases hk with ⟨n, rfl⟩ | ⟨n, rfl⟩
  · cases y with
    | int k b =>
      have h' : (if IntKind.i64 = k then some (Value.bool (decide (n ≤ b))) else none) = some (.bool true) := h
      split at h'
      · rename_i e
        subst e
        injection h' with h'
        injection h' with h'
        exact ⟨n, b, rfl, rfl, of_decide_eq_true h'⟩
      · cases h'
    | _ => cases h
  · cases x with
    | int k a =>
      have h' : (if k = IntKind.i64 then some (Value.bool (decide (a ≤ n))) else none) = some (.bool true) := h
      split at h'
      · rename_i e
        subst e
        injection h' with h'
        injection h' with h'
        exact ⟨a, n, rfl, rfl, of_decide_eq_true h'⟩
      · cases h'
    | _ => cases h
theorem pick_true {a : Value} {b : Option Value} {v : Value} (h : pickV a b ((Ex.op1 .nn (.const (.bool true))).ev env w) = some v) : a = .bool true ∧ b = some v := by
  unfold pickV at h
  split at h
  · rename_i c
    cases c with
    | true => exact ⟨rfl, h⟩
    | false => cases h
  · cases h
theorem mkE_some {l c : Ex} {v : Value} (h : (mkE l c).ev env w = some v) : ∃ nl nc : Nat, l.ev env w = some (.int .i64 nl) ∧ c.ev env w = some (.int .i64 nc) ∧ nl ≤ nc ∧ nc ≤ 100000 := by
  have h0 : ((Ex.bin .leq l c).ev env w).bind (fun x => pickV x ((Ex.pick (.bin .leq c (.const (.int .i64 100000))) (.pick (.bin .leq (.const (.int .i64 0)) l) (.const (.bool true)) (.op1 .nn (.const (.bool true)))) (.op1 .nn (.const (.bool true)))).ev env w) ((Ex.op1 .nn (.const (.bool true))).ev env w)) = some v := h
  obtain ⟨x1, k1, k2⟩ := Option.bind_eq_some_iff.1 h0
  obtain ⟨rfl, k3⟩ := pick_true k2
  have h1 : ((Ex.bin .leq c (.const (.int .i64 100000))).ev env w).bind (fun x => pickV x ((Ex.pick (.bin .leq (.const (.int .i64 0)) l) (.const (.bool true)) (.op1 .nn (.const (.bool true)))).ev env w) ((Ex.op1 .nn (.const (.bool true))).ev env w)) = some v := k3
  obtain ⟨x2, k4, k5⟩ := Option.bind_eq_some_iff.1 h1
  obtain ⟨rfl, k6⟩ := pick_true k5
  have h2 : ((Ex.bin .leq (.const (.int .i64 0)) l).ev env w).bind (fun x => pickV x ((Ex.const (.bool true)).ev env w) ((Ex.op1 .nn (.const (.bool true))).ev env w)) = some v := k6
  obtain ⟨x3, k7, k8⟩ := Option.bind_eq_some_iff.1 h2
  obtain ⟨rfl, _⟩ := pick_true k8
  obtain ⟨u1, p1, p2⟩ := Option.bind_eq_some_iff.1 (show (l.ev env w).bind (fun u => (c.ev env w).bind fun v => (U2.bin .leq).ap u v) = some (.bool true) from k1)
  obtain ⟨u2, p3, p4⟩ := Option.bind_eq_some_iff.1 p2
  obtain ⟨u3, p5, p6⟩ := Option.bind_eq_some_iff.1 (show (c.ev env w).bind (fun u => (U2.bin .leq).ap u (.int .i64 100000)) = some (.bool true) from k4)
  obtain ⟨u4, p7, p8⟩ := Option.bind_eq_some_iff.1 (show (l.ev env w).bind (fun v => (U2.bin .leq).ap (.int .i64 0) v) = some (.bool true) from k7)
  rw [p3] at p5; obtain rfl := Option.some.inj p5
  rw [p1] at p7; obtain rfl := Option.some.inj p7
  obtain ⟨a, b, rfl, e1, h3⟩ := leq_some p6 (.inr ⟨_, rfl⟩)
  obtain ⟨a', b', e2, rfl, h4⟩ := leq_some p8 (.inl ⟨_, rfl⟩)
  obtain ⟨a2, b2, e3, e4, h5⟩ := leq_some p4 (.inl ⟨_, rfl⟩)
  cases e1; cases e2; cases e3; cases e4
  refine ⟨b'.toNat, a.toNat, ?_, ?_, by omega, by omega⟩
  · rw [p1, Int.toNat_of_nonneg h4]
  · rw [p3, Int.toNat_of_nonneg (by omega)]
theorem xes_each {h : HT} {env : Env} : ∀ {es : List Ex} {vs : List Value}, xes h env es = some vs → ∀ e ∈ es, ∃ v, xe h env e = some v
  | [], _, _, e, he => by cases he
  | a :: r, vs, hx, e, he => by
    obtain ⟨v, hv, hr1⟩ := orec_some (show (Option.rec none (fun v => Option.rec none (fun vs => some (v :: vs)) (xes h env r)) (xe h env a) : Option (List Value)) = some vs from hx)
    obtain ⟨us, hus, _⟩ := orec_some hr1
    rcases List.mem_cons.1 he with rfl | he
    · exact ⟨v, hv⟩
    · exact xes_each hus e he
theorem clr_und : ∀ (is : List Nat) (env : Env) (d : Nat), d ∈ is → ∀ u, (is.foldl (fun env i => env.set i undef) env)[d]? = some u → isUndef u = true
  | [], env, d, hd, u, hu => by cases hd
  | a :: r, env, d, hd, u, hu => by
    rw [List.foldl_cons] at hu
    by_cases hr : d ∈ r
    · exact clr_und r _ d hr u hu
    · rw [clr_keep r _ hr] at hu
      rcases List.mem_cons.1 hd with rfl | hd
      · rw [List.getElem?_set] at hu
        rw [if_pos rfl] at hu
        split at hu
        · obtain rfl := Option.some.inj hu; rfl
        · cases hu
      · exact absurd hd hr
theorem setAll_run : ∀ (ds : List Nat) {env : Env} {h : HT} {m s r : Nat} {xx : Exit} {env2 : Env} {h2 : HT} {m2 s2 r2 : Nat}, xcmd tab R (setAll ds) env h m s r = .st xx env2 h2 m2 s2 r2 → xx = .normal ∧ env2.length = env.length ∧ (∀ i, i ∉ ds → env2[i]? = env[i]?) ∧ h2 = h ∧ m2 = m ∧ s2 = s ∧ r2 = r
  | [], env, h, m, s, r, xx, env2, h2, m2, s2, r2, hr => by
    obtain ⟨rfl, rfl, rfl, rfl, rfl, rfl⟩ := st_inj (show XS.st .normal env h m s r = _ from hr)
    exact ⟨rfl, rfl, fun _ _ => rfl, rfl, rfl, rfl, rfl⟩
  | d :: ds, env, h, m, s, r, xx, env2, h2, m2, s2, r2, hr => by
    obtain ⟨x1, env1, h1, m1, s1, r1, g1, g2⟩ := xs_some (show (XS.rec .bad (hNext (xcmd tab R (setAll ds))) (setK env d (.bool true) fun env => XS.st .normal env h m s r) : XS) = _ from hr)
    rw [setK_eq] at g1
    obtain ⟨rfl, rfl, rfl, rfl, rfl, rfl⟩ := st_inj g1
    obtain ⟨a1, a2, a3, a4⟩ := setAll_run ds (show xcmd tab R (setAll ds) (env.set d (.bool true)) h m s r = _ from g2)
    refine ⟨a1, by rw [a2, List.length_set], fun i hi => ?_, a4⟩
    rw [a3 i (fun h => hi (List.mem_cons_of_mem _ h)), List.getElem?_set_ne (fun e => hi (by rw [e]; exact List.mem_cons_self))]
theorem clr_len : ∀ (l : List Nat) (env : Env), (l.foldl (fun env i => env.set i undef) env).length = env.length
  | [], _ => rfl
  | a :: r, env => by rw [List.foldl_cons, clr_len r, List.length_set]
def EOk (P : Program) (G : Nat) (E : TypeId → Option (TypeId × List Value)) : Prop := ∀ t T z, E t = some (T, z) → ∃ sz, elT P t = some (T, sz, z) ∧ z.all (conV G 8) = true
theorem elZ_ok (G : Nat) : EOk P G (elZ P G) := by
  intro t T z h
  unfold elZ at h
  split at h
  · rename_i e sz zl he
    obtain ⟨h1, h2⟩ := gd_some h
    cases h2
    exact ⟨_, he, h1⟩
  · cases h
theorem alt_snd {G : Nat} {wE : World} {E : TypeId → Option (TypeId × List Value)} {F : Cmd → Option XC} (hE : EOk P G E) (hF : ∀ c x, F c = some x → Snd P G wE tab R c x) (c : Cmd) (x : XC) (hx : altX G E F c = some x) : Snd P G wE tab R c x := by
  intro env h m s r xx env2 h2 m2 s2 r2 hr ρ w env' hs he
  unfold altX at hx
  split at hx
  · rename_i l0 hl0
    have hl : ∀ a, a ∈ l0.filter (dropC (als l0)) → a ∈ l0 := fun a ha => (List.mem_filter.1 ha).1
    revert hx hl
    generalize l0.filter (dropC (als l0)) = l
    intro hx hl
    simp only at hx
    split at hx
    · rename_i hc
      obtain rfl := Option.some.inj hx
      simp only [Bool.and_eq_true] at hc
      obtain ⟨c1, c2, c3, c4, c5⟩ := hc
      generalize hds : (als l).map (·.d) = ds at hr c1 c2 c4 c5
      obtain ⟨x1, env1, h1, m1, s1, r1, g1, g2⟩ := xs_some (show (XS.rec .bad (hNext (xcmd tab R (.seq (setAll ds) (.seq (.chk ((als l).map fun p => .var p.d)) (.seq (.clr ds) (.seq (.chk ((als l).flatMap (·.cks ds))) (chain l))))))) (fN (Nat.add m (als l).length) fun m' => XS.st .normal env h m' s m) : XS) = _ from hr)
      rw [fN_eq] at g1
      obtain ⟨rfl, rfl, rfl, rfl, rfl, rfl⟩ := st_inj g1
      obtain ⟨x1, env1, h1, m1, s1, r1, g3, g4⟩ := xs_some (show (XS.rec .bad (hNext (xcmd tab R (.seq (.chk ((als l).map fun p => .var p.d)) (.seq (.clr ds) (.seq (.chk ((als l).flatMap (·.cks ds))) (chain l)))))) (xcmd tab R (setAll ds) env h (m + (als l).length) s m) : XS) = _ from g2)
      obtain ⟨e0, b1, b2, e1, e2, e3, e4⟩ := setAll_run ds g3
      replace e1 := e1.symm; replace e2 := e2.symm; replace e3 := e3.symm; replace e4 := e4.symm
      subst e0; subst e1; subst e2; subst e3; subst e4
      obtain ⟨x1, env3, h1, m1, s1, r1, g5, g6⟩ := xs_some (show (XS.rec .bad (hNext (xcmd tab R (.seq (.clr ds) (.seq (.chk ((als l).flatMap (·.cks ds))) (chain l))))) (Option.rec .bad (fun _ => XS.st .normal env1 h (m + (als l).length) s m) (xes h env1 ((als l).map fun p => .var p.d))) : XS) = _ from g4)
      obtain ⟨vs0, g7, g8⟩ := os_some g5
      obtain ⟨rfl, rfl, rfl, rfl, rfl, rfl⟩ := st_inj g8
      obtain ⟨x1, env3, h1, m1, s1, r1, g9, g10⟩ := xs_some (show (XS.rec .bad (hNext (xcmd tab R (.seq (.chk ((als l).flatMap (·.cks ds))) (chain l)))) (xclr ds env1 fun env => XS.st .normal env h (m + (als l).length) s m) : XS) = _ from g6)
      rw [xclr_eq] at g9
      obtain ⟨rfl, rfl, rfl, rfl, rfl, rfl⟩ := st_inj g9
      generalize hv : (ds.foldl (fun env i => env.set i undef) env1) = envc at g10
      obtain ⟨x1, env3, h1, m1, s1, r1, g11, g12⟩ := xs_some (show (XS.rec .bad (hNext (xcmd tab R (chain l))) (xcmd tab R (.chk ((als l).flatMap (·.cks ds))) envc h (m + (als l).length) s m) : XS) = _ from g10)
      obtain ⟨vs, g13, g14⟩ := os_some (show (Option.rec .bad (fun _ => XS.st .normal envc h (m + (als l).length) s m) (xes h envc ((als l).flatMap (·.cks ds))) : XS) = _ from g11)
      obtain ⟨rfl, rfl, rfl, rfl, rfl, rfl⟩ := st_inj g14
      have hlen : envc.length = env.length := by rw [← hv, clr_len, b1]
      have hund : ∀ d ∈ ds, ∀ u, envc[d]? = some u → isUndef u = true := fun d hd u hu => clr_und ds env1 d hd u (by rw [hv]; exact hu)
      have heq : EnvQ ρ envc env' := by
        refine ⟨by rw [hlen]; exact he.1, fun i a b ha hb => ?_⟩
        by_cases hi : i ∈ ds
        · exact .inl (hund i hi a ha)
        · rw [← hv, clr_keep ds _ hi, b2 i hi] at ha
          exact he.2 i a b ha hb
      have hdl : ∀ d ∈ ds, d < env'.length := by
        intro d hd
        rw [← hds] at hd
        obtain ⟨p, hp, rfl⟩ := List.mem_map.1 hd
        obtain ⟨v, hv1⟩ := xes_each g7 (.var p.d) (List.mem_map.2 ⟨p, hp, rfl⟩)
        obtain ⟨u, hu, _⟩ := orec_some (show (Option.rec none (fun v => Bool.rec (some v) none (isUndef v)) (nth env1 p.d) : Option Value) = some v from hv1)
        rw [nth_eq] at hu
        have := (List.getElem?_eq_some_iff.1 hu).1
        rw [← he.1, ← b1]
        exact this
      have hs1 : HS G wE ρ h (m + (als l).length) s w := ⟨hs.kept, hs.fix, fun b hb => Nat.lt_of_lt_of_le (hs.dom b hb) (Nat.le_add_right _ _), hs.spos, hs.live, hs.own, hs.inj, hs.ext⟩
      have hall : ∀ p ∈ als l, p.okB G ds (allWr l) (als l).length = true := fun p hp => List.all_eq_true.1 c5 p hp
      have hckm : ∀ p ∈ als l, ∀ e ∈ p.cks ds, ∃ v, xe h envc e = some v := fun p hp e hep => xes_each g13 e (List.mem_flatMap.2 ⟨p, hp, hep⟩)
      have hmk : ∀ p ∈ als l, ∀ t l1 c1, p.k = .mk t l1 c1 → (l1.kc G = true ∧ c1.kc G = true ∧ l1.apart (allWr l) = true ∧ c1.apart (allWr l) = true) := by
        intro p hp t l1 c1 hk
        have := hall p hp
        unfold Pd.okB at this
        rw [hk] at this
        simp only [Bool.and_eq_true] at this
        exact ⟨this.2.2.2.1, this.2.2.2.2.1, this.2.2.2.2.2.1, this.2.2.2.2.2.2⟩
      have hth : ∀ p ∈ als l, p.e.kc G = true ∧ p.j < (als l).length ∧ ∃ e', thin ds p.e = some e' ∧ e'.kc G = true ∧ e'.apart (allWr l) = true := by
        intro p hp
        have := hall p hp
        unfold Pd.okB at this
        simp only [Bool.and_eq_true, decide_eq_true_eq] at this
        obtain ⟨t1, t2, t3, t4⟩ := this
        split at t2
        · rename_i e' he'
          exact ⟨t1, t3, e', he', thin_kc p.e he' t1, t2⟩
        · cases t2
      let o : Org := ⟨G, wE, m, allWr l, E, ds, als l, env', ρ, h, m, s, w⟩
      have og : OrgOk P o := by
        refine ⟨fun p hp => (hth p hp).1, fun p hp => ?_, fun p hp t l1 c1 hk => ?_, fun d hd => ?_, fun p hp => ?_, hE⟩
        · obtain ⟨_, _, e', t1, t2, t3⟩ := hth p hp
          obtain ⟨v, hv1⟩ := hckm p hp e' (by unfold Pd.cks; rw [t1]; exact List.mem_append_left _ (by simp))
          obtain ⟨v', k4, _⟩ := xe_vq hs1 heq e' t2 hv1
          exact ⟨e', t1, t3, v', k4⟩
        · obtain ⟨k1, k2, k3, k4⟩ := hmk p hp t l1 c1 hk
          obtain ⟨v, hv1⟩ := hckm p hp (mkE l1 c1) (by unfold Pd.cks; rw [hk]; exact List.mem_append_right _ (by simp))
          have hkc : (mkE l1 c1).kc G = true := by
            simp only [mkE, Ex.kc, k1, k2, conV, Bool.and_self, Bool.and_true]
          obtain ⟨v', k5, _⟩ := xe_vq hs1 heq (mkE l1 c1) hkc hv1
          obtain ⟨nl, nc, q1, q2, q3, q4⟩ := mkE_some k5
          exact ⟨k1, k2, k3, k4, mkLA_al hl0 p (hl _ (als_al hp)) t l1 c1 hk, nl, nc, q1, q2, q3, q4⟩
        · rw [show o.ds = ds from rfl, ← hds] at hd
          obtain ⟨p, hp, rfl⟩ := List.mem_map.1 hd
          exact als_mem hp
        · rw [show o.ds = ds from rfl, ← hds]
          exact List.mem_map.2 ⟨p, hp, rfl⟩
      have iv : OInv P tab R o (fun _ => 0) [] l ρ h (m + (als l).length) s w envc env' := by
        refine ⟨og, Nat.le_refl _, hs, hs1, heq, { Step.refl m ρ h m s w with mle := Nat.le_add_right _ _ }, (fun p hp => by cases hp), .nil, (fun p hp => by cases hp), (fun p hp => by cases hp), ?_, ?_, fun _ _ => rfl, fun p hp => hp, ?_, ?_, (fun p hp => by cases hp), ?_, hdl⟩
        · rw [← hds] at c4
          exact (List.pairwise_map.1 (pairB_pw c3)).and (List.pairwise_map.1 (pairB_pw c4))
        · intro p hp
          refine ⟨fun hD => ?_, Nat.add_lt_add_left (hth p hp).2.1 m⟩
          have : m + p.j < m := hs.dom _ hD
          omega
        · intro c x hcx
          obtain ⟨k1, k2⟩ := atsOk_mem c2 c x hcx
          exact ⟨hF c x (mkLA_at hl0 c x (hl _ hcx)), k1, at_wr hcx, k2⟩
        · intro p hp u hu
          exact hund p.d (by rw [← hds]; exact List.mem_map.2 ⟨p, hp, rfl⟩) u hu
        · intro d hd hn
          refine absurd (mem_unal.2 ?_) hn
          rw [show o.ds = ds from rfl, ← hds] at hd
          obtain ⟨p, hp, rfl⟩ := List.mem_map.1 hd
          exact ⟨p, hp, rfl, fun q hq => by cases hq⟩
      exact lin_snd (o := o) c iv c1 g12
    · cases hx
  · cases hx
end
end Go.Eng
