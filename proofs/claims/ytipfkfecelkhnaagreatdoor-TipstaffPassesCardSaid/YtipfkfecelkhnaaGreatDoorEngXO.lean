/- Engine, part XO: runs in stretches: a stretch ends in a state that is told; the next one begins there. -/
import Derived.Test.YtipfkfecelkhnaaGreatDoorEngXW
set_option linter.unusedSimpArgs false
set_option linter.unusedVariables false
set_option linter.unusedSectionVars false
namespace Go.Eng
noncomputable section
variable [Sy]
theorem HS.sub {G : Nat} {wE w : World} {ρ : Rho} {h1 h2 : HT} {m s : Nat} (hs : HS G wE ρ h2 m s w) (hsub : subH h1 h2 = true) : HS G wE ρ h1 m s w :=
  have g : ∀ {b o}, h1.get b = some o → h2.get b = some o := fun {b o} hb => subH_get h1 h2 hsub b o hb
  ⟨hs.kept, hs.fix, hs.dom, hs.spos, fun b o hb => hs.live b o (g hb), fun b o hb => hs.own b o (g hb), fun b b' o o' hb hb' => hs.inj b b' o o' (g hb) (g hb'), hs.ext⟩
theorem leEnv_at : ∀ {a b : Env}, leEnv a b = true → a.length = b.length ∧ ∀ (i : Nat) u, a[i]? = some u → isUndef u = true ∨ b[i]? = some u
  | [], [], _ => ⟨rfl, fun i u h => by simp at h⟩
  | u :: a, v :: b, h => by
    have h' : (leV u v && leEnv.all2N leV a b) = true := h
    simp only [Bool.and_eq_true] at h'
    obtain ⟨g1, g2⟩ := leEnv_at (a := a) (b := b) h'.2
    refine ⟨by simp [g1], fun i x hx => ?_⟩
    cases i with
    | zero =>
      simp at hx; subst hx
      have h1 := h'.1
      unfold leV at h1
      split at h1
      · rename_i e; exact .inl e
      · right; rw [eqW_eq 8 _ _ h1]; rfl
    | succ i => exact g2 i x (by simpa using hx)
  | [], _ :: _, h => by cases h
  | _ :: _, [], h => by cases h
/-- A state of the interpreter. -/
structure XSt where
  env : Env
  h : HT
  m : Nat
  s : Nat
/-- The world is as the state says. -/
def AtS (G : Nat) (wE : World) (st : XSt) (env' : Env) (w : World) : Prop := ∃ ρ, HS G wE ρ st.h st.m st.s w ∧ EnvQ ρ st.env env'
def beqX (x y : Exit) : Bool := match x, y with
  | .normal, .normal => true
  | .ret, .ret => true
  | .exit i, .exit j => Nat.beq i j
  | _, _ => false
theorem beqX_eq {x y : Exit} (h : beqX x y = true) : x = y := by
  cases x <;> cases y <;> first | rfl | (cases h; done) | rw [Nat.eq_of_beq_eq_true h]
/-- The stretch ends so, in this state (what isn't named of it is forgotten). -/
def endsX (xx : Exit) (st : XSt) (x : XS) : Bool := XS.rec false (fun y e g m' s' _ => Bool.rec false (Bool.rec false (Bool.rec false (Bool.rec false (Nat.beq st.s s') (Nat.beq st.m m')) (subH st.h g)) (leEnv st.env e)) (beqX xx y)) x
theorem endsX_some {xx : Exit} {st : XSt} {x : XS} (h : endsX xx st x = true) : ∃ e g r, x = .st xx e g st.m st.s r ∧ leEnv st.env e = true ∧ subH st.h g = true := by
  cases x with
  | bad => cases h
  | st y e g m' s' r =>
    have h' : (Bool.rec false (Bool.rec false (Bool.rec false (Bool.rec false (Nat.beq st.s s') (Nat.beq st.m m')) (subH st.h g)) (leEnv st.env e)) (beqX xx y) : Bool) = true := h
    cases h1 : beqX xx y with
    | false => rw [h1] at h'; cases h'
    | true =>
    cases h2 : leEnv st.env e with
    | false => rw [h1, h2] at h'; cases h'
    | true =>
    cases h3 : subH st.h g with
    | false => rw [h1, h2, h3] at h'; cases h'
    | true =>
    cases h4 : Nat.beq st.m m' with
    | false => rw [h1, h2, h3, h4] at h'; cases h'
    | true =>
    rw [h1, h2, h3, h4] at h'
    obtain rfl := beqX_eq h1
    obtain rfl := Nat.eq_of_beq_eq_true h4
    obtain rfl := Nat.eq_of_beq_eq_true (show Nat.beq st.s s' = true from h')
    exact ⟨e, g, r, rfl, h2, h3⟩
section
variable {P : Program} {G : Nat} {wE : World} {tab : XT} {R : CH}
theorem stretch {a : Cmd} {x : XC} (hsnd : Snd P G wE tab R a x) {st st' : XSt} {xx : Exit} (hr : endsX xx st' (xcmd tab R x st.env st.h st.m st.s 0) = true) {env' : Env} {w : World} (hat : AtS G wE st env' w) :
    a.wp P (fun y e u => y = xx ∧ AtS G wE st' e u) env' w := by
  obtain ⟨e, g, r, h1, h2, h3⟩ := endsX_some hr
  obtain ⟨ρ, hs, he⟩ := hat
  refine Cmd.wp_mono a (fun y e' u hp => ?_) (hsnd _ _ _ _ _ _ _ _ _ _ _ h1 ρ w env' hs he)
  obtain ⟨rfl, ρ2, k1, k2, _⟩ := hp
  obtain ⟨g1, g2⟩ := leEnv_at h2
  refine ⟨rfl, ρ2, k1.sub h3, by rw [g1]; exact k2.1, fun i u v hu hv => ?_⟩
  rcases g2 i u hu with hx | hx
  · exact .inl hx
  · exact k2.2 i u v hx hv
/-- A loop whose rounds are told one by one. -/
theorem wp_rounds {ks : List Nat} {a : Cmd} {Q : Exit → Env → World → Prop} {env : Env} {w : World} (S : Nat → Env → World → Prop) (N : Nat) (h0 : S 0 (mask ks env) w)
    (hstep : ∀ i, i < N → ∀ env w, S i env w → a.wp P (thenTo (fun env' w' => S (i + 1) (mask ks env') w') Q) env w)
    (hlast : ∀ env w, S N env w → a.wp P (thenTo (fun _ _ => False) Q) env w) : (Cmd.loop ks a).wp P Q env w := by
  refine ⟨fun env w => ∃ i, i ≤ N ∧ S i env w, fun env w => leastOf fun k => ∃ i, i ≤ N ∧ S i env w ∧ k = N - i, ⟨0, Nat.zero_le _, h0⟩, fun env w hI => ?_⟩
  have hex : ∃ k, ∃ i, i ≤ N ∧ S i env w ∧ k = N - i := by obtain ⟨i, h1, h2⟩ := hI; exact ⟨_, i, h1, h2, rfl⟩
  obtain ⟨i, h1, h2, h3⟩ := leastOf_mem hex
  by_cases hi : i < N
  · refine Cmd.wp_mono a (fun y e u hp => ?_) (hstep i hi env w h2)
    cases y with
    | normal =>
      have hp' : S (i + 1) (mask ks e) u := hp
      refine ⟨⟨i + 1, hi, hp'⟩, ?_⟩
      have := leastOf_le (p := fun k => ∃ i, i ≤ N ∧ S i (mask ks e) u ∧ k = N - i) (k := N - (i + 1)) ⟨i + 1, hi, hp', rfl⟩
      show (leastOf fun k => ∃ i, i ≤ N ∧ S i (mask ks e) u ∧ k = N - i) < leastOf fun k => ∃ i, i ≤ N ∧ S i env w ∧ k = N - i
      omega
    | _ => exact hp
  · obtain rfl : i = N := by omega
    refine Cmd.wp_mono a (fun y e u hp => ?_) (hlast env w h2)
    cases y with
    | normal => exact hp.elim
    | _ => exact hp
end
end
end Go.Eng
namespace Go.Eng
noncomputable section
/-- All blocks that a value names lie below M. -/
def belV (M : Nat) : Nat → Value → Bool
  | 0, _ => false
  | n + 1, v => match v with
    | .bool _ => true
    | .int _ _ => true
    | .string _ => true
    | .pointer none => true
    | .pointer (some a) => Nat.blt a.block M
    | .slice none _ _ => true
    | .slice (some a) _ _ => Nat.blt a.block M
    | .map none => true
    | .map (some b) => Nat.blt b M
    | .chan _ => true
    | .nilFunc => true
    | .nilIface => true
    | .func _ ⟨xs⟩ ⟨ys⟩ => xs.all (belV M n) && ys.all (belV M n)
    | .iface _ v => belV M n v
    | .agg ⟨xs⟩ => xs.all (belV M n)
    | .tuple ⟨xs⟩ => xs.all (belV M n)
    | _ => false
def Rho.cut (ρ : Rho) (M : Nat) : Rho := ⟨fun b => ρ.D b ∧ b < M, ρ.σ, ρ.Z⟩
variable [Sy]
theorem vq_cut {ρ : Rho} {M : Nat} : ∀ (n : Nat) {u v : Value}, belV M n u = true → VQ ρ u v → VQ (ρ.cut M) u v := by
  intro n
  induction n with
  | zero => intro u v h; cases h
  | succ n ih =>
    intro u v h hv
    have hl : ∀ {xs ys : Array Value}, xs.toList.all (belV M n) = true → (∀ (i : Nat) u v, xs[i]? = some u → ys[i]? = some v → VQ ρ u v) → ∀ (i : Nat) u v, xs[i]? = some u → ys[i]? = some v → VQ (ρ.cut M) u v :=
      fun {xs ys} hx hq i u v hu hv => ih (List.all_eq_true.1 hx u (by simpa using Array.mem_of_getElem? hu)) (hq i u v hu hv)
    cases hv with
    | ptr b o s hb => exact VQ.ptr (ρ := ρ.cut M) b o s ⟨hb, blt_true h⟩
    | slice b o s k c hb hc => exact VQ.slice (ρ := ρ.cut M) b o s k c ⟨hb, blt_true h⟩ hc
    | sliceU b o o' k c c' hb h1 h2 h3 h4 h5 => exact VQ.sliceU (ρ := ρ.cut M) b o o' k c c' ⟨hb, blt_true h⟩ h1 h2 h3 h4 h5
    | map b hb => exact VQ.map (ρ := ρ.cut M) b ⟨hb, blt_true h⟩
    | func f xs ys xs' ys' h1 h2 h3 h4 =>
      have h' : (xs.toList.all (belV M n) && ys.toList.all (belV M n)) = true := h
      simp only [Bool.and_eq_true] at h'
      exact .func _ _ _ _ _ h1 (hl h'.1 h2) h3 (hl h'.2 h4)
    | iface t u w h1 => exact .iface _ _ _ (ih h h1)
    | agg xs ys h1 h2 => exact .agg _ _ h1 (hl h h2)
    | tuple xs ys h1 h2 => exact .tuple _ _ h1 (hl h h2)
    | _ => constructor
def belXB (M : Nat) : XB → Bool
  | .cells c _ _ => c.all (belV M 8)
  | .map _ es _ => es.all fun e => belV M 8 e.2
/-- The memory lies below M, and names nothing else. (A subtree's j-th block is the a * j + c-th.) -/
def okH (M : Nat) : HT → Nat → Nat → Bool
  | .nil, _, _ => true
  | .node b l r, a, c => (match b with
    | none => true
    | some o => Nat.blt c M && belXB M o) && (okH M l (2 * a) (a + c) && okH M r (2 * a) (2 * a + c))
theorem okH_get {M : Nat} : ∀ (h : HT) (a c : Nat), okH M h a c = true → ∀ k o, h.get k = some o → a * k + c < M ∧ belXB M o = true := by
  intro h
  induction h with
  | nil => intro a c _ k o hk; cases hk
  | node b l r ihl ihr =>
    intro a c hok k o hk
    simp only [okH, Bool.and_eq_true] at hok
    cases k with
    | zero =>
      rw [HT.get_zero] at hk
      subst hk
      have h1 := hok.1
      simp only [Bool.and_eq_true] at h1
      exact ⟨by simpa using blt_true h1.1, h1.2⟩
    | succ p =>
      rw [HT.get_succ] at hk
      have e : p = 2 * (p / 2) + p % 2 := by omega
      cases e2 : Nat.beq (Nat.mod p 2) 0 with
      | true =>
        rw [e2] at hk
        have e3 : p % 2 = 0 := Nat.eq_of_beq_eq_true e2
        obtain ⟨h1, h2⟩ := ihl _ _ hok.2.1 _ _ hk
        refine ⟨?_, h2⟩
        have h1 : 2 * a * (p / 2) + (a + c) < M := h1
        have : a * (p + 1) + c = 2 * a * (p / 2) + (a + c) := by
          rw [show p = 2 * (p / 2) by omega]
          simp only [Nat.mul_add, Nat.mul_one]
          rw [show 2 * (p / 2) / 2 = p / 2 by omega, ← Nat.mul_assoc, Nat.mul_comm a 2]
          omega
        omega
      | false =>
        rw [e2] at hk
        have e3 : p % 2 = 1 := by
          rcases Nat.mod_two_eq_zero_or_one p with g | g
          · rw [show Nat.mod p 2 = 0 from g] at e2; cases e2
          · exact g
        obtain ⟨h1, h2⟩ := ihr _ _ hok.2.2 _ _ hk
        refine ⟨?_, h2⟩
        have h1 : 2 * a * (p / 2) + (2 * a + c) < M := h1
        have : a * (p + 1) + c = 2 * a * (p / 2) + (2 * a + c) := by
          rw [show p = 2 * (p / 2) + 1 by omega]
          simp only [Nat.mul_add, Nat.mul_one]
          rw [show (2 * (p / 2) + 1) / 2 = p / 2 by omega, ← Nat.mul_assoc, Nat.mul_comm a 2]
          omega
        omega
theorem HS.cut {G : Nat} {wE w : World} {ρ : Rho} {h : HT} {m s M : Nat} (hs : HS G wE ρ h m s w) (hG : G ≤ M) (hok : okH M h 1 0 = true) : HS G wE (ρ.cut M) h M s w := by
  have key : ∀ b o, h.get b = some o → b < M ∧ belXB M o = true := fun b o hb => by
    obtain ⟨h1, h2⟩ := okH_get h 1 0 hok b o hb
    exact ⟨by omega, h2⟩
  refine ⟨hs.kept, fun b hb => ⟨⟨(hs.fix b hb).1, Nat.lt_of_lt_of_le hb hG⟩, (hs.fix b hb).2⟩, fun b hb => hb.2, hs.spos, fun b o hb => ?_, hs.own, hs.inj, hs.ext⟩
  obtain ⟨g1, g2, g3⟩ := hs.live b o hb
  obtain ⟨k1, k2⟩ := key b o hb
  refine ⟨⟨g1, k1⟩, g2, ?_⟩
  cases o with
  | cells c T t =>
    obtain ⟨c', T', fz, q1, q2, q3, q4⟩ := g3
    exact ⟨c', T', fz, q1, q2, q3, q4.1, fun i u v hu hv => vq_cut 8 (List.all_eq_true.1 k2 u (List.mem_of_getElem? hu)) (q4.2 i u v hu hv)⟩
  | map k es t =>
    obtain ⟨ents, clock, q1, q2, q3⟩ := g3
    refine ⟨ents, clock, q1, ?_, q3⟩
    have k3 : es.all (fun e => belV M 8 e.2) = true := k2
    clear q1 q3 hb k2 g2
    generalize ents.toList = l at q2
    induction q2 with
    | nil => exact .nil
    | cons n u v b es l h1 _ ih =>
      simp only [List.all_cons, Bool.and_eq_true] at k3
      exact .cons n u v b es l (vq_cut 8 k3.1 h1) (ih k3.2)
theorem EnvQ.cut {ρ : Rho} {M : Nat} {env env' : Env} (he : EnvQ ρ env env') (hb : env.all (belV M 8) = true) : EnvQ (ρ.cut M) env env' :=
  ⟨he.1, fun i u v hu hv => (he.2 i u v hu hv).imp id fun h => vq_cut 8 (List.all_eq_true.1 hb u (List.mem_of_getElem? hu)) h⟩
/-! Stamps made anew. -/
def leS (s : Nat) : Option XB → Option XB → Bool
  | none, _ => true
  | some (.cells c _ t), some (.cells c' _ t') => all2 (eqW 8) c c' && (Nat.blt t s && (Nat.beq t 0 || !(Nat.beq t' 0)))
  | _, _ => false
def reH (s : Nat) : HT → HT → Bool
  | .nil, _ => true
  | .node b l r, .node b' l' r' => leS s b b' && (reH s l l' && reH s r r')
  | .node b l r, .nil => leS s b none && (reH s l .nil && reH s r .nil)
theorem leS_some {s : Nat} {o : XB} {y : Option XB} (h : leS s (some o) y = true) : ∃ c T T' t t', o = .cells c T t ∧ y = some (.cells c T' t') ∧ t < s ∧ (t ≠ 0 → t' ≠ 0) := by
  cases o with
  | map k es t => cases y <;> cases h
  | cells c T t =>
    cases y with
    | none => cases h
    | some o' =>
      cases o' with
      | map => cases h
      | cells c' T' t' =>
        simp only [leS, Bool.and_eq_true, Bool.or_eq_true, Bool.not_eq_true'] at h
        obtain ⟨h1, h2, h3⟩ := h
        obtain rfl := all2_eq (eqW_eq 8) _ _ h1
        refine ⟨c, T, T', t, t', rfl, rfl, blt_true h2, fun h4 h5 => ?_⟩
        rcases h3 with h3 | h3
        · exact h4 (Nat.eq_of_beq_eq_true h3)
        · rw [h5] at h3; cases h3
theorem reH_get {s : Nat} : ∀ (a b : HT), reH s a b = true → ∀ k o, a.get k = some o → leS s (some o) (b.get k) = true := by
  intro a
  induction a with
  | nil => intro b _ k o h; cases h
  | node x l r ihl ihr =>
    intro b hs k o h
    cases b with
    | nil =>
      simp only [reH, Bool.and_eq_true] at hs
      cases k with
      | zero => rw [HT.get_zero] at h; subst h; exact hs.1
      | succ p =>
        rw [HT.get_succ] at h
        cases e : Nat.beq (Nat.mod p 2) 0 with
        | true => rw [e] at h; exact (ihl .nil hs.2.1 (Nat.div p 2) o h : leS s (some o) none = true)
        | false => rw [e] at h; exact (ihr .nil hs.2.2 (Nat.div p 2) o h : leS s (some o) none = true)
    | node x' l' r' =>
      simp only [reH, Bool.and_eq_true] at hs
      cases k with
      | zero => rw [HT.get_zero] at h ⊢; subst h; exact hs.1
      | succ p =>
        rw [HT.get_succ] at h ⊢
        cases e : Nat.beq (Nat.mod p 2) 0 with
        | true => rw [e] at h; exact ihl l' hs.2.1 _ _ h
        | false => rw [e] at h; exact ihr r' hs.2.2 _ _ h
theorem HS.restamp {G : Nat} {wE w : World} {ρ : Rho} {h1 h2 : HT} {m s s1 : Nat} (hs : HS G wE ρ h2 m s w) (hre : reH s1 h1 h2 = true) (h0 : 0 < s1) : HS G wE ρ h1 m s1 w := by
  have key : ∀ b o, h1.get b = some o → ∃ c T T' t t', o = .cells c T t ∧ h2.get b = some (.cells c T' t') ∧ t < s1 ∧ (t ≠ 0 → t' ≠ 0) := fun b o hb => leS_some (reH_get h1 h2 hre b o hb)
  refine ⟨hs.kept, hs.fix, hs.dom, h0, fun b o hb => ?_, fun b o hb hz => ?_, fun b b' o o' hb hb' => ?_, hs.ext⟩
  · obtain ⟨c, T, T', t, t', rfl, g, k1, k2⟩ := key b o hb
    obtain ⟨g1, _, c', T2, fz, q1, q2, q3⟩ := hs.live b _ g
    exact ⟨g1, k1, c', T2, fz, q1, fun h => q2 (k2 h), q3⟩
  · obtain ⟨c, T, T', t, t', rfl, g, k1, k2⟩ := key b o hb
    exact hs.own b _ g (k2 hz)
  · obtain ⟨c, T, T', t, t', rfl, g, _⟩ := key b o hb
    obtain ⟨c2, T2, T2', t2, t2', rfl, g2, _⟩ := key b' o' hb'
    exact hs.inj b b' _ _ g g2
/-! From a state to one that keeps less, numbers stamps anew, and has its next block where it likes. -/
def nextB (G : Nat) (st st' : XSt) : Bool := Bool.rec false (Bool.rec false (Bool.rec false (Bool.rec false (Bool.rec false (Nat.blt 0 st'.s) (Nat.ble G st'.m)) (okH st'.m st'.h 1 0)) (st'.env.all (belV st'.m 8))) (reH st'.s st'.h st.h)) (leEnv st'.env st.env)
theorem rec_true {a b : Bool} (h : (Bool.rec false b a : Bool) = true) : a = true ∧ b = true := by
  cases a
  · cases h
  · exact ⟨rfl, h⟩
theorem AtS.next {G : Nat} {wE w : World} {st st' : XSt} {env' : Env} (hat : AtS G wE st env' w) (h : nextB G st st' = true) : AtS G wE st' env' w := by
  obtain ⟨h1, h⟩ := rec_true h
  obtain ⟨h2, h⟩ := rec_true h
  obtain ⟨h3, h⟩ := rec_true h
  obtain ⟨h4, h⟩ := rec_true h
  obtain ⟨h5, h6⟩ := rec_true h
  obtain ⟨ρ, hs, he⟩ := hat
  obtain ⟨g1, g2⟩ := leEnv_at h1
  refine ⟨ρ.cut st'.m, (hs.restamp h2 (blt_true h6)).cut (Nat.le_of_ble_eq_true h5) h4, EnvQ.cut ⟨by rw [g1]; exact he.1, fun i u v hu hv => ?_⟩ h3⟩
  rcases g2 i u hu with hx | hx
  · exact .inl hx
  · exact he.2 i u v hx hv
/-- The stretch ends so, in a state from which that one follows. -/
def endsN (G : Nat) (xx : Exit) (st : XSt) (x : XS) : Bool := XS.rec false (fun y e g m' s' _ => Bool.rec false (nextB G ⟨e, g, m', s'⟩ st) (beqX xx y)) x
theorem stretchN {P : Program} {G : Nat} {wE : World} {tab : XT} {R : CH} {a : Cmd} {x : XC} (hsnd : Snd P G wE tab R a x) {st st' : XSt} {xx : Exit} (hr : endsN G xx st' (xcmd tab R x st.env st.h st.m st.s 0) = true) {env' : Env} {w : World} (hat : AtS G wE st env' w) :
    a.wp P (fun y e u => y = xx ∧ AtS G wE st' e u) env' w := by
  obtain ⟨ρ, hs, he⟩ := hat
  cases hx : xcmd tab R x st.env st.h st.m st.s 0 with
  | bad => rw [hx] at hr; cases hr
  | st y e g m' s' r =>
    rw [hx] at hr
    obtain ⟨h1, h2⟩ := rec_true (show (Bool.rec false (nextB G ⟨e, g, m', s'⟩ st') (beqX xx y) : Bool) = true from hr)
    obtain rfl := beqX_eq h1
    refine Cmd.wp_mono a (fun z e' u hp => ?_) (hsnd _ _ _ _ _ _ _ _ _ _ _ hx ρ w env' hs he)
    obtain ⟨rfl, ρ2, k1, k2, _⟩ := hp
    exact ⟨rfl, AtS.next (st := ⟨e, g, m', s'⟩) ⟨ρ2, k1, k2⟩ h2⟩
end
end Go.Eng
namespace Go.Eng
noncomputable section
/-! The first items of a command, and the others. -/
def cutP : Nat → Cmd → Cmd
  | 0, _ => .skip
  | n + 1, .seq a b => .seq a (cutP n b)
  | _ + 1, c => c
def cutD : Nat → Cmd → Cmd
  | 0, c => c
  | n + 1, .seq _ b => cutD n b
  | _ + 1, _ => .skip
theorem wp_pre {P : Program} : ∀ (n : Nat) (c : Cmd) {Q : Exit → Env → World → Prop} {env : Env} {w : World}, (cutP n c).wp P (thenTo ((cutD n c).wp P Q) Q) env w → c.wp P Q env w := by
  intro n
  induction n with
  | zero => intro c Q env w h; exact h
  | succ n ih =>
    intro c Q env w h
    have base : c.wp P (thenTo (Cmd.skip.wp P Q) Q) env w → c.wp P Q env w := Cmd.wp_mono c fun x e u hq => by cases x <;> exact hq
    cases c with
    | seq a b =>
      refine Cmd.wp_mono a (fun x e u hq => ?_) (show a.wp P _ env w from h)
      cases x with
      | normal => exact ih b hq
      | _ => exact hq
    | _ => exact base h
variable [Sy]
theorem AtS.begin {G : Nat} {h : HT} {w : World} (hb : Begin G h w) (hK : Sy.K w) {vs vs' : List Value} (hv : symArgs vs vs') (V : List Nat) : AtS G w ⟨V.map fun t => (nth vs t).getD undef, h, G, 1⟩ (env0 V vs') w := by
  obtain ⟨ρ, hs⟩ := hb.hs hK
  exact ⟨ρ, hs, env0_q (symArgs_q hv) V⟩
/-- No slot but these has a value. -/
def maskB (ks : List Nat) : Nat → Env → Bool
  | _, [] => true
  | i, v :: r => (ks.contains i || isUndef v) && maskB ks (i + 1) r
theorem maskB_at {ks : List Nat} : ∀ {env : Env} {k : Nat}, maskB ks k env = true → ∀ (i : Nat) u, env[i]? = some u → ks.contains (k + i) = true ∨ isUndef u = true
  | [], _, _, i, u, h => by simp at h
  | v :: r, k, hm, i, u, h => by
    simp only [maskB, Bool.and_eq_true, Bool.or_eq_true] at hm
    cases i with
    | zero => simp at h; subst h; exact hm.1
    | succ i =>
      have := maskB_at hm.2 i u (by simpa using h)
      rw [show k + 1 + i = k + (i + 1) by omega] at this
      exact this
theorem AtS.mask {G : Nat} {wE w : World} {st : XSt} {env' : Env} {ks : List Nat} (hat : AtS G wE st env' w) (hm : maskB ks 0 st.env = true) : AtS G wE st (Go.Eng.mask ks env') w := by
  obtain ⟨ρ, hs, he⟩ := hat
  refine ⟨ρ, hs, by simp [Go.Eng.mask, he.1], fun i u v hu hv => ?_⟩
  simp only [Go.Eng.mask, List.getElem?_mapIdx, Option.map_eq_some_iff] at hv
  obtain ⟨v0, hv0, rfl⟩ := hv
  rcases maskB_at hm i u hu with h | h
  · rw [Nat.zero_add] at h
    simp only [h, if_true]
    exact he.2 i u v0 hu hv0
  · exact .inl h
theorem AtS.slot {G : Nat} {wE w : World} {st : XSt} {env' : Env} (hat : AtS G wE st env' w) {i : Nat} {u : Value} (hu : st.env[i]? = some u) (hp : isSy u = true) : env'[i]? = some (syV Sy.θ u) := by
  obtain ⟨ρ, hs, he⟩ := hat
  obtain ⟨v, h1, h2⟩ := he.at hu
  rw [h1]
  rcases h2 with h2 | h2
  · cases u <;> first | (cases hp; done) | (cases h2; done)
  · rw [sy_vq hp h2]
theorem sym_vq1 {ρ : Rho} {u : Value} (hp : isSy u = true) : VQ ρ u (syV Sy.θ u) := sym_vq (.inl ⟨hp, rfl⟩)
/-- A slot's value, said in another way. -/
theorem AtS.put {G : Nat} {wE w : World} {st : XSt} {env' : Env} (hat : AtS G wE st env' w) {i : Nat} {u x : Value} (hu : st.env[i]? = some u) (hp : isSy u = true) (hx : isSy x = true) (e : syV Sy.θ x = syV Sy.θ u) : AtS G wE ⟨st.env.set i x, st.h, st.m, st.s⟩ env' w := by
  have hv := hat.slot hu hp
  obtain ⟨ρ, hs, he⟩ := hat
  refine ⟨ρ, hs, by simp [he.1], fun j a b ha hb => ?_⟩
  rw [List.getElem?_set] at ha
  split at ha
  · rename_i hij
    subst hij
    split at ha
    · obtain rfl := Option.some.inj ha
      rw [hv] at hb
      obtain rfl := Option.some.inj hb
      right
      rw [← e]
      exact sym_vq1 hx
    · cases ha
  · exact he.2 j a b ha hb
/-- A stretch that returns. -/
def endsV (rs : List Ex) (v : Value) (x : XS) : Bool := XS.rec false (fun y e g _ _ _ => Bool.rec false (match xes g e rs with | some [u] => beqV 3 u v | _ => false) (beqX .ret y)) x
theorem stretchV {P : Program} {G : Nat} {wE : World} {tab : XT} {R : CH} {a : Cmd} {x : XC} (hsnd : Snd P G wE tab R a x) {st : XSt} {rs : List Ex} (hk : rs.all (·.kc G) = true) {v : Value} (hp : plainV v = true) (hr : endsV rs v (xcmd tab R x st.env st.h st.m st.s 0) = true) {env' : Env} {w : World} (hat : AtS G wE st env' w) :
    a.wp P (fun y e u => y = .ret ∧ Ok (evs e u rs) fun vs => resV vs = v ∧ Kept none' wE u) env' w := by
  obtain ⟨ρ, hs, he⟩ := hat
  cases hx : xcmd tab R x st.env st.h st.m st.s 0 with
  | bad => rw [hx] at hr; cases hr
  | st y e g m' s' r =>
    rw [hx] at hr
    obtain ⟨h1, h2⟩ := rec_true (show (Bool.rec false (match xes g e rs with | some [u] => beqV 3 u v | _ => false) (beqX .ret y) : Bool) = true from hr)
    obtain rfl := beqX_eq h1
    refine Cmd.wp_mono a (fun z e' u hq => ?_) (hsnd _ _ _ _ _ _ _ _ _ _ _ hx ρ w env' hs he)
    obtain ⟨rfl, ρ2, k1, k2, _⟩ := hq
    refine ⟨rfl, ?_⟩
    split at h2
    · rename_i u0 hu
      obtain ⟨rs', q1, q2⟩ := xes_vq k1 k2 rs hk hu
      rw [q1, Ok_some]
      obtain rfl := beqV_eq 3 _ _ h2
      match rs', q2 with
      | [z], q2 => exact ⟨vq_plain hp (q2.2 0 _ _ rfl rfl), k1.kept⟩
      | [], q2 => exact absurd q2.1 (by simp)
      | _ :: _ :: _, q2 => exact absurd q2.1 (by simp)
    · cases h2
/-! Blocks of other numbers. -/
def renV (ι : Nat → Nat) : Nat → Value → Value
  | 0, v => v
  | n + 1, v => match v with
    | .pointer (some ⟨b, o, s⟩) => .pointer (some ⟨ι b, o, s⟩)
    | .slice (some ⟨b, o, s⟩) k c => .slice (some ⟨ι b, o, s⟩) k c
    | .map (some b) => .map (some (ι b))
    | .func f ⟨xs⟩ ⟨ys⟩ => .func f ⟨xs.map (renV ι n)⟩ ⟨ys.map (renV ι n)⟩
    | .iface t v => .iface t (renV ι n v)
    | .agg ⟨xs⟩ => .agg ⟨xs.map (renV ι n)⟩
    | .tuple ⟨xs⟩ => .tuple ⟨xs.map (renV ι n)⟩
    | v => v
def Rho.ren (ρ : Rho) (ι : Nat → Nat) (M : Nat) : Rho := ⟨fun b => ρ.D (ι b) ∧ b < M, fun b => ρ.σ (ι b), fun b => ρ.Z (ι b)⟩
theorem vq_ren {ρ : Rho} {ι : Nat → Nat} {M : Nat} : ∀ (n : Nat) {u v : Value}, belV M n u = true → VQ ρ (renV ι n u) v → VQ (ρ.ren ι M) u v := by
  intro n
  induction n with
  | zero => intro u v h; cases h
  | succ n ih =>
    intro u v h hv
    have hl : ∀ {xs : List Value} {ys : Array Value}, xs.all (belV M n) = true → (∀ (i : Nat) u v, (xs.map (renV ι n)).toArray[i]? = some u → ys[i]? = some v → VQ ρ u v) → ∀ (i : Nat) u v, xs.toArray[i]? = some u → ys[i]? = some v → VQ (ρ.ren ι M) u v :=
      fun {xs ys} hx hq i u v hu hv => by
        have hu' : xs[i]? = some u := by simpa using hu
        exact ih (List.all_eq_true.1 hx u (List.mem_of_getElem? hu')) (hq i _ v (by simp [hu']) hv)
    cases u with
    | pointer a =>
      cases a with
      | none => have hv : VQ ρ (.pointer none) v := hv; cases hv; constructor
      | some a =>
        obtain ⟨b, o, s⟩ := a
        have hv : VQ ρ (.pointer (some ⟨ι b, o, s⟩)) v := hv
        cases hv with
        | ptr _ _ _ hb => exact VQ.ptr (ρ := ρ.ren ι M) b o s ⟨hb, blt_true h⟩
    | slice a k c =>
      cases a with
      | none => have hv : VQ ρ (.slice none k c) v := hv; cases hv; constructor
      | some a =>
        obtain ⟨b, o, s⟩ := a
        have hv : VQ ρ (.slice (some ⟨ι b, o, s⟩) k c) v := hv
        cases hv with
        | slice _ _ _ _ _ hb hc => exact VQ.slice (ρ := ρ.ren ι M) b o s k c ⟨hb, blt_true h⟩ hc
        | sliceU _ _ o' _ _ c' hb h1 h2 h3 h4 h5 => exact VQ.sliceU (ρ := ρ.ren ι M) b o o' k c c' ⟨hb, blt_true h⟩ h1 h2 h3 h4 h5
    | map a =>
      cases a with
      | none => have hv : VQ ρ (.map none) v := hv; cases hv; constructor
      | some b =>
        have hv : VQ ρ (.map (some (ι b))) v := hv
        cases hv with
        | map _ hb => exact VQ.map (ρ := ρ.ren ι M) b ⟨hb, blt_true h⟩
    | func f xs ys =>
      obtain ⟨xs⟩ := xs
      obtain ⟨ys⟩ := ys
      have hv : VQ ρ (.func f ⟨xs.map (renV ι n)⟩ ⟨ys.map (renV ι n)⟩) v := hv
      have h' : (xs.all (belV M n) && ys.all (belV M n)) = true := h
      simp only [Bool.and_eq_true] at h'
      cases hv with
      | func _ _ _ _ _ h1 h2 h3 h4 => exact .func _ _ _ _ _ (by simpa using h1) (hl h'.1 h2) (by simpa using h3) (hl h'.2 h4)
    | iface t u =>
      have hv : VQ ρ (.iface t (renV ι n u)) v := hv
      cases hv with
      | iface _ _ _ h1 => exact .iface _ _ _ (ih h h1)
    | agg xs =>
      obtain ⟨xs⟩ := xs
      have hv : VQ ρ (.agg ⟨xs.map (renV ι n)⟩) v := hv
      cases hv with
      | agg _ _ h1 h2 => exact .agg _ _ (by simpa using h1) (hl h h2)
    | tuple xs =>
      obtain ⟨xs⟩ := xs
      have hv : VQ ρ (.tuple ⟨xs.map (renV ι n)⟩) v := hv
      cases hv with
      | tuple _ _ h1 h2 => exact .tuple _ _ (by simpa using h1) (hl h h2)
    | bool b => have hv : VQ ρ (.bool b) v := hv; cases hv; constructor
    | int k i => have hv : VQ ρ (.int k i) v := hv; cases hv; constructor
    | string s => have hv : VQ ρ (.string s) v := hv; cases hv; constructor
    | chan a =>
      cases a with
      | none => have hv : VQ ρ (.chan none) v := hv; cases hv; constructor
      | some j => have hv : VQ ρ (.chan (some j)) v := hv; cases hv; constructor
    | nilFunc => have hv : VQ ρ .nilFunc v := hv; cases hv; constructor
    | nilIface => have hv : VQ ρ .nilIface v := hv; cases hv; constructor
    | _ => cases h
def allH (f : Nat → XB → Bool) : HT → Nat → Nat → Bool
  | .nil, _, _ => true
  | .node b l r, a, c => (match b with
    | none => true
    | some o => f c o) && (allH f l (2 * a) (a + c) && allH f r (2 * a) (2 * a + c))
theorem allH_get {f : Nat → XB → Bool} : ∀ (h : HT) (a c : Nat), allH f h a c = true → ∀ k o, h.get k = some o → f (a * k + c) o = true := by
  intro h
  induction h with
  | nil => intro a c _ k o hk; cases hk
  | node b l r ihl ihr =>
    intro a c hok k o hk
    simp only [allH, Bool.and_eq_true] at hok
    cases k with
    | zero =>
      rw [HT.get_zero] at hk
      subst hk
      have h1 := hok.1
      rw [Nat.mul_zero, Nat.zero_add]
      exact h1
    | succ p =>
      rw [HT.get_succ] at hk
      cases e2 : Nat.beq (Nat.mod p 2) 0 with
      | true =>
        rw [e2] at hk
        have e3 : p % 2 = 0 := Nat.eq_of_beq_eq_true e2
        have h1 : f (2 * a * (p / 2) + (a + c)) o = true := ihl _ _ hok.2.1 _ _ hk
        have : a * (p + 1) + c = 2 * a * (p / 2) + (a + c) := by
          rw [show p = 2 * (p / 2) by omega]
          simp only [Nat.mul_add, Nat.mul_one]
          rw [show 2 * (p / 2) / 2 = p / 2 by omega, ← Nat.mul_assoc, Nat.mul_comm a 2]
          omega
        rw [this]; exact h1
      | false =>
        rw [e2] at hk
        have e3 : p % 2 = 1 := by
          rcases Nat.mod_two_eq_zero_or_one p with g | g
          · rw [show Nat.mod p 2 = 0 from g] at e2; cases e2
          · exact g
        have h1 : f (2 * a * (p / 2) + (2 * a + c)) o = true := ihr _ _ hok.2.2 _ _ hk
        have : a * (p + 1) + c = 2 * a * (p / 2) + (2 * a + c) := by
          rw [show p = 2 * (p / 2) + 1 by omega]
          simp only [Nat.mul_add, Nat.mul_one]
          rw [show (2 * (p / 2) + 1) / 2 = p / 2 by omega, ← Nat.mul_assoc, Nat.mul_comm a 2]
          omega
        rw [this]; exact h1
/-- A new block (its cells, renamed, are the old one's), its stamp. -/
def renES (ι : Nat → Nat) (M : Nat) : List (Int × Value) → List (Int × Value) → Bool
  | [], [] => true
  | e :: r, e' :: r' => ieq e.1 e'.1 && (belV M 8 e.2 && (eqW 8 (renV ι 8 e.2) e'.2 && renES ι M r r'))
  | _, _ => false
def renCs (ι : Nat → Nat) (M : Nat) : List Value → List Value → Bool
  | [], _ => true
  | u :: r, u' :: r' => belV M 8 u && (eqW 8 (renV ι 8 u) u' && renCs ι M r r')
  | _, [] => false
theorem renCs_at {ι : Nat → Nat} {M : Nat} : ∀ {c c' : List Value}, renCs ι M c c' = true → c.length ≤ c'.length ∧ ∀ (i : Nat) u, c[i]? = some u → belV M 8 u = true ∧ c'[i]? = some (renV ι 8 u)
  | [], _, _ => ⟨Nat.zero_le _, fun i u h => by simp at h⟩
  | _ :: _, [], h => by cases h
  | u :: r, u' :: r', h => by
    simp only [renCs, Bool.and_eq_true] at h
    obtain ⟨h1, h2, h3⟩ := h
    obtain ⟨g1, g2⟩ := renCs_at h3
    refine ⟨by simp [g1], fun i x hx => ?_⟩
    cases i with
    | zero => simp at hx; subst hx; exact ⟨h1, by simp [eqW_eq 8 _ _ h2]⟩
    | succ i => exact g2 i x (by simpa using hx)
theorem renES_lm {ρ : Rho} {ι : Nat → Nat} {M : Nat} {k : IntKind} : ∀ {es es' : List (Int × Value)} {l : List MapEntry}, renES ι M es es' = true → LM ρ k es' l → LM (ρ.ren ι M) k es l
  | [], [], _, _, h => by cases h; exact .nil
  | [], _ :: _, _, h, _ => by cases h
  | _ :: _, [], _, h, _ => by cases h
  | (n, u) :: r, (n', u') :: r', _, h, hl => by
    simp only [renES, Bool.and_eq_true] at h
    obtain ⟨h1, h2, h3, h4⟩ := h
    cases hl with
    | cons _ _ v b _ l g1 g2 =>
      have e : n = n' := by rw [ieq_dec, decide_eq_true_iff] at h1; exact h1
      subst e
      refine .cons _ _ _ _ _ _ (vq_ren 8 h2 ?_) (renES_lm h4 g2)
      rw [eqW_eq 8 _ _ h3]
      exact g1
def renS (ι : Nat → Nat) (M s : Nat) (o o' : XB) : Bool := match o, o' with
  | .cells c _ t, .cells c' _ t' => renCs ι M c c' && (Nat.blt t s && (Nat.beq t 0 || !(Nat.beq t' 0)))
  | .map k es t, .map k' es' t' => Nat.beq (kix k) (kix k') && (renES ι M es es' && (Nat.blt t s && (Nat.beq t 0 || !(Nat.beq t' 0))))
  | _, _ => false
/-- The k-th block of the new memory is the old one's ι k-th. -/
def renB (ι π : Nat → Nat) (M s : Nat) (old : HT) (k : Nat) (o : XB) : Bool := Nat.blt k M && (Nat.beq (π (ι k)) k && (match old.get (ι k) with
  | some o' => renS ι M s o o'
  | none => false))
theorem or_stamp {t t' : Nat} (h : (Nat.beq t 0 || !(Nat.beq t' 0)) = true) : t ≠ 0 → t' ≠ 0 := fun h4 h5 => by
  simp only [Bool.or_eq_true, Bool.not_eq_true'] at h
  rcases h with h | h
  · exact h4 (Nat.eq_of_beq_eq_true h)
  · rw [h5] at h; cases h
theorem HS.ren {G : Nat} {wE w : World} {ρ : Rho} {h1 h2 : HT} {m s M s1 : Nat} {ι π : Nat → Nat} (hs : HS G wE ρ h2 m s w) (hG : G ≤ M) (hι : ∀ b, b < G → ι b = b) (h0 : 0 < s1) (hre : allH (renB ι π M s1 h2) h1 1 0 = true) : HS G wE (ρ.ren ι M) h1 M s1 w := by
  have key : ∀ b o, h1.get b = some o → b < M ∧ π (ι b) = b ∧ ∃ o', h2.get (ι b) = some o' ∧ renS ι M s1 o o' = true := fun b o hb => by
    have h := allH_get h1 1 0 hre b o hb
    rw [Nat.one_mul, Nat.add_zero] at h
    simp only [renB, Bool.and_eq_true] at h
    obtain ⟨g1, g2, g3⟩ := h
    refine ⟨blt_true g1, Nat.eq_of_beq_eq_true g2, ?_⟩
    split at g3
    · rename_i o' ho; exact ⟨o', ho, g3⟩
    · cases g3
  refine ⟨hs.kept, fun b hb => ?_, fun b hb => hb.2, h0, fun b o hb => ?_, fun b o hb hz => ?_, fun b b' o o' hb hb' e => ?_, hs.ext⟩
  · obtain ⟨g1, g2⟩ := hs.fix b hb
    refine ⟨⟨?_, Nat.lt_of_lt_of_le hb hG⟩, ?_⟩
    · show ρ.D (ι b); rw [hι b hb]; exact g1
    · show ρ.σ (ι b) = b; rw [hι b hb]; exact g2
  · obtain ⟨g1, g2, o', g3, g4⟩ := key b o hb
    obtain ⟨q1, _, q3⟩ := hs.live _ _ g3
    cases o with
    | cells c T t =>
      cases o' with
      | map => cases g4
      | cells c0 T0 t0 =>
        simp only [renS, Bool.and_eq_true] at g4
        obtain ⟨a1, a2, a3⟩ := g4
        obtain ⟨c', T2, fz, b1, b2, b3, b4⟩ := q3
        obtain ⟨r1, r2⟩ := renCs_at a1
        refine ⟨⟨q1, g1⟩, blt_true a2, c', T2, fz, b1, fun h => b2 (or_stamp a3 h), b3, Nat.le_trans r1 b4.1, fun i u v hu hv => ?_⟩
        obtain ⟨r3, r4⟩ := r2 i u hu
        exact vq_ren 8 r3 (b4.2 i _ v r4 hv)
    | map k es t =>
      cases o' with
      | cells => cases g4
      | map k' es' t' =>
        simp only [renS, Bool.and_eq_true] at g4
        obtain ⟨a0, a1, a2, a3⟩ := g4
        obtain rfl : k = k' := by
          have := Nat.eq_of_beq_eq_true a0
          cases k <;> cases k' <;> first | rfl | cases this
        obtain ⟨ents, clock, b1, b2, b3⟩ := q3
        exact ⟨⟨q1, g1⟩, blt_true a2, ents, clock, b1, renES_lm a1 b2, b3⟩
  · obtain ⟨g1, g2, o', g3, g4⟩ := key b o hb
    refine hs.own _ _ g3 ?_
    cases o with
    | cells c T t =>
      cases o' with
      | map => cases g4
      | cells c0 T0 t0 => simp only [renS, Bool.and_eq_true] at g4; exact or_stamp g4.2.2 hz
    | map k es t =>
      cases o' with
      | cells => cases g4
      | map k' es' t' => simp only [renS, Bool.and_eq_true] at g4; exact or_stamp g4.2.2.2 hz
  · obtain ⟨g1, g2, o1, g3, _⟩ := key b o hb
    obtain ⟨k1, k2, o2, k3, _⟩ := key b' o' hb'
    have := hs.inj _ _ _ _ g3 k3 e
    rw [← g2, ← k2, this]
def lk : List (Nat × Nat) → Nat → Nat
  | [], b => b
  | p :: r, b => match Nat.beq p.1 b with
    | true => p.2
    | false => lk r b
def idB (ι : Nat → Nat) : Nat → Bool
  | 0 => true
  | n + 1 => Nat.beq (ι n) n && idB ι n
theorem idB_at {ι : Nat → Nat} : ∀ {G : Nat}, idB ι G = true → ∀ b, b < G → ι b = b
  | 0, _, b, hb => by omega
  | n + 1, h, b, hb => by
    simp only [idB, Bool.and_eq_true] at h
    rcases Nat.lt_or_ge b n with g | g
    · exact idB_at h.2 b g
    · obtain rfl : b = n := by omega
      exact Nat.eq_of_beq_eq_true h.1
def renEnv (ι : Nat → Nat) (M : Nat) : Env → Env → Bool
  | [], [] => true
  | u :: r, u' :: r' => (isUndef u || (belV M 8 u && eqW 8 (renV ι 8 u) u')) && renEnv ι M r r'
  | _, _ => false
theorem renEnv_at {ι : Nat → Nat} {M : Nat} : ∀ {c c' : Env}, renEnv ι M c c' = true → c.length = c'.length ∧ ∀ (i : Nat) u, c[i]? = some u → isUndef u = true ∨ (belV M 8 u = true ∧ c'[i]? = some (renV ι 8 u))
  | [], [], _ => ⟨rfl, fun i u h => by simp at h⟩
  | _ :: _, [], h => by cases h
  | [], _ :: _, h => by cases h
  | u :: r, u' :: r', h => by
    simp only [renEnv, Bool.and_eq_true, Bool.or_eq_true] at h
    obtain ⟨h1, h3⟩ := h
    obtain ⟨g1, g2⟩ := renEnv_at h3
    refine ⟨by simp [g1], fun i x hx => ?_⟩
    cases i with
    | zero =>
      simp at hx; subst hx
      rcases h1 with h1 | ⟨h1, h2⟩
      · exact .inl h1
      · exact .inr ⟨h1, by simp [eqW_eq 8 _ _ h2]⟩
    | succ i => exact g2 i x (by simpa using hx)
theorem undef_ren {ι : Nat → Nat} {u : Value} (h : isUndef (renV ι 8 u) = true) : isUndef u = true := by
  cases u with
  | pointer a => cases a <;> exact h
  | slice a k c => cases a <;> exact h
  | map a => cases a <;> exact h
  | chan a => cases a <;> exact h
  | tuple xs =>
    obtain ⟨xs⟩ := xs
    cases xs with
    | nil => rfl
    | cons a r => exact h
  | agg xs => obtain ⟨xs⟩ := xs; exact h
  | func f xs ys => obtain ⟨xs⟩ := xs; obtain ⟨ys⟩ := ys; exact h
  | _ => exact h
/-- From a state to one whose blocks have other numbers (l: new and old), which keeps less. -/
def nextR (G : Nat) (l : List (Nat × Nat)) (st st' : XSt) : Bool := Bool.rec false (Bool.rec false (Bool.rec false (Bool.rec false (Nat.blt 0 st'.s) (Nat.ble G st'.m)) (idB (lk l) G)) (allH (renB (lk l) (lk (l.map fun p => (p.2, p.1))) st'.m st'.s st.h) st'.h 1 0)) (renEnv (lk l) st'.m st'.env st.env)
theorem AtS.nextR {G : Nat} {wE w : World} {l : List (Nat × Nat)} {st st' : XSt} {env' : Env} (hat : AtS G wE st env' w) (h : Go.Eng.nextR G l st st' = true) : AtS G wE st' env' w := by
  obtain ⟨h1, h⟩ := rec_true h
  obtain ⟨h2, h⟩ := rec_true h
  obtain ⟨h3, h⟩ := rec_true h
  obtain ⟨h4, h5⟩ := rec_true h
  obtain ⟨ρ, hs, he⟩ := hat
  obtain ⟨g1, g2⟩ := renEnv_at h1
  refine ⟨ρ.ren (lk l) st'.m, hs.ren (Nat.le_of_ble_eq_true h4) (idB_at h3) (blt_true h5) h2, by rw [g1]; exact he.1, fun i u v hu hv => ?_⟩
  rcases g2 i u hu with hx | ⟨hx, hy⟩
  · exact .inl hx
  · rcases he.2 i _ v hy hv with hz | hz
    · exact .inl (undef_ren hz)
    · exact .inr (vq_ren 8 hx hz)
def endsR (G : Nat) (l : List (Nat × Nat)) (xx : Exit) (st : XSt) (x : XS) : Bool := XS.rec false (fun y e g m' s' _ => Bool.rec false (nextR G l ⟨e, g, m', s'⟩ st) (beqX xx y)) x
theorem stretchR {P : Program} {G : Nat} {wE : World} {tab : XT} {R : CH} {a : Cmd} {x : XC} (hsnd : Snd P G wE tab R a x) {l : List (Nat × Nat)} {st st' : XSt} {xx : Exit} (hr : endsR G l xx st' (xcmd tab R x st.env st.h st.m st.s 0) = true) {env' : Env} {w : World} (hat : AtS G wE st env' w) :
    a.wp P (fun y e u => y = xx ∧ AtS G wE st' e u) env' w := by
  obtain ⟨ρ, hs, he⟩ := hat
  cases hx : xcmd tab R x st.env st.h st.m st.s 0 with
  | bad => rw [hx] at hr; cases hr
  | st y e g m' s' r =>
    rw [hx] at hr
    obtain ⟨h1, h2⟩ := rec_true (show (Bool.rec false (Go.Eng.nextR G l ⟨e, g, m', s'⟩ st') (beqX xx y) : Bool) = true from hr)
    obtain rfl := beqX_eq h1
    refine Cmd.wp_mono a (fun z e' u hp => ?_) (hsnd _ _ _ _ _ _ _ _ _ _ _ hx ρ w env' hs he)
    obtain ⟨rfl, ρ2, k1, k2, _⟩ := hp
    exact ⟨rfl, AtS.nextR (st := ⟨e, g, m', s'⟩) ⟨ρ2, k1, k2⟩ h2⟩
end
end Go.Eng
namespace Go.Eng
def neO (k : Nat) : Option Nat → Bool
  | none => true
  | some d => !(Nat.beq d k)
def noWr (k : Nat) : Cmd → Bool
  | .set i _ => !(Nat.beq i k)
  | .clr l => l.all fun i => !(Nat.beq i k)
  | .call d _ _ _ => neO k d
  | .dyn d _ _ _ => neO k d
  | .bi d _ _ _ _ _ => neO k d
  | .sem d _ _ _ => neO k d
  | .new d _ _ _ => neO k d
  | .row d _ _ _ _ => neO k d
  | .seq a b => noWr k a && noWr k b
  | .alt a b => noWr k a && noWr k b
  | .cond _ a b => noWr k a && noWr k b
  | .block _ a => noWr k a
  | .loop ks a => ks.contains k && noWr k a
  | _ => true
theorem ne_of {i k : Nat} (h : (!(Nat.beq i k)) = true) : i ≠ k := fun e => by
  subst e
  rw [Nat.beq_refl] at h
  cases h
theorem setO_ne {k : Nat} {d : Option Nat} (h : neO k d = true) (env : Env) (v : Value) : (setO d env v)[k]? = env[k]? :=
  setO_keep fun j hj e => by subst hj; exact ne_of h e.symm
theorem mask_at {ks : List Nat} {k : Nat} (h : ks.contains k = true) (env : Env) : (mask ks env)[k]? = env[k]? := by
  simp only [mask, List.getElem?_mapIdx, h, if_true]
  cases env[k]? <;> rfl
theorem wp_frame {P : Program} {k : Nat} : ∀ (c : Cmd), noWr k c = true → ∀ {Q : Exit → Env → World → Prop} {env : Env} {w : World}, c.wp P Q env w → c.wp P (fun y e u => Q y e u ∧ e[k]? = env[k]?) env w := by
  intro c
  induction c with
  | skip => intro _ Q env w hw; exact ⟨hw, rfl⟩
  | chk es => intro _ Q env w hw; obtain ⟨a, ha, hw⟩ := Ok_inv hw; simp only [Cmd.wp, ha, Ok_some]; exact ⟨hw, trivial⟩
  | set i e =>
    intro h Q env w hw
    obtain ⟨a, ha, hw⟩ := Ok_inv hw
    simp only [Cmd.wp, ha, Ok_some]
    exact ⟨hw, List.getElem?_set_ne (ne_of h)⟩
  | clr l =>
    intro h Q env w hw
    exact ⟨hw, clr_keep _ _ fun hk => ne_of (List.all_eq_true.1 h k hk) rfl⟩
  | draw => intro _ Q env w hw; exact ⟨hw, rfl⟩
  | call d f a st =>
    intro h Q env w hw
    obtain ⟨vs, hvs, hw⟩ := Ok_inv hw; simp only [Cmd.wp, hvs, Ok_some]
    exact hw.mono fun v w' q => ⟨q.1, q.2, setO_ne h _ _⟩
  | dyn d f a st =>
    intro h Q env w hw
    obtain ⟨fv, hfv, hw⟩ := Ok_inv hw; obtain ⟨vs, hvs, hw⟩ := Ok_inv hw; simp only [Cmd.wp, hfv, hvs, Ok_some]
    exact hw.mono fun v w' q => ⟨q.1, q.2, setO_ne h _ _⟩
  | bi d b ts ty a st =>
    intro h Q env w hw
    obtain ⟨vs, hvs, hw⟩ := Ok_inv hw; simp only [Cmd.wp, hvs, Ok_some]
    exact Result.to_mono hw fun v w' q => ⟨q.1, q.2, setO_ne h _ _⟩
  | sem d g a st =>
    intro h Q env w hw
    obtain ⟨vs, hvs, hw⟩ := Ok_inv hw; simp only [Cmd.wp, hvs, Ok_some]
    exact RunTo.mono hw fun v w' q => ⟨q.1, q.2, setO_ne h _ _⟩
  | die => intro _ Q env w hw; exact hw.elim
  | store n x v st =>
    intro _ Q env w hw
    obtain ⟨x, hx, hw⟩ := Ok_inv hw
    obtain ⟨v, hv, hw⟩ := Ok_inv hw
    obtain ⟨u, hu, hw⟩ := Ok_inv hw
    simp only [Cmd.wp, hx, hv, hu, Ok_some]
    exact ⟨hw.1, hw.2, trivial⟩
  | new d T e st =>
    intro h Q env w hw
    obtain ⟨a, ha, hw⟩ := Ok_inv hw; simp only [Cmd.wp, ha, Ok_some]
    exact ⟨hw, setO_ne h _ _⟩
  | row d T n e st =>
    intro h Q env w hw
    obtain ⟨a, ha, hw⟩ := Ok_inv hw; simp only [Cmd.wp, ha, Ok_some]
    exact ⟨hw, setO_ne h _ _⟩
  | seq a b iha ihb =>
    intro h Q env w hw
    simp only [noWr, Bool.and_eq_true] at h
    refine Cmd.wp_mono a (fun y e u hq => ?_) (iha h.1 (show a.wp P _ env w from hw))
    obtain ⟨h1, h2⟩ := hq
    cases y with
    | normal => exact Cmd.wp_mono b (fun y e' u' hq => ⟨hq.1, hq.2.trans h2⟩) (ihb h.2 (show b.wp P Q e u from h1))
    | _ => exact ⟨h1, h2⟩
  | alt a b iha ihb =>
    intro h Q env w hw
    simp only [noWr, Bool.and_eq_true] at h
    exact ⟨iha h.1 hw.1, ihb h.2 hw.2⟩
  | cond e a b iha ihb =>
    intro h Q env w hw
    simp only [noWr, Bool.and_eq_true] at h
    obtain ⟨v, hv, hw⟩ := Ok_inv hw
    simp only [Cmd.wp, hv, Ok_some]
    cases v <;> try (exact hw.elim)
    rename_i t
    cases t with
    | true => exact iha h.1 hw
    | false => exact ihb h.2 hw
  | block id a iha =>
    intro h Q env w hw
    refine Cmd.wp_mono a (fun y e u hq => ?_) (iha h (show a.wp P _ env w from hw))
    obtain ⟨h1, h2⟩ := hq
    cases y with
    | exit i =>
      simp only [blockTo] at h1 ⊢
      split
      · rename_i hi; rw [if_pos hi] at h1; exact ⟨h1, h2⟩
      · rename_i hi; rw [if_neg hi] at h1; exact ⟨h1, h2⟩
    | _ => exact ⟨h1, h2⟩
  | loop ks a iha =>
    intro h Q env w hw
    simp only [noWr, Bool.and_eq_true] at h
    obtain ⟨I, m, h0, hs⟩ := hw
    refine ⟨fun e u => I e u ∧ e[k]? = env[k]?, m, ⟨h0, mask_at h.1 env⟩, fun e u hI => ?_⟩
    refine Cmd.wp_mono a (fun y e' u' hq => ?_) (iha h.2 (hs e u hI.1))
    obtain ⟨h1, h2⟩ := hq
    cases y with
    | normal =>
      have h1 : I (mask ks e') u' ∧ m (mask ks e') u' < m e u := h1
      exact ⟨⟨h1.1, (mask_at h.1 e').trans (h2.trans hI.2)⟩, h1.2⟩
    | _ => exact ⟨h1, h2.trans hI.2⟩
  | exit id => intro _ Q env w hw; exact ⟨hw, rfl⟩
  | ret => intro _ Q env w hw; exact ⟨hw, rfl⟩
noncomputable section
variable [Sy]
theorem AtS.kept {G : Nat} {wE w : World} {st : XSt} {env' : Env} (hat : AtS G wE st env' w) : Kept none' wE w := by
  obtain ⟨ρ, hs, _⟩ := hat
  exact hs.kept
theorem AtS.length {G : Nat} {wE w : World} {st : XSt} {env' : Env} (hat : AtS G wE st env' w) : st.env.length = env'.length := by
  obtain ⟨ρ, _, he⟩ := hat
  exact he.1
/-- A slot is set to what a symbol, or a plain value, stands for. -/
theorem AtS.setS {G : Nat} {wE w : World} {st : XSt} {env' : Env} (hat : AtS G wE st env' w) (i : Nat) {u : Value} (hp : isSy u = true) : AtS G wE ⟨st.env.set i u, st.h, st.m, st.s⟩ (env'.set i (syV Sy.θ u)) w := by
  obtain ⟨ρ, hs, he⟩ := hat
  exact ⟨ρ, hs, he.set' i (.inr (sym_vq1 hp))⟩
/-- A slot has just this value (of which the state said nothing). -/
theorem AtS.known {G : Nat} {wE w : World} {st : XSt} {env' : Env} (hat : AtS G wE st env' w) {i : Nat} {u v : Value} (hp : isSy u = true) (hv : env'[i]? = some v) (e : v = syV Sy.θ u) : AtS G wE ⟨st.env.set i u, st.h, st.m, st.s⟩ env' w := by
  obtain ⟨ρ, hs, he⟩ := hat
  refine ⟨ρ, hs, by simp [he.1], fun j a b ha hb => ?_⟩
  rw [List.getElem?_set] at ha
  split at ha
  · rename_i hij
    subst hij
    split at ha
    · obtain rfl := Option.some.inj ha
      rw [hv] at hb
      obtain rfl := Option.some.inj hb
      rw [e]
      exact .inr (sym_vq1 hp)
    · cases ha
  · exact he.2 j a b ha hb
end
end Go.Eng
