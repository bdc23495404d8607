/- Engine, part XH: what a stretch of a run leaves as it was; how the memory grows and is written to. -/
import Derived.Test.YtkgpmjjleemdlaaGreatEngXG
set_option linter.unusedSimpArgs false
set_option linter.unusedVariables false
set_option linter.unusedSectionVars false
namespace Go.Eng
variable [Sy]

/-- From one state to a later one. mm: new blocks' numbers begin there. -/
structure Step (mm : Nat) (ρ ρ' : Rho) (h h' : HT) (m m' s s' : Nat) (w w' : World) : Prop where
  le : ρ.Le ρ'
  new : ∀ b, ρ'.D b → ρ.D b ∨ mm ≤ b
  mle : m ≤ m'
  sle : s ≤ s'
  size : w.heap.size ≤ w'.heap.size
  mono : ∀ b o', h'.get b = some o' → ρ.D b → ∃ o, h.get b = some o ∧ (o'.stamp = o.stamp ∨ s ≤ o'.stamp)
  same : ∀ b o o', h.get b = some o → h'.get b = some o' → o.stamp = o'.stamp → w'.heap[ρ.σ b]? = w.heap[ρ.σ b]?
  out : ∀ p, p < w.heap.size → (∀ b o, h.get b = some o → ρ.σ b ≠ p) → w'.heap[p]? = w.heap[p]?
  img : ∀ b o, h'.get b = some o → w.heap.size ≤ ρ'.σ b ∨ ∃ b0 o0, h.get b0 = some o0 ∧ ρ.σ b0 = ρ'.σ b
theorem Step.refl (mm : Nat) (ρ : Rho) (h : HT) (m s : Nat) (w : World) : Step mm ρ ρ h h m m s s w w :=
  ⟨.refl ρ, fun b hb => .inl hb, Nat.le_refl _, Nat.le_refl _, Nat.le_refl _, fun b o ho _ => ⟨o, ho, .inl rfl⟩, fun _ _ _ _ _ _ => rfl, fun _ _ _ => rfl, fun b o ho => .inr ⟨b, o, ho, rfl⟩⟩
theorem Step.weak {mm mm' : Nat} {ρ ρ' : Rho} {h h' : HT} {m m' s s' : Nat} {w w' : World} (hm : mm' ≤ mm) (a : Step mm ρ ρ' h h' m m' s s' w w') : Step mm' ρ ρ' h h' m m' s s' w w' :=
  { a with new := fun b hb => (a.new b hb).imp id fun h => Nat.le_trans hm h }
section
variable {G : Nat} {wE : World}
theorem Step.trans {mm : Nat} {ρ ρ1 ρ2 : Rho} {h h1 h2 : HT} {m m1 m2 s s1 s2 : Nat} {w w1 w2 : World} (hs : HS G wE ρ h m s w) (a : Step mm ρ ρ1 h h1 m m1 s s1 w w1) (b : Step mm ρ1 ρ2 h1 h2 m1 m2 s1 s2 w1 w2) : Step mm ρ ρ2 h h2 m m2 s s2 w w2 where
  le := a.le.trans b.le
  new := fun x hx => by
    rcases b.new x hx with h | h
    · exact a.new x h
    · exact .inr h
  mle := Nat.le_trans a.mle b.mle
  sle := Nat.le_trans a.sle b.sle
  size := Nat.le_trans a.size b.size
  mono := fun x o2 h2 hx => by
    obtain ⟨o1, g1, g2⟩ := b.mono x o2 h2 (a.le.D x hx)
    obtain ⟨o, g3, g4⟩ := a.mono x o1 g1 hx
    refine ⟨o, g3, ?_⟩
    have := a.sle
    rcases g2 with g2 | g2
    · rcases g4 with g4 | g4
      · exact .inl (g2.trans g4)
      · exact .inr (by omega)
    · exact .inr (by omega)
  same := fun x o o2 h0 h2 e => by
    obtain ⟨hx, hlt, _⟩ := hs.live x o h0
    obtain ⟨o1, g1, g2⟩ := b.mono x o2 h2 (a.le.D x hx)
    have := a.sle
    have e1 : o2.stamp = o1.stamp := by
      rcases g2 with g2 | g2
      · exact g2
      · omega
    have r1 := a.same x o o1 h0 g1 (e.trans e1)
    have r2 := b.same x o1 o2 g1 h2 e1.symm
    rw [a.le.σ x hx] at r2
    exact r2.trans r1
  out := fun p hp hn => by
    refine (b.out p (Nat.lt_of_lt_of_le hp a.size) fun x o hx e => ?_).trans (a.out p hp hn)
    rcases a.img x o hx with g | ⟨b0, o0, g1, g2⟩
    · omega
    · exact hn b0 o0 g1 (g2.trans e)
  img := fun x o hx => by
    rcases b.img x o hx with g | ⟨b0, o0, g1, g2⟩
    · exact .inl (Nat.le_trans a.size g)
    · rcases a.img b0 o0 g1 with g | ⟨b1, o1, g3, g4⟩
      · exact .inl (by rw [← g2]; exact g)
      · exact .inr ⟨b1, o1, g3, g4.trans g2⟩

theorem BlkR.mono {ρ ρ' : Rho} {b : Nat} {w w' : World} {o : XB} (hr : ρ.Le ρ') (hb : ρ.D b) (hw : w'.heap[ρ.σ b]? = w.heap[ρ.σ b]?) (h : BlkR ρ b w o) : BlkR ρ' b w' o := by
  cases o with
  | cells c T t =>
    obtain ⟨c', T', fz, h1, h0, h2, h3⟩ := h
    exact ⟨c', T', fz, by rw [hr.σ b hb, hw]; exact h1, h0, by rw [hr.Z b hb]; exact h2, h3.mono hr⟩
  | map k es t =>
    obtain ⟨ents, clock, h1, h2⟩ := h
    exact ⟨ents, clock, by rw [hr.σ b hb, hw]; exact h1, h2.1.mono hr, h2.2⟩
theorem HS.blk {ρ : Rho} {h : HT} {m s : Nat} {w : World} (hs : HS G wE ρ h m s w) {b : Nat} {o : XB} (hb : h.get b = some o) : ρ.σ b < w.heap.size := by
  have := (hs.live b o hb).2.2
  cases o with
  | cells c T t => obtain ⟨c', T', fz, h1, _⟩ := this; exact blk_lt h1
  | map k es t => obtain ⟨ents, clock, h1, _⟩ := this; exact blk_lt h1

/-- The world grows or turns where the memory doesn't lie. -/
structure Off (w w' : World) (S : Nat → Prop) : Prop where
  os : w'.os = w.os
  tape : w'.tape = w.tape
  output : w'.output = w.output
  size : w.heap.size ≤ w'.heap.size
  block : ∀ p, p < w.heap.size → ¬ S p → w'.heap[p]? = w.heap[p]?
theorem Off.refl (w : World) (S : Nat → Prop) : Off w w S := ⟨rfl, rfl, rfl, Nat.le_refl _, fun _ _ _ => rfl⟩
theorem Off.drew (w : World) (S : Nat → Prop) : Off w w.drew S := ⟨rfl, rfl, rfl, Nat.le_refl _, fun _ _ _ => rfl⟩
theorem Off.alloc (w : World) (o : Obj) (S : Nat → Prop) : Off w (w.alloc o) S := by
  have := (Kept.refl none' w).alloc o
  exact ⟨this.os, this.tape, this.output, this.size, fun p hp _ => this.block p hp fun h => h⟩
theorem Off.of_kept {S : Nat → Prop} {w w' : World} (h : Kept S w w') : Off w w' S := ⟨h.os, h.tape, h.output, h.size, h.block⟩

section
variable {mm : Nat} {ρ0 ρ : Rho} {h0 h : HT} {m0 m s0 s : Nat} {w0 w w' : World}
/-- The world turns outside of the memory. -/
theorem HS.off {S : Nat → Prop} (hs : HS G wE ρ h m s w) (hw : Off w w' S) (hS : ∀ b o, h.get b = some o → ¬ S (ρ.σ b)) (hE : ∀ p, p < wE.heap.size → ¬ S p) : HS G wE ρ h m s w' where
  kept := hs.kept.then ⟨hw.os, hw.tape, hw.output, hw.size, hw.block⟩ fun i hi hi' => hE i hi hi'
  fix := hs.fix
  dom := hs.dom
  spos := hs.spos
  live := fun b o hb => ⟨(hs.live b o hb).1, (hs.live b o hb).2.1, (hs.live b o hb).2.2.mono (.refl ρ) (hs.live b o hb).1 (hw.block _ (hs.blk hb) (hS b o hb))⟩
  own := hs.own
  inj := hs.inj
  ext := hs.ext
theorem Step.off {S : Nat → Prop} (hs0 : HS G wE ρ0 h0 m0 s0 w0) (hs : HS G wE ρ h m s w) (st : Step mm ρ0 ρ h0 h m0 m s0 s w0 w) (hw : Off w w' S) (hS : ∀ b o, h.get b = some o → ¬ S (ρ.σ b))
    (hS0 : ∀ p, S p → p < w0.heap.size → ∃ b o, h0.get b = some o ∧ ρ0.σ b = p) : Step mm ρ0 ρ h0 h m0 m s0 s w0 w' :=
  { st with
    size := Nat.le_trans st.size hw.size
    same := fun b o o' ho ho' e => by
      rw [← st.same b o o' ho ho' e]
      have hb := (hs0.live b o ho).1
      rw [← st.le.σ b hb]
      exact hw.block _ (hs.blk ho') (hS b o' ho')
    out := fun p hp hn => by
      rw [← st.out p hp hn]
      refine hw.block p (Nat.lt_of_lt_of_le hp st.size) fun hp' => ?_
      obtain ⟨b, o, g1, g2⟩ := hS0 p hp' hp
      exact hn b o g1 g2 }

/-- A block is forgotten. -/
theorem HS.drop (hs : HS G wE ρ h m s w) (k : Nat) : HS G wE ρ (h.set k none) m s w := by
  have old : ∀ b o, (h.set k none).get b = some o → h.get b = some o := by
    intro b o hb
    by_cases e : b = k
    · subst e; cases HT.get_same hb
    · rwa [HT.get_other _ _ e] at hb
  exact ⟨hs.kept, hs.fix, hs.dom, hs.spos, fun b o hb => hs.live b o (old b o hb), fun b o hb => hs.own b o (old b o hb), fun b b' o o' hb hb' => hs.inj b b' o o' (old b o hb) (old b' o' hb'), hs.ext⟩
theorem Step.drop (st : Step mm ρ0 ρ h0 h m0 m s0 s w0 w) (k : Nat) : Step mm ρ0 ρ h0 (h.set k none) m0 m s0 s w0 w := by
  have old : ∀ b o, (h.set k none).get b = some o → h.get b = some o := by
    intro b o hb
    by_cases e : b = k
    · subst e; cases HT.get_same hb
    · rwa [HT.get_other _ _ e] at hb
  exact { st with
    mono := fun b o hb => st.mono b o (old b o hb)
    same := fun b o o' ho ho' => st.same b o o' ho (old b o' ho')
    img := fun b o hb => st.img b o (old b o hb) }

/-- A number is given to a block of the world. -/
def Rho.bind (ρ : Rho) (k p z : Nat) : Rho := ⟨fun b => ρ.D b ∨ b = k, fun b => if b = k then p else ρ.σ b, fun b => if b = k then z else ρ.Z b⟩
theorem Rho.bind_σ (ρ : Rho) (k p z : Nat) : (ρ.bind k p z).σ k = p := if_pos rfl
theorem Rho.bind_Z (ρ : Rho) (k p z : Nat) : (ρ.bind k p z).Z k = z := if_pos rfl
theorem Rho.bind_D (ρ : Rho) (k p z : Nat) : (ρ.bind k p z).D k := .inr rfl
theorem Rho.le_bind {ρ : Rho} {k : Nat} (hk : ¬ ρ.D k) (p z : Nat) : ρ.Le (ρ.bind k p z) := by
  have ne : ∀ b, ρ.D b → b ≠ k := fun b hb e => hk (e ▸ hb)
  exact ⟨fun b hb => .inl hb, fun b hb => if_neg (ne b hb), fun b hb => if_neg (ne b hb)⟩
theorem HS.bindO (hs : HS G wE ρ h m s w) {k p m' z : Nat} (hk : ¬ ρ.D k) (hkm : k < m') (hm : m ≤ m') (hp : wE.heap.size ≤ p) (hi : ∀ b o, h.get b = some o → ρ.σ b ≠ p)
    {o1 : XB} (h1 : o1.stamp ≤ s) (hb : BlkR (ρ.bind k p z) k w o1) : HS G wE (ρ.bind k p z) (h.set k (some o1)) m' (s + 1) w := by
  have le := Rho.le_bind hk p z
  have hσ : ∀ b, ρ.D b → (ρ.bind k p z).σ b = ρ.σ b := le.σ
  have old : ∀ b o, (h.set k (some o1)).get b = some o → (b = k ∧ o = o1) ∨ (b ≠ k ∧ h.get b = some o) := by
    intro b o hb
    by_cases e : b = k
    · subst e; exact .inl ⟨rfl, (Option.some.inj (HT.get_same hb)).symm⟩
    · rw [HT.get_other _ _ e] at hb; exact .inr ⟨e, hb⟩
  refine ⟨hs.kept, fun b hb => ?_, fun b hb => ?_, by omega, fun b o ho => ?_, fun b o ho hz => ?_, fun b b' o o' ho ho' e => ?_, hs.ext⟩
  · obtain ⟨h1, h2⟩ := hs.fix b hb
    exact ⟨le.D b h1, by rw [hσ b h1]; exact h2⟩
  · rcases hb with hb | hb
    · have := hs.dom b hb; omega
    · omega
  · rcases old b o ho with ⟨e1, e2⟩ | ⟨hne, ho⟩
    · rw [e1, e2]
      exact ⟨Rho.bind_D _ _ _ _, by omega, hb⟩
    · obtain ⟨g1, g2, g3⟩ := hs.live b o ho
      exact ⟨le.D b g1, by omega, g3.mono le g1 rfl⟩
  · rcases old b o ho with ⟨e1, e2⟩ | ⟨hne, ho⟩
    · rw [e1, Rho.bind_σ]; exact hp
    · rw [hσ b (hs.live b o ho).1]; exact hs.own b o ho hz
  · rcases old b o ho with ⟨e1, e2⟩ | ⟨hne, g1⟩
    · rcases old b' o' ho' with ⟨e3, e4⟩ | ⟨hne', g2⟩
      · rw [e1, e3]
      · rw [e1, Rho.bind_σ, hσ b' (hs.live b' o' g2).1] at e
        exact absurd e.symm (hi b' o' g2)
    · rcases old b' o' ho' with ⟨e3, e4⟩ | ⟨hne', g2⟩
      · rw [e3, Rho.bind_σ, hσ b (hs.live b o g1).1] at e
        exact absurd e (hi b o g1)
      · rw [hσ b (hs.live b o g1).1, hσ b' (hs.live b' o' g2).1] at e
        exact hs.inj b b' o o' g1 g2 e
theorem HS.bind (hs : HS G wE ρ h m s w) {k p m' : Nat} (hk : ¬ ρ.D k) (hkm : k < m') (hm : m ≤ m') (hp : wE.heap.size ≤ p) (hi : ∀ b o, h.get b = some o → ρ.σ b ≠ p)
    {c : List Value} {T T' : TypeId} {c' : Array Value} (hb : w.heap[p]? = some (.cells c' T' (0, 0))) (hv : VL ρ c c') : HS G wE (ρ.bind k p c'.size) (h.set k (some (.cells c T s))) m' (s + 1) w :=
  hs.bindO hk hkm hm hp hi (Nat.le_refl _) ⟨c', T', (0, 0), by rw [Rho.bind_σ]; exact hb, fun _ => rfl, (Rho.bind_Z _ _ _ _).symm, hv.mono (Rho.le_bind hk _ _)⟩
theorem Step.bind (hs0 : HS G wE ρ0 h0 m0 s0 w0) (st : Step mm ρ0 ρ h0 h m0 m s0 s w0 w) (hs : HS G wE ρ h m s w) {k p m' : Nat} (hk : ¬ ρ.D k) (hmk : mm ≤ k) (hm : m ≤ m') (z : Nat) (o1 : XB)
    (hp : w0.heap.size ≤ p ∨ ∃ b0 o0, h0.get b0 = some o0 ∧ ρ0.σ b0 = p) : Step mm ρ0 (ρ.bind k p z) h0 (h.set k (some o1)) m0 m' s0 (s + 1) w0 w := by
  have le := Rho.le_bind hk p z
  have old : ∀ b o, (h.set k (some o1)).get b = some o → (b = k ∧ o = o1) ∨ (b ≠ k ∧ h.get b = some o) := by
    intro b o hb
    by_cases e : b = k
    · subst e; exact .inl ⟨rfl, (Option.some.inj (HT.get_same hb)).symm⟩
    · rw [HT.get_other _ _ e] at hb; exact .inr ⟨e, hb⟩
  have hk0 : ¬ ρ0.D k := fun hb => hk (st.le.D k hb)
  refine ⟨st.le.trans le, fun b hb => ?_, Nat.le_trans st.mle hm, Nat.le_succ_of_le st.sle, st.size, fun b o ho hb => ?_, fun b o o' ho ho' e => ?_, st.out, fun b o ho => ?_⟩
  · rcases hb with hb | hb
    · exact st.new b hb
    · exact .inr (by omega)
  · rcases old b o ho with ⟨rfl, rfl⟩ | ⟨hne, ho⟩
    · exact absurd hb hk0
    · exact st.mono b o ho hb
  · rcases old b o' ho' with ⟨rfl, rfl⟩ | ⟨hne, ho'⟩
    · exact absurd (hs0.live _ o ho).1 hk0
    · exact st.same b o o' ho ho' e
  · rcases old b o ho with ⟨rfl, rfl⟩ | ⟨hne, ho⟩
    · rw [Rho.bind_σ]; exact hp
    · rw [le.σ b (hs.live b o ho).1]; exact st.img b o ho

/-- A block is written to. -/
theorem HS.writeO (hs : HS G wE ρ h m s w) {b : Nat} {o1 o2 : XB} (hb : h.get b = some o1) (ht : o1.stamp ≠ 0) (h2 : o2.stamp = s) (hw : Off w w' (· = ρ.σ b)) (hw' : BlkR ρ b w' o2) : HS G wE ρ (h.set b (some o2)) m (s + 1) w' := by
  have old : ∀ x o, (h.set b (some o2)).get x = some o → (x = b ∧ o = o2) ∨ (x ≠ b ∧ h.get x = some o) := by
    intro x o hx
    by_cases e : x = b
    · subst e; exact .inl ⟨rfl, (Option.some.inj (HT.get_same hx)).symm⟩
    · rw [HT.get_other _ _ e] at hx; exact .inr ⟨e, hx⟩
  have hE := hs.own b _ hb ht
  have wit : ∀ x o, (h.set b (some o2)).get x = some o → ∃ o', h.get x = some o' := by
    intro x o hx
    rcases old x o hx with ⟨rfl, rfl⟩ | ⟨_, ho⟩
    · exact ⟨_, hb⟩
    · exact ⟨_, ho⟩
  refine ⟨hs.kept.then ⟨hw.os, hw.tape, hw.output, hw.size, hw.block⟩ (fun i hi e => by omega), hs.fix, hs.dom, by omega, fun x o ho => ?_, fun x o ho hz => ?_, fun x x' o o' ho ho' e => ?_, hs.ext⟩
  · rcases old x o ho with ⟨rfl, rfl⟩ | ⟨hne, ho⟩
    · exact ⟨(hs.live _ _ hb).1, by omega, hw'⟩
    · obtain ⟨g1, g2, g3⟩ := hs.live x o ho
      exact ⟨g1, by omega, g3.mono (.refl ρ) g1 (hw.block _ (hs.blk ho) fun e => hne (hs.inj x b _ _ ho hb e))⟩
  · rcases old x o ho with ⟨rfl, rfl⟩ | ⟨hne, ho⟩
    · exact hE
    · exact hs.own x o ho hz
  · obtain ⟨o1, h1⟩ := wit x o ho
    obtain ⟨o2, h2⟩ := wit x' o' ho'
    exact hs.inj x x' o1 o2 h1 h2 e
theorem Step.writeO (hs0 : HS G wE ρ0 h0 m0 s0 w0) (st : Step mm ρ0 ρ h0 h m0 m s0 s w0 w) (hs : HS G wE ρ h m s w) {b : Nat} {o1 o2 : XB} (hb : h.get b = some o1) (h2 : o2.stamp = s)
    (hw : Off w w' (· = ρ.σ b)) : Step mm ρ0 ρ h0 (h.set b (some o2)) m0 m s0 (s + 1) w0 w' := by
  have old : ∀ x o, (h.set b (some o2)).get x = some o → (x = b ∧ o = o2) ∨ (x ≠ b ∧ h.get x = some o) := by
    intro x o hx
    by_cases e : x = b
    · subst e; exact .inl ⟨rfl, (Option.some.inj (HT.get_same hx)).symm⟩
    · rw [HT.get_other _ _ e] at hx; exact .inr ⟨e, hx⟩
  have hb' := st.img b _ hb
  refine ⟨st.le, st.new, st.mle, Nat.le_succ_of_le st.sle, Nat.le_trans st.size hw.size, fun x o ho hx => ?_, fun x o o' ho ho' e => ?_, fun p hp hn => ?_, fun x o ho => ?_⟩
  · rcases old x o ho with ⟨rfl, rfl⟩ | ⟨hne, ho⟩
    · obtain ⟨o1, g1, _⟩ := st.mono _ _ hb hx
      exact ⟨o1, g1, .inr (by rw [h2]; exact st.sle)⟩
    · exact st.mono x o ho hx
  · rcases old x o' ho' with ⟨rfl, rfl⟩ | ⟨hne, ho'⟩
    · have := (hs0.live _ o ho).2.1
      have := st.sle
      rw [h2] at e
      omega
    · rw [← st.same x o o' ho ho' e]
      rw [← st.le.σ x (hs0.live x o ho).1]
      exact hw.block _ (hs.blk ho') fun e => hne (hs.inj x b _ _ ho' hb e)
  · rw [← st.out p hp hn]
    refine hw.block p (Nat.lt_of_lt_of_le hp st.size) fun e => ?_
    have e : p = ρ.σ b := e
    rcases hb' with g | ⟨b0, o0, g1, g2⟩
    · omega
    · exact hn b0 o0 g1 (g2.trans e.symm)
  · rcases old x o ho with ⟨rfl, rfl⟩ | ⟨hne, ho⟩
    · exact st.img _ _ hb
    · exact st.img x o ho
theorem HS.write (hs : HS G wE ρ h m s w) {b : Nat} {c c2 : List Value} {T T2 : TypeId} {t : Nat} (hb : h.get b = some (.cells c T t)) (ht : t ≠ 0) {c2' : Array Value} {T' : TypeId} (hz : c2'.size = ρ.Z b) (hv : VL ρ c2 c2')
    (hw : Off w w' (· = ρ.σ b)) (hw' : w'.heap[ρ.σ b]? = some (.cells c2' T' (0, 0))) : HS G wE ρ (h.set b (some (.cells c2 T2 s))) m (s + 1) w' := hs.writeO hb ht rfl hw ⟨c2', T', (0, 0), hw', fun _ => rfl, hz, hv⟩
theorem Step.write (hs0 : HS G wE ρ0 h0 m0 s0 w0) (st : Step mm ρ0 ρ h0 h m0 m s0 s w0 w) (hs : HS G wE ρ h m s w) {b : Nat} {c c2 : List Value} {T T2 : TypeId} {t : Nat} (hb : h.get b = some (.cells c T t))
    (hw : Off w w' (· = ρ.σ b)) : Step mm ρ0 ρ h0 (h.set b (some (.cells c2 T2 s))) m0 m s0 (s + 1) w0 w' := Step.writeO hs0 st hs hb rfl hw
end
end
end Go.Eng
