/- Engine, part I: one operation of a region: what the command asks is enough. -/
import Derived.Test.YtmpgfgemnhbkhaaGreatDoorEngH
set_option linter.unusedSimpArgs false
set_option linter.unusedVariables false
namespace Go.Eng
section
variable {P : Program} {V : List Nat} {N : Nat} {s : List Ent} {env : Env} {w : World}

theorem stillEx_any (w1 : World) {a : Act} (inv : Inv V N s env w a.tmps) {p : List (Nat × Bool)} (hp : PathHolds a.tmps p) {o : Oper} {e : Ex} {v : Value}
    (h : stillEx P V s p o.op = some e) (hv : e.ev env w = some v) (hr : reader e = false ∨ isMove o.op = true) : (execOp a.eval o).run P w1 = .ok (.value v) w1 := by
  by_cases hpick : ∃ c x y, o.op = .pick c x y
  · obtain ⟨c, x, y, hpick⟩ := hpick
    have h0 := stillEx_sound (P := P) inv hp h hv
    obtain ⟨dst, op, type, pos, after, guard⟩ := o
    simp only at hpick
    subst hpick
    simp only [execOp] at h0 ⊢
    generalize a.eval c = cv at h0 ⊢
    cases cv <;> simp [asBool] at h0 ⊢
    rename_i b
    cases b <;> simp at h0 ⊢ <;> exact h0
  · have h' : opEx P (look V s p) o.op = some e := by
      obtain ⟨dst, op, type, pos, after, guard⟩ := o
      cases op <;> first | (simpa [stillEx] using h) | (exact absurd ⟨_, _, _, rfl⟩ hpick)
    exact opEx_sound' w1 (look_rel inv hp) (fun v => rfl) h' hv (.inl hr)

theorem buildEx_reader {place : Nat → Option (Nat × Nat)} {look : Operand → Option Ex} : ∀ (l : List (Nat × Operand)) (b e : Ex), reader b = false → buildEx place look b l = some e → reader e = false
  | [], b, e, hb, h => by simp [buildEx] at h; subst h; exact hb
  | (i, x) :: r, b, e, hb, h => by
    simp only [buildEx] at h
    split at h
    · exact buildEx_reader r _ e rfl h
    · cases h
theorem foldEx_reader {f : Ex → Ex → Ex} {look : Operand → Option Ex} (hf : ∀ b e, reader (f b e) = false) : ∀ (l : List Operand) (b e : Ex), reader b = false → foldEx f look b l = some e → reader e = false
  | [], b, e, hb, h => by simp [foldEx] at h; subst h; exact hb
  | x :: r, b, e, hb, h => by
    simp only [foldEx] at h
    split at h
    · exact foldEx_reader hf r _ e (hf _ _) h
    · cases h

theorem opEx_reader {look : Operand → Option Ex} {op : Op} {e : Ex} (h : opEx P look op = some e) (hr : reader e = true) (hm : isMove op = false) :
    (∃ t a, op = .load t a) ∨ (∃ s d x, op = .convert s d x) ∨ (∃ b t x y yt, op = .binOp b t x y yt) := by
  have no : ∀ {x : Operand} {f : Ex → Ex}, (look x).map f = some e → (∀ b, reader (f b) = false) → False := by
    intro x f h hf
    obtain ⟨a, ha, rfl⟩ := map_inv h
    rw [hf] at hr; cases hr
  cases op with
  | load t a => exact .inl ⟨_, _, rfl⟩
  | convert s d x => exact .inr (.inl ⟨_, _, _, rfl⟩)
  | binOp b t x y yt => exact .inr (.inr ⟨_, _, _, _, _, rfl⟩)
  | move x => simp [isMove] at hm
  | assign x => simp [isMove] at hm
  | pick c x y => simp [isMove] at hm
  | nilCheck x => exact (no h fun b => rfl).elim
  | unOp o t x => exact (no h fun b => rfl).elim
  | extract x i => exact (no h fun b => rfl).elim
  | makeInterface t x =>
    simp only [opEx] at h
    split at h
    · cases h
    · exact (no h fun b => rfl).elim
    · cases h
  | makeFunc fn f c =>
    simp only [opEx] at h
    obtain ⟨b, h1, h2⟩ := bind_inv h
    have := foldEx_reader (fun b e => rfl) _ _ _ rfl h1
    have := foldEx_reader (fun b e => rfl) _ _ _ this h2
    rw [this] at hr; cases hr
  | build t ps =>
    simp only [opEx] at h
    split at h
    · split at h
      · obtain ⟨b, h1, h2⟩ := bind_inv h
        have := buildEx_reader _ _ _ rfl h2
        rw [this] at hr; cases hr
      · obtain ⟨b, h1, h2⟩ := bind_inv h
        have := buildEx_reader _ _ _ rfl h2
        rw [this] at hr; cases hr
      · cases h
    · cases h
  | slice t x lo hi mx =>
    cases mx with
    | some m => simp [opEx] at h
    | none =>
      simp only [opEx, sliceEx] at h
      split at h <;> (try cases h) <;> split at h <;> simp at h <;> subst h <;> simp [reader] at hr
  | fieldAddr t x f =>
    simp only [opEx] at h
    split at h <;> (try cases h)
    split at h <;> (try cases h)
    split at h <;> (try cases h)
    exact (no h fun b => rfl).elim
  | field t x f =>
    simp only [opEx] at h
    split at h <;> (try cases h)
    split at h <;> (try cases h)
    split at h <;> (try cases h)
    exact (no h fun b => rfl).elim
  | indexAddr t x i =>
    simp only [opEx] at h
    split at h <;> (try cases h)
    split at h <;> (try cases h)
    · obtain ⟨sz, hz, rfl⟩ := map_inv h; simp [reader] at hr
    · obtain ⟨sz, hz, rfl⟩ := map_inv h; simp [reader] at hr
  | index t x i =>
    simp only [opEx] at h
    split at h <;> (try cases h)
    split at h <;> (try cases h)
    · split at h <;> simp at h; subst h; simp [reader] at hr
    · simp [reader] at hr
  | call c =>
    obtain ⟨callee, args, argTypes⟩ := c
    cases callee with
    | value f => simp [opEx] at h
    | invoke r m => simp [opEx] at h
    | builtin b =>
      cases b <;> try (simp [opEx] at h; done)
      · simp only [opEx] at h
        split at h <;> (try cases h)
        split at h <;> (try cases h)
        · exact (no h fun b => rfl).elim
        · exact (no h fun b => rfl).elim
      · simp only [opEx] at h
        split at h <;> (try cases h)
        split at h <;> simp at h; subst h; simp [reader] at hr
      · simp only [opEx] at h
        split at h <;> (try cases h)
        split at h <;> simp at h; subst h; simp [reader] at hr
  | _ => simp [opEx] at h

theorem reader_sound {a : Act} (inv : Inv V N s env w a.tmps) {p : List (Nat × Bool)} (hp : PathHolds a.tmps p) {o : Oper} {e : Ex} {v : Value}
    (h : stillEx P V s p o.op = some e) (hr : reader e = true) (hm : isMove o.op = false) (hf : flat e = true) (hv : e.ev env w = some v) {w1 : World} (hv1 : e.ev env w1 = some v) :
    (execOp a.eval o).run P w1 = .ok (.value v) w1 := by
  have hrel := look_rel inv hp
  obtain ⟨dst, op, type, pos, after, guard⟩ := o
  have h' : opEx P (look V s p) op = some e := by
    cases op <;> first | (simpa [stillEx] using h) | (simp [isMove] at hm)
  rcases opEx_reader h' hr hm with ⟨t, x, rfl⟩ | ⟨s1, d, x, rfl⟩ | ⟨b, t, x, y, yt, rfl⟩
  · simp only [opEx] at h'
    split at h'
    · rename_i sz hz
      obtain ⟨ae, ha, rfl⟩ := map_inv h'
      simp only [Ex.ev] at hv hv1
      obtain ⟨u, hu, hv⟩ := bind_inv hv
      have hd : ae.dep = false := by simpa [flat] using hf
      rw [← ev_world w w1 ae hd, hu] at hv1
      simp only [Option.bind_some] at hv1
      have e1 := hrel _ _ _ ha hu
      simp [execOp, e1, run_loadAt hz hv1]
    · cases h'
  · simp only [opEx] at h'
    split at h'
    · obtain ⟨ae, ha, rfl⟩ := map_inv h'; simp [reader] at hr
    · obtain ⟨ae, ha, rfl⟩ := map_inv h'; simp [reader] at hr
    · rename_i el hs hd0
      split at h'
      · rename_i he
        obtain ⟨ae, ha, rfl⟩ := map_inv h'
        simp only [Ex.ev] at hv hv1
        obtain ⟨u, hu, hv⟩ := bind_inv hv
        have hd : ae.dep = false := by simpa [flat] using hf
        rw [← ev_world w w1 ae hd, hu] at hv1
        simp only [Option.bind_some] at hv1
        have e1 := hrel _ _ _ ha hu
        have h2 := run_bstr (P := P) hv1
        have : ∃ a l c, u = .slice a l c := by
          revert hv1; unfold bstrv; split <;> simp_all
        obtain ⟨aa, l, c, rfl⟩ := this
        simp only [execOp, Sem.run_bind, e1]
        rw [run_convert_bytes_string w1 s1 d _ aa l c hs he hd0, h2]
        rfl
      · cases h'
    · cases h'
  · simp only [opEx, binEx] at h'
    have bad : ∀ {f : Ex → Ex} {z : Operand}, (look V s p z).map f = some e → (∀ b, reader (f b) = false) → False := by
      intro f z h hff
      obtain ⟨a, ha, rfl⟩ := map_inv h
      rw [hff] at hr; cases hr
    split at h'
    · rename_i he
      split at h'
      · split at h'
        · exact (bad h' fun b => rfl).elim
        · cases h'
      · split at h'
        · split at h'
          · exact (bad h' fun b => rfl).elim
          · cases h'
        · simp only [eqEx] at h'
          split at h'
          · obtain ⟨_, _, _, _, rfl⟩ := bin2_inv h'; simp [reader] at hr
          · obtain ⟨_, _, _, _, rfl⟩ := bin2_inv h'; simp [reader] at hr
          · rename_i hni hns
            split at h'
            · cases h'
            · rename_i hg
              split at h'
              · rename_i dd hdd
                obtain ⟨xe, ye, hx, hy, rfl⟩ := bin2_inv h'
                simp only [Ex.ev] at hv hv1
                obtain ⟨u, hu, hv⟩ := bind_inv hv
                obtain ⟨u', hu', hv⟩ := bind_inv hv
                simp only [flat, Bool.and_eq_true, Bool.not_eq_true'] at hf
                rw [← ev_world w w1 xe hf.1, ← ev_world w w1 ye hf.2, hu, hu'] at hv1
                simp only [Option.bind_some] at hv1
                obtain ⟨r, hrr, rfl⟩ := map_inv hv1
                have e1 := hrel _ _ _ hx hu
                have e2 := hrel _ _ _ hy hu'
                obtain ⟨h1, h2⟩ := run_eqx (P := P) he hdd hni hns (by simpa using hg) x y hrr
                simp only [execOp, Sem.run_bind, e1, e2, h1, Result.andThen_ok, h2, Sem.run_pure]
              · cases h'
    · obtain ⟨_, _, _, _, rfl⟩ := bin2_inv h'; simp [reader] at hr

/-! Commands put together. -/
theorem thenTo_self (Q : Exit → Env → World → Prop) : thenTo (Q .normal) Q = Q := by
  funext x; cases x <;> rfl

theorem seqC_wp (a b : Cmd) (Q : Exit → Env → World → Prop) (env : Env) (w : World) : (seqC a b).wp P Q env w ↔ a.wp P (thenTo (b.wp P Q) Q) env w := by
  have hb : ∀ a : Cmd, a.wp P (thenTo (Cmd.skip.wp P Q) Q) env w ↔ a.wp P Q env w := fun a => by
    have : (Cmd.skip.wp P Q) = Q .normal := by funext env w; rfl
    rw [this, thenTo_self]
  unfold seqC
  split
  · rfl
  · exact (hb a).symm
  · rfl

theorem chkC_wp (l : List Ex) (Q : Exit → Env → World → Prop) (env : Env) (w : World) : (chkC l).wp P Q env w ↔ AllFine env w l ∧ Q .normal env w := by
  have : ∀ l, (Cmd.chk l).wp P Q env w ↔ AllFine env w l ∧ Q .normal env w := fun l => by
    simp only [Cmd.wp]
    constructor
    · intro h
      obtain ⟨vs, hvs, h⟩ := Ok_inv h
      exact ⟨evs_fine l hvs, h⟩
    · rintro ⟨h1, h2⟩
      obtain ⟨vs, hvs⟩ := fine_evs l h1
      rw [hvs]; exact h2
  cases l with
  | nil => exact ⟨fun h => ⟨(fun e he => by cases he), h⟩, fun h => h.2⟩
  | cons x r => exact this _

theorem covers_fine (c : Cmd) {Q : Exit → Env → World → Prop} {env : Env} {w : World} (h : c.wp P Q env w) : AllFine env w c.covers := by
  have one : ∀ {e : Ex} {v : Value}, e.ev env w = some v → AllFine env w [e] := fun {e v} h x hx => by
    simp at hx; subst hx; exact ⟨v, h⟩
  have emp : AllFine env w [] := fun e he => by cases he
  cases c with
  | set i e => obtain ⟨v, hv, _⟩ := Ok_inv h; exact one hv
  | call d f args st => obtain ⟨v, hv, _⟩ := Ok_inv h; exact evs_fine _ hv
  | dyn d f args st =>
    obtain ⟨v, hv, h⟩ := Ok_inv h
    obtain ⟨vs, hvs, h⟩ := Ok_inv h
    intro e he
    rcases List.mem_cons.1 he with rfl | he
    · exact ⟨v, hv⟩
    · exact evs_fine _ hvs e he
  | bi d b ats ty args st => obtain ⟨v, hv, _⟩ := Ok_inv h; exact evs_fine _ hv
  | sem d g args st => obtain ⟨v, hv, _⟩ := Ok_inv h; exact evs_fine _ hv
  | store n x v st =>
    obtain ⟨xv, hxv, h⟩ := Ok_inv h
    obtain ⟨vv, hvv, h⟩ := Ok_inv h
    intro e he
    simp [Cmd.covers] at he
    rcases he with rfl | rfl
    · exact ⟨xv, hxv⟩
    · exact ⟨vv, hvv⟩
  | new d T e st => obtain ⟨v, hv, _⟩ := Ok_inv h; exact one hv
  | row d T n e st => obtain ⟨v, hv, _⟩ := Ok_inv h; exact one hv
  | _ => exact emp

theorem nilP_eq {p : List (Nat × Bool)} (h : isNilP p = true) : p = [] := by
  unfold isNilP at h; split at h <;> simp_all

theorem cOps_fine (V : List Nat) (N : Nat) (ops : Array Oper) (draw : Bool) : ∀ (T : PT) (s : List Ent) (pend : List Ex) (live : Live) (dead : List Nat) (z : Cmd × List Ent × List Ex),
    cOps P V N ops draw T s pend live dead = some z → ∀ (Q : Exit → Env → World → Prop) (env : Env) (w : World), z.1.wp P Q env w →
    (∀ env w, Q .normal env w → AllFine env w z.2.2) → AllFine env w pend := by
  intro T
  induction T with
  | nil => intro s pend live dead z h Q env w hw hq; simp [cOps] at h; subst h; exact hq env w hw
  | alt a b iha ihb =>
    intro s pend live dead z h Q env w hw hq
    simp only [cOps] at h
    obtain ⟨x, hx, h⟩ := bind_inv h
    obtain ⟨y, hy, rfl⟩ := map_inv h
    have h1 := (seqC_wp (P := P) _ _ _ _ _).1 hw.1
    exact iha s pend live dead x hx _ env w h1 fun env w h => ((chkC_wp (P := P) _ _ _ _).1 h).1
  | one i r ih =>
    intro s pend live dead z h Q env w hw hq
    simp only [cOps] at h
    obtain ⟨o, ho, h⟩ := bind_inv h
    obtain ⟨p, hp, h⟩ := bind_inv h
    split at h
    · split at h
      · obtain ⟨e, he, h⟩ := bind_inv h
        obtain ⟨x, hx, h⟩ := bind_inv h
        split at h
        · have := ih _ _ _ _ z h Q env w hw hq
          exact fun y hy => this y (by simp [hy])
        · split at h
          · obtain ⟨z', hz', h⟩ := bind_inv h
            split at h
            · simp at h; subst h
              have h1 := (chkC_wp (P := P) _ _ _ _).1 ((seqC_wp (P := P) _ _ _ _ _).1 hw)
              have h2 := (seqC_wp (P := P) _ _ _ _ _).1 h1.2
              exact reduce_fine _ _ h1.1 (covers_fine _ h2)
            · obtain ⟨g, hg, rfl⟩ := map_inv h
              have h1 := (chkC_wp (P := P) _ _ _ _).1 ((seqC_wp (P := P) _ _ _ _ _).1 hw)
              obtain ⟨gv, hgv, _⟩ := Ok_inv ((seqC_wp (P := P) _ _ _ _ _).1 h1.2)
              exact reduce_fine _ _ h1.1 (fun y hy => by simp at hy; subst hy; exact ⟨gv, hgv⟩)
          · split at h
            · have := ih _ _ _ _ z h Q env w hw hq
              exact fun y hy => this y (by simp [hy])
            · cases h
      · obtain ⟨mk, hmk, h⟩ := bind_inv h
        obtain ⟨x, hx, h⟩ := bind_inv h
        split at h
        · obtain ⟨z', hz', h⟩ := map_inv h
          split at h
          · subst h
            have h1 := (chkC_wp (P := P) _ _ _ _).1 ((seqC_wp (P := P) _ _ _ _ _).1 hw)
            have h2 := (seqC_wp (P := P) _ _ _ _ _).1 h1.2
            exact reduce_fine _ _ h1.1 (covers_fine _ h2)
          · subst h
            have h1 := (chkC_wp (P := P) _ _ _ _).1 ((seqC_wp (P := P) _ _ _ _ _).1 hw)
            obtain ⟨gv, hgv, _⟩ := Ok_inv ((seqC_wp (P := P) _ _ _ _ _).1 h1.2)
            exact reduce_fine _ _ h1.1 (fun y hy => by simp at hy; subst hy; exact ⟨gv, hgv⟩)
        · cases h
    · cases h
end
end Go.Eng
