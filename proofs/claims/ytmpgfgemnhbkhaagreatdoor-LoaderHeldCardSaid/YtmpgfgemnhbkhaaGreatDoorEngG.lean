/- Engine, part G: what a step leaves of the relation between slots and temporaries. -/
import Derived.Test.YtmpgfgemnhbkhaaGreatDoorEngF
set_option linter.unusedSimpArgs false
set_option linter.unusedVariables false
namespace Go.Eng
section
variable {V : List Nat} {N : Nat} {s : List Ent} {env : Env} {w : World} {tmps : Array Value}

theorem getD_set_ne' {t t' : Nat} (v : Value) (h : t' ≠ t) : (tmps.setIfInBounds t v).getD t' undef = tmps.getD t' undef := by
  simp only [Array.getD_eq_getD_getElem?, Array.getElem?_setIfInBounds_ne (Ne.symm h)]
theorem getD_set_self {t : Nat} (v : Value) (h : t < tmps.size) : (tmps.setIfInBounds t v).getD t undef = v := by
  simp [Array.getD_eq_getD_getElem?, h]

theorem pathHolds_set {t : Nat} (v : Value) {p : List (Nat × Bool)} (h : (p.all fun x => x.1 != t) = true) : PathHolds (tmps.setIfInBounds t v) p ↔ PathHolds tmps p := by
  rw [List.all_eq_true] at h
  constructor
  · intro hp x hx
    have h1 := h x hx
    have h2 := hp x hx
    rwa [getD_set_ne' v (by simpa using h1)] at h2
  · intro hp x hx
    have h1 := h x hx
    rw [getD_set_ne' v (by simpa using h1)]
    exact hp x hx

theorem entOk_set {en : Ent} {t : Nat} (v : Value) (h : EntOk env w tmps en) (h1 : en.tmp ≠ t) (h2 : (en.path.all fun x => x.1 != t) = true) : EntOk env w (tmps.setIfInBounds t v) en where
  yes := fun hp u hu => by rw [getD_set_ne' v h1]; exact h.yes ((pathHolds_set v h2).1 hp) u hu
  no := fun hp => by rw [getD_set_ne' v h1]; exact h.no fun hq => hp ((pathHolds_set v h2).2 hq)

theorem inv_tmp (inv : Inv V N s env w tmps) {t : Nat} (hV : posV V t = none) (ht : t < N) (hf : freshT s t = true) {p : List (Nat × Bool)} {e : Ex} {v : Value}
    (hpt : (p.all fun x => x.1 != t) = true) (hy : PathHolds tmps p → ∀ u, e.ev env w = some u → v = u) (hn : ¬ PathHolds tmps p → v = undef) :
    Inv V N (⟨t, p, e⟩ :: s) env w (tmps.setIfInBounds t v) where
  len := inv.len
  size := by simp [inv.size]
  agree := fun t' i u hi hu => by
    have hne : t' ≠ t := fun h => by rw [h, hV] at hi; cases hi
    rw [getD_set_ne' v hne]
    exact inv.agree t' i u hi hu
  ents := fun en hen => by
    rcases List.mem_cons.1 hen with rfl | hen
    · refine ⟨fun hp u hu => ?_, fun hp => ?_⟩
      · rw [getD_set_self v (by rw [inv.size]; exact ht)]
        exact hy ((pathHolds_set v hpt).1 hp) u hu
      · rw [getD_set_self v (by rw [inv.size]; exact ht)]
        exact hn fun hq => hp ((pathHolds_set v hpt).2 hq)
    · unfold freshT at hf
      rw [List.all_eq_true] at hf
      have h := hf en hen
      simp only [Bool.and_eq_true, bne_iff_ne] at h
      exact entOk_set v (inv.ents en hen) h.1 h.2

theorem inv_var (inv : Inv V N s env w tmps) {t k : Nat} (hV : posV V t = some k) (ht : t < N) {v u : Value} (hu : isUndef u = true ∨ v = u) :
    Inv V N (killV k t s) (env.set k u) w (tmps.setIfInBounds t v) where
  len := by simp [inv.len]
  size := by simp [inv.size]
  agree := fun t' i u' hi hu' => by
    by_cases hik : i = k
    · subst hik
      have := posV_inj hi hV
      subst this
      rw [getD_set_self v (by rw [inv.size]; exact ht)]
      have hlt : i < env.length := by rw [inv.len]; exact (posV_spec hi).1
      rw [List.getElem?_set_self hlt] at hu'
      simp at hu'; subst hu'
      exact hu
    · have hne : t' ≠ t := fun h => by rw [h, hV] at hi; simp at hi; exact hik hi.symm
      rw [getD_set_ne' v hne]
      rw [List.getElem?_set_ne (Ne.symm hik)] at hu'
      exact inv.agree t' i u' hi hu'
  ents := fun en hen => by
    unfold killV at hen
    rw [List.mem_filter] at hen
    obtain ⟨hen, h⟩ := hen
    simp only [Bool.and_eq_true, Bool.not_eq_true', bne_iff_ne] at h
    have := entOk_set v (inv.ents en hen) h.1.2 h.2
    exact ⟨fun hp u' hu' => this.yes hp u' (by rw [ev_set _ h.1.1] at hu'; exact hu'), this.no⟩

theorem inv_entP (inv : Inv V N s env w tmps) {t k : Nat} (hV : posV V t = some k) {p : List (Nat × Bool)} (hno : isNilP p = false → ¬ PathHolds tmps p → tmps.getD t undef = undef) :
    Inv V N (entP p t k s) env w tmps := by
  unfold entP
  split
  · exact inv
  · rename_i hp
    refine ⟨inv.len, inv.size, inv.agree, fun en hen => ?_⟩
    rcases List.mem_cons.1 hen with rfl | hen
    · refine ⟨fun _ v hv => ?_, hno (by simpa using hp)⟩
      simp only [Ex.ev] at hv
      obtain ⟨u, hu, hv⟩ := bind_inv hv
      unfold varV at hv
      split at hv <;> simp at hv
      subst hv
      rcases inv.agree t k u hV hu with h1 | h1
      · simp_all
      · exact h1
    · exact inv.ents en hen

theorem inv_entE (inv : Inv V N s env w tmps) {dst : Option Nat} {p : List (Nat × Bool)} (hno : ∀ t, dst = some t → ¬ PathHolds tmps p → tmps.getD t undef = undef) : Inv V N (entE V p dst s) env w tmps := by
  unfold entE
  cases dst with
  | none => exact inv
  | some t =>
    simp only
    cases hV : posV V t with
    | none => exact inv
    | some k => exact inv_entP inv hV fun _ => hno t rfl

theorem inv_killT (inv : Inv V N s env w tmps) {t : Nat} (hV : posV V t = none) (v : Value) : Inv V N (killT t s) env w (tmps.setIfInBounds t v) where
  len := inv.len
  size := by simp [inv.size]
  agree := fun t' i u hi hu => by
    have hne : t' ≠ t := fun h => by rw [h, hV] at hi; cases hi
    rw [getD_set_ne' v hne]
    exact inv.agree t' i u hi hu
  ents := fun en hen => by
    unfold killT at hen
    rw [List.mem_filter] at hen
    obtain ⟨hen, h⟩ := hen
    simp only [Bool.and_eq_true, bne_iff_ne] at h
    exact entOk_set v (inv.ents en hen) h.1 h.2

theorem inv_world (inv : Inv V N s env w tmps) (w' : World) : Inv V N (killW s) env w' tmps where
  len := inv.len
  size := inv.size
  agree := inv.agree
  ents := fun en hen => by
    unfold killW at hen
    rw [List.mem_filter] at hen
    obtain ⟨hen, h⟩ := hen
    have h := inv.ents en hen
    rename_i hd
    have hd' : en.ex.dep = false := by simpa using hd
    exact ⟨fun hp u hu => h.yes hp u (by rw [ev_world w w' _ hd']; exact hu), h.no⟩

theorem inv_nil (inv : Inv V N s env w tmps) (w' : World) : Inv V N [] env w' tmps where
  len := inv.len
  size := inv.size
  agree := inv.agree
  ents := fun en hen => by cases hen

theorem inv_mask (inv : Inv V N s env w tmps) (ks : List Nat) : Inv V N [] (mask ks env) w tmps where
  len := by simp [mask, inv.len]
  size := inv.size
  agree := fun t i v hi hv => by
    unfold mask at hv
    rw [List.getElem?_mapIdx] at hv
    obtain ⟨u, hu, rfl⟩ := map_inv hv
    split
    · exact inv.agree t i u hi hu
    · exact .inl rfl
  ents := fun en hen => by cases hen

def putT (tmps : Array Value) (dst : Option Nat) (v : Value) : Array Value :=
  match dst with
  | some t => tmps.setIfInBounds t v
  | none => tmps

/-- What an effect leaves: its value in its temporary (and slot), and another world. -/
theorem inv_eff (inv : Inv V N s env w tmps) (w' : World) {dst : Option Nat} (hd : ∀ t, dst = some t → t < N) (v : Value) :
    Inv V N (killE V dst s) (setO (dst.bind (posV V)) env v) w' (putT tmps dst v) := by
  have h := inv_world inv w'
  cases dst with
  | none => exact h
  | some t =>
    simp only [killE, Option.bind_some]
    cases hp : posV V t with
    | none => exact inv_killT h hp v
    | some k => exact inv_var h hp (hd t rfl) (.inr rfl)

/-- ... and if it isn't carried out. -/
theorem inv_noeff (inv : Inv V N s env w tmps) (w' : World) {dst : Option Nat} (hd : ∀ t, dst = some t → t < N) (v : Value) :
    Inv V N (killE V dst s) ((dst.bind (posV V)).toList.foldl (fun env i => env.set i undef) env) w' (putT tmps dst v) := by
  have h := inv_world inv w'
  cases dst with
  | none => exact h
  | some t =>
    simp only [killE, Option.bind_some]
    cases hp : posV V t with
    | none => exact inv_killT h hp v
    | some k => exact inv_var h hp (hd t rfl) (.inl rfl)

theorem put_tmps (a : Act) (dst : Option Nat) (v : Value) : (a.put dst v).tmps = putT a.tmps dst v := by
  cases dst <;> rfl
theorem put_defers (a : Act) (dst : Option Nat) (v : Value) : (a.put dst v).defers = a.defers := by
  cases dst <;> rfl
end

section
variable {P : Program} {V : List Nat} {N : Nat} {s : List Ent} {env : Env} {w : World}

theorem stillEx_sound {a : Act} (inv : Inv V N s env w a.tmps) {p : List (Nat × Bool)} (hp : PathHolds a.tmps p) {o : Oper} {e : Ex} {v : Value}
    (h : stillEx P V s p o.op = some e) (hv : e.ev env w = some v) : (execOp a.eval o).run P w = .ok (.value v) w := by
  have gen : opEx P (look V s p) o.op = some e → (execOp a.eval o).run P w = .ok (.value v) w :=
    fun h => opEx_sound (look_rel inv hp) (fun v => rfl) h hv
  obtain ⟨dst, op, type, pos, after, guard⟩ := o
  cases op with
  | pick c x y =>
    cases c with
    | tmp c =>
      simp only [stillEx] at h
      split at h
      · rename_i ce xe ye hc hx hy
        simp at h; subst h
        simp only [Ex.ev] at hv
        obtain ⟨cv, hcv, hv⟩ := bind_inv hv
        cases cv <;> simp only [pickV, reduceCtorEq] at hv
        rename_i b
        have ec := look_rel inv hp _ _ _ hc hcv
        have hpc : ∀ b', b = b' → PathHolds a.tmps (p ++ [(c, b')]) := fun b' hb => pathHolds_append.2 ⟨hp, fun z hz => by
          simp at hz; subst hz; subst hb; exact ec⟩
        cases b
        · have ey := look_rel inv (hpc false rfl) _ _ _ hy (by simpa using hv)
          simp [execOp, ec, asBool, ey]
        · have ex := look_rel inv (hpc true rfl) _ _ _ hx (by simpa using hv)
          simp [execOp, ec, asBool, ex]
      · cases h
    | _ => simp [stillEx] at h
  | _ => exact gen (by simpa [stillEx] using h)

/-- A still operation, in its place: it yields a value and leaves the world. -/
structure StillStep (P : Program) (ops : Array Oper) (V : List Nat) (N : Nat) (s : List Ent) (p : List (Nat × Bool)) (o : Oper) (e : Ex) (env : Env) (w : World) (a : Act) (v : Value) : Prop where
  run : Region.wanted o (yielded ops a.tmps) = true → (execOp a.eval o).run P w = .ok (.value v) w
  skip : Region.wanted o (yielded ops a.tmps) = false → v = undef
  yes : PathHolds a.tmps p → e.ev env w = some v
  no : ¬ PathHolds a.tmps p → v = undef

theorem stillStep {ops : Array Oper} {a : Act} (inv : Inv V N s env w a.tmps) {o : Oper} {p : List (Nat × Bool)} (hp : opPath ops s o = some p) {e x : Ex}
    (he : stillEx P V s p o.op = some e) (hx : wrapP V s [] p e = some x) (hf : Fine env w x) : ∃ v, StillStep P ops V N s p o e env w a v := by
  obtain ⟨u, hu⟩ := hf
  have hw := wanted_path inv hp
  rcases wrapP_spec inv p [] e x u hx (by intro y hy; cases hy) hu with ⟨h1, h2⟩ | ⟨h1, h2⟩
  · simp at h1
    exact ⟨u, fun _ => stillEx_sound inv h1 he h2, (fun hn => by rw [hw.2 h1] at hn; cases hn), fun _ => h2, fun hn => absurd h1 hn⟩
  · simp at h1
    exact ⟨undef, fun hy => absurd (hw.1 hy) h1, fun _ => rfl, fun hy => absurd hy h1, fun _ => rfl⟩
end
end Go.Eng
