/- Engine, part XG: the interpreter's memory and the world; expressions. -/
import Derived.Test.YtkgpmjjleemdlaaGreatEngXF
import Derived.MapKept
set_option linter.unusedSimpArgs false
set_option linter.unusedVariables false
set_option linter.unusedSectionVars false
namespace Go.Eng
variable [Sy]

/-- A row of cells and the world's, which may be longer. -/
def VL (ρ : Rho) (c : List Value) (c' : Array Value) : Prop := c.length ≤ c'.size ∧ ∀ (i : Nat) u v, c[i]? = some u → c'[i]? = some v → VQ ρ u v
theorem VL.mono {ρ ρ' : Rho} {c : List Value} {c' : Array Value} (hr : ρ.Le ρ') (h : VL ρ c c') : VL ρ' c c' := ⟨h.1, fun i u v hu hv => (h.2 i u v hu hv).mono hr⟩
theorem VL.at {ρ : Rho} {c : List Value} {c' : Array Value} (h : VL ρ c c') {i : Nat} {u : Value} (hu : c[i]? = some u) : ∃ v, c'[i]? = some v ∧ VQ ρ u v := by
  have hi : i < c'.size := Nat.lt_of_lt_of_le (List.getElem?_eq_some_iff.1 hu).1 h.1
  exact ⟨_, Array.getElem?_eq_getElem hi, h.2 i _ _ hu (Array.getElem?_eq_getElem hi)⟩
/-- A map's entries and the world's. -/
inductive LM (ρ : Rho) (k : IntKind) : List (Int × Value) → List MapEntry → Prop
  | nil : LM ρ k [] []
  | cons (n : Int) (u v : Value) (b : Nat) (es : List (Int × Value)) (l : List MapEntry) : VQ ρ u v → LM ρ k es l → LM ρ k ((n, u) :: es) ({ key := .int k n, val := v, born := b } :: l)
theorem LM.mono {ρ ρ' : Rho} {k : IntKind} {es : List (Int × Value)} {l : List MapEntry} (hr : ρ.Le ρ') (h : LM ρ k es l) : LM ρ' k es l := by
  induction h with
  | nil => exact .nil
  | cons n u v b es l h1 _ ih => exact .cons n u v b es l (h1.mono hr) ih
def BlkR (ρ : Rho) (b : Nat) (w : World) : XB → Prop
  | .cells c _ t => ∃ c' T' fz, w.heap[ρ.σ b]? = some (.cells c' T' fz) ∧ (t ≠ 0 → fz = (0, 0)) ∧ c'.size = ρ.Z b ∧ VL ρ c c'
  | .map k es _ => ∃ ents clock, w.heap[ρ.σ b]? = some (.map ents clock) ∧ LM ρ k es ents.toList ∧ MapKept.Stamped ents clock
/-- How the world stands to the interpreter's memory. -/
structure HS (G : Nat) (wE : World) (ρ : Rho) (h : HT) (m s : Nat) (w : World) : Prop where
  kept : Kept none' wE w
  fix : ∀ b, b < G → ρ.D b ∧ ρ.σ b = b
  dom : ∀ b, ρ.D b → b < m
  spos : 0 < s
  live : ∀ b o, h.get b = some o → ρ.D b ∧ o.stamp < s ∧ BlkR ρ b w o
  own : ∀ b o, h.get b = some o → o.stamp ≠ 0 → wE.heap.size ≤ ρ.σ b
  inj : ∀ b b' o o', h.get b = some o → h.get b' = some o' → ρ.σ b = ρ.σ b' → b = b'
  ext : Sy.K wE
theorem HS.ktrue {G : Nat} {wE w : World} {ρ : Rho} {h : HT} {m s : Nat} (hs : HS G wE ρ h m s w) : Sy.K w := Sy.kk wE w hs.ext hs.kept

def EnvQ (ρ : Rho) (env env' : Env) : Prop := env.length = env'.length ∧ ∀ (i : Nat) u v, env[i]? = some u → env'[i]? = some v → isUndef u = true ∨ VQ ρ u v
section
variable {G : Nat} {wE w : World} {ρ : Rho} {h : HT} {m s : Nat} {env env' : Env}
theorem EnvQ.at (he : EnvQ ρ env env') {i : Nat} {u : Value} (hu : env[i]? = some u) : ∃ v, env'[i]? = some v ∧ (isUndef u = true ∨ VQ ρ u v) := by
  have hi : i < env'.length := by
    have := (List.getElem?_eq_some_iff.1 hu).1
    have := he.1; omega
  exact ⟨_, List.getElem?_eq_getElem hi, he.2 i _ _ hu (List.getElem?_eq_getElem hi)⟩
theorem EnvQ.set' (he : EnvQ ρ env env') (i : Nat) {u v : Value} (hv : isUndef u = true ∨ VQ ρ u v) : EnvQ ρ (env.set i u) (env'.set i v) := by
  refine ⟨by simp [he.1], fun j a b ha hb => ?_⟩
  rw [List.getElem?_set] at ha hb
  have hl := he.1
  by_cases hj : i = j
  · rw [if_pos hj] at ha hb
    split at ha
    · rw [if_pos (by omega)] at hb
      obtain rfl := Option.some.inj ha
      obtain rfl := Option.some.inj hb
      exact hv
    · cases ha
  · rw [if_neg hj] at ha hb
    exact he.2 _ _ _ ha hb
theorem EnvQ.set (he : EnvQ ρ env env') (i : Nat) {u v : Value} (hv : VQ ρ u v) : EnvQ ρ (env.set i u) (env'.set i v) := he.set' i (.inr hv)
theorem EnvQ.setO (he : EnvQ ρ env env') (d : Option Nat) {u v : Value} (hv : VQ ρ u v) : EnvQ ρ (setO d env u) (setO d env' v) := by
  cases d with
  | none => exact he
  | some i => exact he.set i hv
theorem EnvQ.clr (is : List Nat) : ∀ {env env' : Env}, EnvQ ρ env env' → EnvQ ρ (is.foldl (fun env i => env.set i undef) env) (is.foldl (fun env i => env.set i undef) env') := by
  induction is with
  | nil => exact fun h => h
  | cons a r ih => exact fun h => ih (h.set' a (.inl rfl))
theorem EnvQ.mask (he : EnvQ ρ env env') (ks : List Nat) : EnvQ ρ (mask ks env) (mask ks env') := by
  refine ⟨by simp [Go.Eng.mask, he.1], fun i u v hu hv => ?_⟩
  simp only [Go.Eng.mask, List.getElem?_mapIdx, Option.map_eq_some_iff] at hu hv
  obtain ⟨u', hu', rfl⟩ := hu
  obtain ⟨v', hv', rfl⟩ := hv
  split
  · exact he.2 _ _ _ hu' hv'
  · exact .inl rfl
theorem EnvQ.mono {ρ' : Rho} (hr : ρ.Le ρ') (he : EnvQ ρ env env') : EnvQ ρ' env env' := ⟨he.1, fun i u v hu hv => (he.2 i u v hu hv).imp id fun h => h.mono hr⟩

/-! Constants. -/
theorem conV_vq (hf : ∀ b, b < G → ρ.D b ∧ ρ.σ b = b) : ∀ (n : Nat) (v : Value), conV G n v = true → VQ ρ v v := by
  intro n
  induction n with
  | zero => intro v h; cases h
  | succ n ih =>
    have hl : ∀ (l : List Value), l.all (conV G n) = true → ∀ (i : Nat) u v, (⟨l⟩ : Array Value)[i]? = some u → (⟨l⟩ : Array Value)[i]? = some v → VQ ρ u v := by
      intro l hl i u v hu hv
      rw [hu] at hv
      obtain rfl := Option.some.inj hv
      exact ih u (List.all_eq_true.1 hl u (by simpa using Array.mem_of_getElem? hu))
    intro v h
    unfold conV at h
    split at h
    all_goals try (constructor; done)
    · rename_i a
      obtain ⟨b, o, s⟩ := a
      obtain ⟨h1, h2⟩ := hf b (blt_true h)
      have := VQ.ptr (ρ := ρ) b o s h1
      rw [h2] at this
      exact this
    · rename_i a k c
      obtain ⟨b, o, s⟩ := a
      simp only [Bool.and_eq_true] at h
      obtain ⟨h1, h2⟩ := hf b (blt_true h.1)
      have := VQ.slice (ρ := ρ) b o s k c h1 (blt_true h.2)
      rw [h2] at this
      exact this
    · simp only [Bool.and_eq_true] at h
      exact .func _ _ _ _ _ rfl (hl _ h.1) rfl (hl _ h.2)
    · exact .iface _ _ _ (ih _ h)
    · exact .agg _ _ rfl (hl _ h)
    · exact .tuple _ _ rfl (hl _ h)
    · cases h
theorem hCells_some {α : Type} {b : Nat} {f : List Value → TypeId → Nat → Option α} {r : α} (h1 : hCells h b f none = some r) : ∃ c T t, h.get b = some (.cells c T t) ∧ f c T t = some r := by
  unfold hCells at h1
  split at h1
  · rename_i c T t hb; exact ⟨c, T, t, hb, h1⟩
  · cases h1
theorem HS.cells (hs : HS G wE ρ h m s w) {b : Nat} {c : List Value} {T : TypeId} {t : Nat} (hb : h.get b = some (.cells c T t)) (ht : t ≠ 0) : ρ.D b ∧ ∃ c' T', w.heap[ρ.σ b]? = some (.cells c' T' (0, 0)) ∧ c'.size = ρ.Z b ∧ VL ρ c c' := by
  obtain ⟨h1, _, c', T', fz, h2, h3, h4⟩ := hs.live b _ hb
  rw [h3 ht] at h2
  exact ⟨h1, c', T', h2, h4⟩
theorem HS.cellsR (hs : HS G wE ρ h m s w) {b : Nat} {c : List Value} {T : TypeId} {t : Nat} (hb : h.get b = some (.cells c T t)) : ρ.D b ∧ ∃ c' T' fz, w.heap[ρ.σ b]? = some (.cells c' T' fz) ∧ c'.size = ρ.Z b ∧ VL ρ c c' := by
  obtain ⟨h1, _, c', T', fz, h2, _, h4⟩ := hs.live b _ hb
  exact ⟨h1, c', T', fz, h2, h4⟩
/-- A row of cells that is there is there in the world. -/
theorem HS.row (hs : HS G wE ρ h m s w) {b : Nat} {c : List Value} {T : TypeId} {t : Nat} (hb : h.get b = some (.cells c T t)) {o n : Nat} (hn : o + n ≤ c.length) : ∃ r, wrow w (ρ.σ b) o n = some r ∧ VQs ρ ⟨(c.drop o).take n⟩ r := by
  obtain ⟨_, c', T', fz, h1, h2, h3⟩ := hs.cellsR hb
  refine ⟨_, wrow_of h1 (by have := h3.1; omega), ?_, ?_⟩
  · have := h3.1
    simp; omega
  · intro i u v hu hv
    simp only [List.getElem?_toArray] at hu
    rw [Array.getElem?_extract] at hv
    rw [List.getElem?_take] at hu
    split at hu
    · rw [List.getElem?_drop] at hu
      split at hv
      · exact h3.2 _ _ _ hu hv
      · cases hv
    · cases hu
theorem xld_vq (hs : HS G wE ρ h m s w) {sz : Option Nat} {u u' r : Value} (hz : sz ≠ some 0) (hu : VQ ρ u u') (hr : xld h sz u = some r) : ∃ r', ldv w sz u' = some r' ∧ VQ ρ r r' := by
  cases hu with
  | ptr b o sp hb =>
    cases sp with
    | some sp => cases hr
    | none =>
      obtain ⟨c, T, t, h1, h2⟩ := hCells_some (show hCells h b (fun c _ _ => xpart sz o c) none = some r from hr)
      cases sz with
      | none =>
        have h2' : nth c o = some r := h2
        rw [nth_eq] at h2'
        obtain ⟨_, c', T', fz, g1, g2, g3⟩ := hs.cellsR h1
        obtain ⟨v, g4, g5⟩ := g3.at h2'
        exact ⟨v, by simp only [ldv]; rw [wcell_of g1]; exact g4, g5⟩
      | some n =>
        have h2' : takeK n (dropL o c) (fun l => some (Value.agg ⟨l⟩)) = some r := h2
        rw [dropL_eq] at h2'
        obtain ⟨g1, g2⟩ := takeK_some h2'
        obtain rfl := Option.some.inj g2
        rw [List.length_drop] at g1
        have hn : n ≠ 0 := fun e => hz (by rw [e])
        obtain ⟨r', g3, g4⟩ := hs.row h1 (o := o) (n := n) (by omega)
        exact ⟨.agg r', by simp [ldv, g3], .agg _ _ g4.1 g4.2⟩
  | _ => cases hr
theorem xbstr_vq (hs : HS G wE ρ h m s w) {u u' r : Value} (hu : VQ ρ u u') (hr : xbstr h u = some r) : ∃ r', bstrv w u' = some r' ∧ VQ ρ r r' := by
  have key : ∀ b o n, (Bool.rec none (hCells h b (fun c _ _ => Bool.rec none (takeK n (dropL o c) fun l => match bytesIn l with
      | some s => some (.string ⟨⟨s⟩⟩)
      | none => none) (Nat.ble o (lenL c))) none) (Nat.blt o capU) : Option Value) = some r → o < capU ∧ ∃ r', ((wrow w (ρ.σ b) o n).bind fun r => (bytesIn r.toList).map fun l => Value.string ⟨l.toArray⟩) = some r' ∧ VQ ρ r r' := by
    intro b o n h0
    obtain ⟨e, h1⟩ := brec_some h0
    refine ⟨blt_true e, ?_⟩
    obtain ⟨c, T, t, h2, h3⟩ := hCells_some h1
    obtain ⟨h4, h5⟩ := brec_some h3
    have h4 := Nat.le_of_ble_eq_true h4
    rw [lenL_eq] at h4
    rw [dropL_eq] at h5
    obtain ⟨h6, h7⟩ := takeK_some h5
    rw [List.length_drop] at h6
    obtain ⟨r', g3, g4⟩ := hs.row h2 (o := o) (n := n) (by omega)
    split at h7
    · rename_i l hl
      obtain rfl := Option.some.inj h7
      rw [g3]
      exact ⟨_, by rw [Option.bind_some, g4.bytes_in hl]; rfl, .string _⟩
    · cases h7
  cases hu with
  | snil n c => exact ⟨r, hr, by obtain rfl := Option.some.inj hr; constructor⟩
  | slice b o sp n c hb hc =>
    cases sp with
    | some sp => cases hr
    | none => exact (key b o n hr).2
  | sliceU b o o' n c c' hb h1 h2 h3 h4 h5 =>
    obtain ⟨g1, g2⟩ := key b o n hr
    rcases h4 with h4 | h4
    · subst h4
      exact g2
    · omega
  | _ => cases hr
theorem brec_not {α : Type} {b : Bool} {x y : α} : (Bool.rec x y b : α) = if b = true then y else x := by cases b <;> rfl
theorem xplain_plain (hs : HS G wE ρ h m s w) {b : Nat} (hb : xplain h b = true) : (∃ o, h.get b = some o) ∧ plainB w (ρ.σ b) = true := by
  unfold xplain at hb
  split at hb
  · rename_i c T t hg
    obtain ⟨_, c', T', g1, _, _⟩ := hs.cells hg (Nat.succ_ne_zero _)
    exact ⟨⟨_, hg⟩, by unfold plainB; rw [g1]; rfl⟩
  · cases hb
theorem xpeq_vq (hs : HS G wE ρ h m s w) {u u' v v' : Value} {r : Bool} (hu : VQ ρ u u') (hv : VQ ρ v v') (hr : xpeq h u v = some r) : eqv w .ptr u' v' = some r := by
  cases hu <;> try (cases hr; done)
  · cases hv <;> try (cases hr; done)
    · exact hr
    · exact hr
  · rename_i b o sp hb
    cases hv <;> try (cases hr; done)
    · exact hr
    · rename_i b' o' sp' hb'
      cases sp with
      | some sp => cases sp' <;> cases hr
      | none =>
        cases sp' with
        | some sp' => cases hr
        | none =>
          have hr' : (Bool.rec (Bool.rec none (Bool.rec none (some false) (xplain h b')) (xplain h b)) (some (Nat.beq o o')) (Nat.beq b b') : Option Bool) = some r := hr
          simp only [eqv, peqV]
          rw [brec_beq] at hr'
          by_cases e : b = b'
          · subst e
            rw [if_pos rfl] at hr' ⊢
            rw [← hr', beq_dec]
            congr 1
            by_cases e2 : o = o'
            · subst e2; simp
            · rw [decide_eq_false e2]
              exact beq_eq_false_iff_ne.2 fun e3 => e2 (by cases e3; rfl)
          · rw [if_neg e] at hr'
            obtain ⟨h1, h2⟩ := brec_some hr'
            obtain ⟨h3, h4⟩ := brec_some h2
            obtain ⟨⟨x, hx⟩, p1⟩ := xplain_plain hs h1
            obtain ⟨⟨y, hy⟩, p2⟩ := xplain_plain hs h3
            rw [if_neg (fun e2 => e (hs.inj _ _ _ _ hx hy e2)), if_pos (by simp [p1, p2])]
            exact h4
theorem orec_some {α β : Type} {o : Option α} {f : α → Option β} {r : β} (h1 : (Option.rec none f o : Option β) = some r) : ∃ a, o = some a ∧ f a = some r := by
  cases o with
  | none => cases h1
  | some a => exact ⟨a, rfl, h1⟩
theorem xeq_vq (hs : HS G wE ρ h m s w) : ∀ (d : EqD) {u u' v v' : Value} {r : Bool}, VQ ρ u u' → VQ ρ v v' → xeq h d u v = some r → eqv w d u' v' = some r := by
  intro d
  induction d with
  | int =>
    intro u u' v v' r hu hv hr
    have hr' : (Option.rec (Sy.fe u v) some (vInt u (fun k a => vInt v (fun k' b => Bool.rec none (some (ieq a b)) (Nat.beq (kix k) (kix k'))) none) none) : Option Bool) = some r := hr
    cases e : (vInt u (fun k a => vInt v (fun k' b => Bool.rec none (some (ieq a b)) (Nat.beq (kix k) (kix k'))) none) none : Option Bool) with
    | none =>
      rw [e] at hr'
      obtain ⟨g1, g2, k, x, y, g3, g4, rfl⟩ := Sy.oke u v r hr'
      rw [sy_vq g1 hu, sy_vq g2 hv, g3, g4]
      simp only [eqv, if_true]
    | some t =>
    rw [e] at hr'
    obtain rfl := Option.some.inj hr'
    replace hr := e
    clear hr' e
    cases hu <;> try (cases hr; done)
    cases hv <;> try (cases hr; done)
    rename_i k a k' b
    obtain ⟨h1, h2⟩ := brec_some (show (Bool.rec none (some (ieq a b)) (Nat.beq (kix k) (kix k')) : Option Bool) = some t from hr)
    rw [kix_eq, decide_eq_true_iff] at h1
    rw [ieq_eq] at h2
    simp only [eqv, if_pos h1]
    exact h2
  | bool =>
    intro u u' v v' r hu hv hr
    cases hu <;> try (cases hr; done)
    cases hv <;> try (cases hr; done)
    rename_i a b
    cases a <;> cases b <;> exact hr
  | str =>
    intro u u' v v' r hu hv hr
    cases hu <;> try (cases hr; done)
    cases hv <;> try (cases hr; done)
    exact hr
  | nil =>
    intro u u' v v' r hu hv hr
    cases hu <;> try (cases hr; done)
    cases hv <;> try (cases hr; done)
    exact hr
  | ptr => exact fun hu hv hr => xpeq_vq hs hu hv hr
  | cons off sz d rest ih1 ih2 =>
    intro u u' v v' r hu hv hr
    cases hu with
    | agg xs ys h1 h2 =>
      cases hv with
      | agg xs' ys' g1 g2 =>
        obtain ⟨xs⟩ := xs
        obtain ⟨xs'⟩ := xs'
        obtain ⟨a, ha, hr1⟩ := orec_some (show (Option.rec none (fun a => Option.rec none (fun b => qAnd (xeq h d a b) (xeq h rest (.agg ⟨xs⟩) (.agg ⟨xs'⟩))) (xpart sz off xs')) (xpart sz off xs) : Option Bool) = some r from hr)
        obtain ⟨b, hb, hr2⟩ := orec_some hr1
        obtain ⟨t, ht, hr3⟩ := orec_some (show (Option.rec none (fun t => Bool.rec (some false) (xeq h rest (.agg ⟨xs⟩) (.agg ⟨xs'⟩)) t) (xeq h d a b) : Option Bool) = some r from hr2)
        obtain ⟨a', f1, f2⟩ := partV_vq ⟨h1, h2⟩ (xpart_some ha).1
        obtain ⟨b', f3, f4⟩ := partV_vq ⟨g1, g2⟩ (xpart_some hb).1
        simp only [eqv, f1, f3, ih1 f2 f4 ht]
        cases t with
        | true => exact ih2 (.agg _ _ h1 h2) (.agg _ _ g1 g2) hr3
        | false => exact hr3
      | _ => cases hr
    | _ => cases hr

theorem y3_vq {o : U3} {u u' v v' z z' r : Value} (h : VQ ρ u u') (g : VQ ρ v v') (f : VQ ρ z z') (hr : y3 o u v z = some r) : ∃ r', o.ap u' v' z' = some r' ∧ VQ ρ r r' := by
  have hr' : (Option.rec (Sy.f3 o u v z) some (x3 o u v z) : Option Value) = some r := hr
  cases e : x3 o u v z with
  | some a => rw [e] at hr'; obtain rfl := Option.some.inj hr'; exact x3_vq h g f e
  | none => rw [e] at hr'; exact sy_vq3 h g f hr'
theorem yld_vq (hs : HS G wE ρ h m s w) {sz : Option Nat} (hz : sz ≠ some 0) {u u' r : Value} (hu : VQ ρ u u') (hr : yld h sz u = some r) : ∃ r', ldv w sz u' = some r' ∧ VQ ρ r r' := by
  have hr' : (Option.rec (Sy.fl sz u) some (xld h sz u) : Option Value) = some r := hr
  cases e : xld h sz u with
  | some a => rw [e] at hr'; obtain rfl := Option.some.inj hr'; exact xld_vq hs hz hu e
  | none =>
    rw [e] at hr'
    obtain ⟨g1, g2, g3⟩ := Sy.okl sz u r hr'
    rw [sy_vq g1 hu]
    exact ⟨_, g3 w hs.ktrue, vq_sy g2⟩
theorem xe_vq (hs : HS G wE ρ h m s w) (he : EnvQ ρ env env') : ∀ (e : Ex), e.kc G = true → ∀ {r : Value}, xe h env e = some r → ∃ r', e.ev env' w = some r' ∧ VQ ρ r r' := by
  intro e
  induction e with
  | var i =>
    intro hk r hr
    obtain ⟨v, hv, hr1⟩ := orec_some (show (Option.rec none (fun v => Bool.rec (some v) none (isUndef v)) (nth env i) : Option Value) = some r from hr)
    obtain ⟨h1, h2⟩ := brec_none hr1
    obtain rfl := Option.some.inj h2
    rw [nth_eq] at hv
    obtain ⟨v', h3, h4⟩ := he.at hv
    rcases h4 with h4 | h4
    · rw [h1] at h4; cases h4
    · refine ⟨v', ?_, h4⟩
      have : isUndef v' = false := by
        cases h4 with
        | tuple xs ys e1 e2 =>
          simp only [isUndef, Array.isEmpty_eq_false_iff] at h1 ⊢
          intro e3
          apply h1
          apply Array.eq_empty_of_size_eq_zero
          rw [e1, e3]; rfl
        | sym j =>
          have hp := Sy.plain j
          cases e : Sy.θ j <;> rw [e] at hp <;> first | rfl | (cases hp; done)
        | _ => rfl
      simp only [Ex.ev, h3, Option.bind_some, varV, this, Bool.false_eq_true, if_false]
  | const v =>
    intro hk r hr
    obtain rfl := Option.some.inj (show some v = some r from hr)
    exact ⟨v, rfl, conV_vq hs.fix 8 v hk⟩
  | op1 o x ih =>
    intro hk r hr
    obtain ⟨u, hu, hr1⟩ := orec_some (show (Option.rec none (y1 o) (xe h env x) : Option Value) = some r from hr)
    obtain ⟨u', g1, g2⟩ := ih hk hu
    obtain ⟨r', g3, g4⟩ := y1_vq g2 hr1
    exact ⟨r', by simp only [Ex.ev, g1, Option.bind_some]; exact g3, g4⟩
  | op2 o x y ih1 ih2 =>
    intro hk r hr
    simp only [Ex.kc, Bool.and_eq_true] at hk
    obtain ⟨u, hu, hr1⟩ := orec_some (show (Option.rec none (fun u => Option.rec none (y2 o u) (xe h env y)) (xe h env x) : Option Value) = some r from hr)
    obtain ⟨v, hv, hr2⟩ := orec_some hr1
    obtain ⟨u', g1, g2⟩ := ih1 hk.1 hu
    obtain ⟨v', g3, g4⟩ := ih2 hk.2 hv
    obtain ⟨r', g5, g6⟩ := y2_vq g2 g4 hr2
    exact ⟨r', by simp only [Ex.ev, g1, g3, Option.bind_some]; exact g5, g6⟩
  | op3 o x y z ih1 ih2 ih3 =>
    intro hk r hr
    simp only [Ex.kc, Bool.and_eq_true] at hk
    obtain ⟨u, hu, hr1⟩ := orec_some (show (Option.rec none (fun u => Option.rec none (fun v => Option.rec none (y3 o u v) (xe h env z)) (xe h env y)) (xe h env x) : Option Value) = some r from hr)
    obtain ⟨v, hv, hr2⟩ := orec_some hr1
    obtain ⟨t, ht, hr3⟩ := orec_some hr2
    obtain ⟨u', g1, g2⟩ := ih1 hk.1 hu
    obtain ⟨v', g3, g4⟩ := ih2 hk.2.1 hv
    obtain ⟨t', f1, f2⟩ := ih3 hk.2.2 ht
    obtain ⟨r', g5, g6⟩ := y3_vq g2 g4 f2 hr3
    exact ⟨r', by simp only [Ex.ev, g1, g3, f1, Option.bind_some]; exact g5, g6⟩
  | eqx ne d x y ih1 ih2 =>
    intro hk r hr
    simp only [Ex.kc, Bool.and_eq_true] at hk
    obtain ⟨u, hu, hr1⟩ := orec_some (show (Option.rec none (fun u => Option.rec none (fun v => Option.rec none (eNe ne) (xeq h d u v)) (xe h env y)) (xe h env x) : Option Value) = some r from hr)
    obtain ⟨v, hv, hr2⟩ := orec_some hr1
    obtain ⟨t, ht, hr3⟩ := orec_some hr2
    obtain ⟨u', g1, g2⟩ := ih1 hk.1 hu
    obtain ⟨v', g3, g4⟩ := ih2 hk.2 hv
    have g5 := xeq_vq hs d g2 g4 ht
    have : r = .bool (ne != t) := by cases ne <;> cases t <;> exact (Option.some.inj hr3).symm
    subst this
    exact ⟨_, by simp only [Ex.ev, g1, g3, g5, Option.bind_some, Option.map_some], .bool _⟩
  | pick c a b ih1 ih2 ih3 =>
    intro hk r hr
    simp only [Ex.kc, Bool.and_eq_true] at hk
    obtain ⟨u, hu, hr1⟩ := orec_some (show (Option.rec none (fun c => vBool c (fun t => Bool.rec (xe h env b) (xe h env a) t) none) (xe h env c) : Option Value) = some r from hr)
    obtain ⟨u', g1, g2⟩ := ih1 hk.1 hu
    cases u with
    | bool t =>
      obtain rfl : u' = .bool t := by cases g2; rfl
      cases t with
      | true =>
        obtain ⟨r', g3, g4⟩ := ih2 hk.2.1 hr1
        exact ⟨r', by simp only [Ex.ev, g1, Option.bind_some, pickV, if_true]; exact g3, g4⟩
      | false =>
        obtain ⟨r', g3, g4⟩ := ih3 hk.2.2 hr1
        exact ⟨r', by simp only [Ex.ev, g1, Option.bind_some, pickV, Bool.false_eq_true, if_false]; exact g3, g4⟩
    | _ => cases hr1
  | ld sz x ih =>
    intro hk r hr
    simp only [Ex.kc, Bool.and_eq_true] at hk
    obtain ⟨u, hu, hr1⟩ := orec_some (show (Option.rec none (yld h sz) (xe h env x) : Option Value) = some r from hr)
    obtain ⟨u', g1, g2⟩ := ih hk.2 hu
    obtain ⟨r', g3, g4⟩ := yld_vq hs (fun e => by subst e; cases hk.1) g2 hr1
    exact ⟨r', by simp only [Ex.ev, g1, Option.bind_some]; exact g3, g4⟩
  | bstr x ih =>
    intro hk r hr
    obtain ⟨u, hu, hr1⟩ := orec_some (show (Option.rec none (xbstr h) (xe h env x) : Option Value) = some r from hr)
    obtain ⟨u', g1, g2⟩ := ih hk hu
    obtain ⟨r', g3, g4⟩ := xbstr_vq hs g2 hr1
    exact ⟨r', by simp only [Ex.ev, g1, Option.bind_some]; exact g3, g4⟩
theorem xes_vq (hs : HS G wE ρ h m s w) (he : EnvQ ρ env env') : ∀ (es : List Ex), es.all (·.kc G) = true → ∀ {rs : List Value}, xes h env es = some rs → ∃ rs', evs env' w es = some rs' ∧ VQs ρ ⟨rs⟩ ⟨rs'⟩ := by
  intro es
  induction es with
  | nil =>
    intro _ rs hr
    obtain rfl := Option.some.inj (show some [] = some rs from hr)
    exact ⟨[], rfl, rfl, fun i u v hu => by simp at hu⟩
  | cons e r ih =>
    intro hk rs hr
    simp only [List.all_cons, Bool.and_eq_true] at hk
    obtain ⟨v, hv, hr1⟩ := orec_some (show (Option.rec none (fun v => Option.rec none (fun vs => some (v :: vs)) (xes h env r)) (xe h env e) : Option (List Value)) = some rs from hr)
    obtain ⟨vs, hvs, hr2⟩ := orec_some hr1
    obtain rfl := Option.some.inj hr2
    obtain ⟨v', g1, g2⟩ := xe_vq hs he e hk.1 hv
    obtain ⟨vs', g3, g4, g5⟩ := ih hk.2 hvs
    refine ⟨v' :: vs', by simp only [evs, g1, g3, Option.bind_some], by simpa using g4, fun i a b ha hb => ?_⟩
    cases i with
    | zero => simp at ha hb; subst ha; subst hb; exact g2
    | succ i => exact g5 i a b (by simpa using ha) (by simpa using hb)
end
end Go.Eng
