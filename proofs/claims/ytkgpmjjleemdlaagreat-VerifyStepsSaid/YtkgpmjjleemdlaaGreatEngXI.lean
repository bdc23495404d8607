/- Engine, part XI: append, made slices, cleared ones. -/
import Derived.Test.YtkgpmjjleemdlaaGreatEngXH
import Derived.Deep.Upon
set_option linter.unusedSimpArgs false
set_option linter.unusedVariables false
set_option linter.unusedSectionVars false
namespace Go.Eng
variable [Sy]

def LQ (ρ : Rho) (a b : List Value) : Prop := a.length = b.length ∧ ∀ (i : Nat) u v, a[i]? = some u → b[i]? = some v → VQ ρ u v
theorem LQ.nil (ρ : Rho) : LQ ρ [] [] := ⟨rfl, fun i u v hu => by simp at hu⟩
theorem LQ.append {ρ : Rho} {a b c d : List Value} (h : LQ ρ a b) (g : LQ ρ c d) : LQ ρ (a ++ c) (b ++ d) := by
  refine ⟨by simp [h.1, g.1], fun i u v hu hv => ?_⟩
  rcases Nat.lt_or_ge i a.length with hi | hi
  · rw [List.getElem?_append_left hi] at hu
    rw [List.getElem?_append_left (by have := h.1; omega)] at hv
    exact h.2 i u v hu hv
  · rw [List.getElem?_append_right hi] at hu
    rw [List.getElem?_append_right (by have := h.1; omega), ← h.1] at hv
    exact g.2 _ u v hu hv
theorem LQ.mono {ρ ρ' : Rho} {a b : List Value} (hr : ρ.Le ρ') (h : LQ ρ a b) : LQ ρ' a b := ⟨h.1, fun i u v hu hv => (h.2 i u v hu hv).mono hr⟩
theorem oneL_all : ∀ {l : List Value}, oneL l = true → ∀ v ∈ l, v.oneCell' = true := by
  intro l
  induction l with
  | nil => intro _ v hv; cases hv
  | cons a r ih =>
    intro h v hv
    have h' : (Bool.rec false (oneL r) a.oneCell' : Bool) = true := h
    cases e : a.oneCell' with
    | false => rw [e] at h'; cases h'
    | true =>
      rw [e] at h'
      rcases List.mem_cons.1 hv with rfl | hv
      · exact e
      · exact ih h' v hv
theorem oneIs_all : ∀ {l : List Value} {n : Nat}, oneIs l n = true → l.length = n ∧ ∀ v ∈ l, v.oneCell' = true := by
  intro l
  induction l with
  | nil => intro n h; cases n with
    | zero => exact ⟨rfl, fun v hv => by cases hv⟩
    | succ n => cases h
  | cons a r ih =>
    intro n h
    cases n with
    | zero => cases h
    | succ n =>
      have h' : (Bool.rec false (oneIs r n) a.oneCell' : Bool) = true := h
      cases e : a.oneCell' with
      | false => rw [e] at h'; cases h'
      | true =>
        rw [e] at h'
        obtain ⟨h1, h2⟩ := ih h'
        refine ⟨by simp [h1], fun v hv => ?_⟩
        rcases List.mem_cons.1 hv with rfl | hv
        · exact e
        · exact h2 v hv
theorem vq_one {ρ : Rho} {u v : Value} (h : VQ ρ u v) : v.oneCell' = u.oneCell' := h.oneCell
theorem LQ.one {ρ : Rho} {a b : List Value} (h : LQ ρ a b) (h1 : ∀ v ∈ a, v.oneCell' = true) : ∀ v ∈ b, v.oneCell' = true := by
  intro v hv
  obtain ⟨i, hi⟩ := List.getElem?_of_mem hv
  have hlt : i < a.length := by
    have := (List.getElem?_eq_some_iff.1 hi).1
    have := h.1; omega
  have := h.2 i _ v (List.getElem?_eq_getElem hlt) hi
  rw [vq_one this]
  exact h1 _ (List.getElem_mem hlt)
theorem setCells_put {b : Nat} {T : TypeId} {fz : Nat × Nat} : ∀ (vs : List Value) (o : Nat) (c : Array Value) (w : World), w.heap[b]? = some (.cells c T fz) → o + vs.length ≤ c.size → w.setCells b o vs = put w b (.cells (setRow c o vs) T fz)
  | [], o, c, w, hb, _ => by
    simp only [World.setCells, setRow, put]
    have : w.heap.setIfInBounds b (.cells c T fz) = w.heap := by
      apply Array.ext_getElem?
      intro j
      rw [Array.getElem?_setIfInBounds]
      split
      · rename_i h; subst h; rw [hb]; split <;> simp_all
      · rfl
    rw [this]
  | v :: vs, o, c, w, hb, hl => by
    simp only [List.length_cons] at hl
    have hlt : b < w.heap.size := blk_lt hb
    have hw : w.setCell ⟨b, o, none⟩ v = put w b (.cells (c.setIfInBounds o v) T fz) := by
      unfold World.setCell put
      congr 1
      apply Array.ext_getElem?
      intro j
      rw [Array.getElem?_modify, Array.getElem?_setIfInBounds]
      split
      · rename_i h; subst h; simp only [hb, Option.map_some, hlt, if_true]; rfl
      · rfl
    rw [World.setCells, hw, setCells_put vs (o + 1) (c.setIfInBounds o v) _ (put_same hlt) (by simp; omega), setRow]
    unfold put
    congr 1
    apply Array.ext_getElem?
    intro j
    simp only [Array.getElem?_setIfInBounds, Array.size_setIfInBounds]
    split <;> simp_all

section
variable {P : Program} {G : Nat} {wE w : World} {ρ : Rho} {h : HT} {m s : Nat}

theorem cell_of {w : World} {b : Nat} {c : Array Value} {T : TypeId} {fz : Nat × Nat} (hb : w.heap[b]? = some (.cells c T fz)) (o : Nat) : w.cell? ⟨b, o, none⟩ = c[o]? := by
  simp [World.cell?, hb]
/-- Cells that are there, in the world. -/
theorem HS.rowL (hs : HS G wE ρ h m s w) {b : Nat} {c : List Value} {T : TypeId} {t : Nat} (hb : h.get b = some (.cells c T t)) {o n : Nat} (hn : o + n ≤ c.length) :
    ∃ r : List Value, LQ ρ ((c.drop o).take n) r ∧ ∀ (j : Nat) u, r[j]? = some u → w.cell? ⟨ρ.σ b, o + j, none⟩ = some u := by
  obtain ⟨_, c', T', fz, h1, h2, h3⟩ := hs.cellsR hb
  refine ⟨(c'.extract o (o + n)).toList, ⟨?_, fun i u v hu hv => ?_⟩, fun j u hu => ?_⟩
  · have := h3.1
    simp; omega
  · rw [Array.getElem?_toList, Array.getElem?_extract] at hv
    rw [List.getElem?_take] at hu
    split at hu
    · rw [List.getElem?_drop] at hu
      split at hv
      · exact h3.2 _ _ _ hu hv
      · cases hv
    · cases hu
  · rw [Array.getElem?_toList, Array.getElem?_extract] at hu
    rw [cell_of h1]
    split at hu
    · exact hu
    · cases hu
/-- An element's type, as append asks it. -/
structure ElT (P : Program) (t e sz : Nat) : Prop where
  ex : ∃ i z, P.underlying t = some (.slice e) ∧ P.info? e = some i ∧ i.zero = some z ∧ z.cells.size = i.size ∧ i.size = sz ∧ i.bytes ≤ 65536
theorem fits {k b : Nat} (h1 : k ≤ 1000000000) (h2 : b ≤ 65536) : k * b ≤ 140737488355328 := Nat.le_trans (Nat.mul_le_mul h1 h2) (by decide)
theorem xfirst_some (hs : HS G wE ρ h m s w) {α : Type} {sz k : Nat} {y y' : Value} {K : List Value → Option α} {r : α} (hy : VQ ρ y y') (hl : xlen y = some k) (hk : k ≠ 0) {t2 : TypeId} (ht : ∃ e, P.underlying t2 = some (.slice e))
    (hr : xfirst h sz k y K = some r) : ∃ new new', K new = some r ∧ LQ ρ new new' ∧ ((∀ v ∈ new, v.oneCell' = true) → Src P sz t2 y' k new' w) := by
  obtain ⟨e, ht⟩ := ht
  obtain ⟨a, n, c, rfl⟩ : ∃ a n c, y = .slice a n c := by
    cases y with
    | slice a n c => exact ⟨a, n, c, rfl⟩
    | _ => cases hl
  obtain rfl := Option.some.inj hl
  obtain ⟨p, rfl⟩ : ∃ p, n = p + 1 := ⟨n - 1, by omega⟩
  have key : ∀ b o c', (∃ e, P.underlying t2 = some (.slice e)) → (hCells h b (fun c _ _ => takeK ((p + 1) * sz) (dropL o c) K) none) = some r → y' = .slice (some ⟨ρ.σ b, o, none⟩) (p + 1) c' → ∃ new new', K new = some r ∧ LQ ρ new new' ∧ ((∀ v ∈ new, v.oneCell' = true) → Src P sz t2 y' (p + 1) new' w) := by
    rintro b o c' ⟨e, ht⟩ h1 rfl
    obtain ⟨cs, T, t, h2, h3⟩ := hCells_some h1
    rw [dropL_eq] at h3
    obtain ⟨h4, h5⟩ := takeK_some h3
    rw [List.length_drop] at h4
    by_cases hz : (p + 1) * sz = 0
    · refine ⟨_, [], h5, ⟨by simp [hz], fun i u v _ hv => by simp at hv⟩, fun _ => Src.ofSlice w ht _ _ _ [] (by simp [hz]) (fun j u hu => by simp at hu) (fun v hv => by cases hv)⟩
    · obtain ⟨r', g1, g2⟩ := hs.rowL h2 (o := o) (n := (p + 1) * sz) (by omega)
      refine ⟨_, r', h5, g1, fun h1 => Src.ofSlice w ht _ _ _ r' ?_ (fun j u hu => by rw [add_none]; exact g2 j u hu) (g1.one h1)⟩
      rw [← g1.1, List.length_take, List.length_drop]
      omega
  cases hy with
  | slice b o sp n c hb hc =>
    cases sp with
    | some sp => cases hr
    | none => exact key b o _ ⟨e, ht⟩ hr rfl
  | sliceU b o o' n c c' hb h1 h2 h3 h4 h5 =>
    have e2 : o = o' := by
      rcases h4 with h4 | h4
      · exact h4
      · omega
    subst e2
    exact key b o _ ⟨e, ht⟩ hr rfl
  | snil => cases hr
theorem isSy_one {v : Value} (h : isSy v = true) : (syV Sy.θ v).oneCell' = true := by
  have h1 := (vq_sy (ρ := ⟨fun _ => False, id, id⟩) h).oneCell
  rw [h1]
  cases v <;> first | rfl | (cases h; done)
theorem xrowY_some (hs : HS G wE ρ h m s w) {α : Type} {sz k : Nat} {y y' : Value} {K : List Value → Option α} {r : α} (hy : VQ ρ y y') (hl : xlenY y = some k) (hk : k ≠ 0) {t2 : TypeId} (ht : ∃ e, P.underlying t2 = some (.slice e))
    (hr : xrowY h sz k y K = some r) : ∃ new new', K new = some r ∧ LQ ρ new new' ∧ ((∀ v ∈ new, v.oneCell' = true) → Src P sz t2 y' k new' w) := by
  have hl0 : (Option.rec (xlen y) (fun l => some (lenL l)) (Sy.fr y) : Option Nat) = some k := hl
  have hr0 : (Option.rec (xfirst h sz k y K) (fun l => Bool.rec none (K l) (Nat.beq sz 1)) (Sy.fr y) : Option α) = some r := hr
  cases hfr : Sy.fr y with
  | none =>
    rw [hfr] at hl0 hr0
    exact xfirst_some hs hy hl0 hk ht hr0
  | some l =>
    rw [hfr] at hl0 hr0
    obtain ⟨e, ht⟩ := ht
    obtain ⟨h1, h2⟩ := brec_some (show (Bool.rec none (K l) (Nat.beq sz 1) : Option α) = some r from hr0)
    obtain rfl := Nat.eq_of_beq_eq_true h1
    obtain ⟨r1, r2, r3⟩ := Sy.okr y l hfr
    obtain ⟨ad, c, r4, r5⟩ := r3 w hs.ktrue
    obtain rfl := (lenL_eq l).symm.trans (Option.some.inj hl0)
    obtain ⟨b, o, rfl, r6⟩ := r5.resolve_left hk
    refine ⟨l, l.map (syV Sy.θ), h2, ⟨by simp, fun i u v hu hv => ?_⟩, fun _ => ?_⟩
    · rw [List.getElem?_map, hu] at hv
      obtain rfl := Option.some.inj hv
      exact vq_sy (r2 u (List.mem_of_getElem? hu))
    · rw [sy_vq r1 hy, r4]
      refine Src.ofSlice w ht _ _ _ _ (by simp) (fun j u hu => ?_) (fun v hv => ?_)
      · rw [List.getElem?_map, Option.map_eq_some_iff] at hu
        obtain ⟨u0, hu0, rfl⟩ := hu
        rw [add_none]
        exact cell?_of_cellAt (r6 j u0 hu0)
      · obtain ⟨u0, hu0, rfl⟩ := List.mem_map.1 hv
        exact isSy_one (r2 u0 hu0)
theorem off_put (w : World) (b : Nat) (o : Obj) : Off w (put w b o) (· = b) := ⟨rfl, rfl, rfl, by simp, fun p _ hp => put_other hp⟩
theorem off_drew_alloc (w : World) (o : Obj) (S : Nat → Prop) : Off w (w.drew.alloc o) S := by
  have h := Off.alloc w.drew o S
  exact ⟨h.os, h.tape, h.output, h.size, h.block⟩
/-- What an operation that hands back a value and may turn the memory comes to. -/
def Came (G : Nat) (wE : World) (ρ : Rho) (h : HT) (m s : Nat) (w : World) (a : XA) (v' : Value) (w' : World) : Prop :=
  ∃ ρ', VQ ρ' a.v v' ∧ HS G wE ρ' a.h a.m a.s w' ∧ Step m ρ ρ' h a.h m a.m s a.s w w'
attribute [local irreducible] capS capB capN
/-- The memory has one block more (old ++ new, behind an append), which the world has too. -/
theorem appNew_came (hs : HS G wE ρ h m s w) {ρ0 : Rho} {h0 : HT} {w0 : World} (hs0 : HS G wE ρ0 h0 m s w0) (st : Step m ρ0 ρ h0 h m m s s w0 w) {T sz n : Nat} {old new : List Value} {a : XA} (hr : appNew h m s T sz n old new = some a) {p c' : Nat} {cs : Array Value} {T' : TypeId}
    (hp : wE.heap.size ≤ p) (hi : ∀ b o, h.get b = some o → ρ.σ b ≠ p) (hw : w0.heap.size ≤ p ∨ ∃ b0 o0, h0.get b0 = some o0 ∧ ρ0.σ b0 = p) (hb : w.heap[p]? = some (.cells cs T' (0, 0))) (hv : VL ρ (old ++ new) cs) (hz : cs.size = c' * sz) (hn : n ≤ c') (hc : c' ≤ maxLen) :
    Came G wE ρ0 h0 m s w0 a (.slice (some ⟨p, 0, none⟩) n c') w := by
  obtain ⟨h1, h2⟩ := brec_some (show (Bool.rec none (Bool.rec none (appK old new fun cs => HT.setK h m (some (.cells cs T s)) fun h' => fN n fun n => fN (Nat.succ m) fun m' => fN (Nat.succ s) fun s' => fN (Nat.add capU sz) fun c => some ⟨.slice (some ⟨m, 0, none⟩) n c, h', m', s'⟩) (Nat.blt sz 1099511627776)) (Nat.ble n 1000000000) : Option XA) = some a from hr)
  obtain ⟨h3, h2⟩ := brec_some h2
  have h3 := blt_true h3
  rw [appK_eq, HT.setK_eq, fN_eq, fN_eq, fN_eq, fN_eq] at h2
  obtain rfl := Option.some.inj h2
  have hk : ¬ ρ.D m := fun hd => Nat.lt_irrefl _ (hs.dom m hd)
  refine ⟨ρ.bind m p cs.size, ?_, hs.bind hk (Nat.lt_succ_self m) (Nat.le_succ m) hp hi hb hv, Step.bind hs0 st hs hk (Nat.le_refl _) (Nat.le_succ m) _ _ hw⟩
  have : VQ (ρ.bind m p cs.size) (.slice (some ⟨m, 0, none⟩) n (capU + sz)) (.slice (some ⟨(ρ.bind m p cs.size).σ m, 0, none⟩) n c') := by
    refine .sliceU m 0 0 n (capU + sz) c' (Rho.bind_D _ _ _ _) (Nat.le_add_right _ _) hn hc (.inl rfl) fun _ => ⟨rfl, ?_, ?_⟩
    · rw [Rho.bind_Z, hz, capS_new h3]
    · rw [capB_new h3]; exact Nat.zero_le _
  rw [Rho.bind_σ] at this
  exact this
theorem appNew_n {h : HT} {m s T sz n : Nat} {old new : List Value} {a : XA} (hr : appNew h m s T sz n old new = some a) : n ≤ 1000000000 := Nat.le_of_ble_eq_true (brec_some hr).1
/-- append finds no room. -/
theorem app_grow (hs : HS G wE ρ h m s w) {h1 : HT} (hs1 : HS G wE ρ h1 m s w) (st1 : Step m ρ ρ h h1 m m s s w w) {t t2 ty e sz : Nat} (ht : ElT P t e sz) {T k n oc : Nat} {base : Option Addr} {old new old' new' : List Value} {a : XA} {y' : Value} (hr : appNew h1 m s T sz (n + k) old new = some a)
    (hold : (Builtin.firstCells sz n (.slice base n oc)).run P w.drew = .ok old'.toArray w.drew) (ho : old'.length = n * sz) (h3 : LQ ρ old old') (h4 : LQ ρ new new') (hsrc : Src P sz t2 y' k new' w) (hg : oc < n + k) :
    ∃ v' w', (Builtin.append_ #[t, t2] ty #[.slice base n oc, y']).run P w = .ok v' w' ∧ Came G wE ρ h m s w a v' w' := by
  obtain ⟨i, z, g1, g2, g3, g4, rfl, g6⟩ := ht.ex
  have hn := appNew_n hr
  have hm : n + k ≤ maxLen := by simp only [maxLen]; omega
  have hrun := run_append_grow_src (P := P) w t t2 ty e i z g1 g2 g3 base n oc old' hold y' k new' hsrc hg (by omega) (growslice_fits hg (fits hn g6))
  refine ⟨_, _, hrun, ?_⟩
  have hge := grownCap_ge w (n + k) oc e
  have hcm := grownCap_le_maxLen w (n + k) oc e hm
  generalize grownCap w (n + k) oc e = c' at hge hcm
  have hoff := off_drew_alloc w (.cells ((old' ++ new').toArray ++ Builtin.zeroCells z.cells (c' - (n + k))) e) (fun _ => False)
  have hs2 := hs1.off hoff (fun _ _ _ h => h) (fun _ _ h => h)
  have st2 := Step.off hs hs1 st1 hoff (fun _ _ _ h => h) (fun _ h => h.elim)
  refine appNew_came hs2 hs st2 hr hs.kept.size (fun b o hb e => ?_) (.inl (Nat.le_refl _)) (hp_new w.drew _) ?_ ?_ hge hcm
  · have := hs1.blk hb
    omega
  · have hl := h3.append h4
    refine ⟨by simp only [Array.size_append, List.size_toArray, hl.1]; omega, fun i u v hu hv => ?_⟩
    rw [Array.getElem?_append_left (by have := (List.getElem?_eq_some_iff.1 hu).1; simp only [List.size_toArray, ← hl.1]; exact this)] at hv
    exact hl.2 i u v hu (by simpa using hv)
  · rw [Array.size_append, List.size_toArray, size_zeroCells, List.length_append, ho, hsrc.newsLen, g4, ← Nat.add_mul, ← Nat.add_mul]
    congr 1
    omega
theorem hWrite_some {α : Type} {b : Nat} {f : List Value → TypeId → Option α} {r : α} (h1 : hWrite h b f none = some r) : ∃ c T t, h.get b = some (.cells c T t) ∧ t ≠ 0 ∧ f c T = some r := by
  obtain ⟨c, T, t, h2, h3⟩ := hCells_some h1
  cases t with
  | zero => cases h3
  | succ t => exact ⟨c, T, t + 1, h2, by omega, h3⟩
theorem vl_setRow {c new : List Value} {c' : Array Value} {new' : List Value} {o : Nat} (h1 : VL ρ c c') (h2 : LQ ρ new new') (ho : o + new.length ≤ c.length) : VL ρ (setRow c.toArray o new).toList (setRow c' o new') := by
  have hsz := h1.1
  have hl := h2.1
  refine ⟨by rw [Array.length_toList, setRow_size, setRow_size]; simpa using hsz, fun i u v hu hv => ?_⟩
  rw [Array.getElem?_toList] at hu
  rw [setRow_eq] at hu hv
  simp only [List.size_toArray, List.getElem?_toArray] at hu
  by_cases hi : o ≤ i ∧ i < o + new.length ∧ i < c.length
  · rw [if_pos hi] at hu
    rw [if_pos (by omega)] at hv
    exact h2.2 _ _ _ hu hv
  · rw [if_neg hi] at hu
    rw [if_neg (by omega)] at hv
    exact h1.2 _ _ _ hu hv
theorem app_vq (hs : HS G wE ρ h m s w) {t t2 ty e sz : Nat} (ht : ElT P t e sz) {T : Nat} {x x' y y' : Value} {a : XA} (hx : VQ ρ x x') (hy : VQ ρ y y') (h2 : ∃ e, P.underlying t2 = some (.slice e))
    (hr : xapp h m s T sz x y = some a) : ∃ v' w', (Builtin.append_ #[t, t2] ty #[x', y']).run P w = .ok v' w' ∧ Came G wE ρ h m s w a v' w' := by
  obtain ⟨i, z, g1, g2, g3, g4, g5, g6⟩ := ht.ex
  obtain ⟨k, hk, hr1⟩ := orec_some (show (Option.rec none (fun k => Nat.rec (motive := fun _ => Option XA) (app0 x h m s) (fun p _ => fN (Nat.succ p) fun k => xrowY h sz k y fun new => Bool.rec none (appMore h m s T sz k x new) (oneL new)) k) (xlenY y) : Option XA) = some a from hr)
  cases k with
  | zero =>
    have hr2 : app0 x h m s = some a := hr1
    have hsrc : Src P i.size t2 y' 0 [] w := by
      obtain ⟨e2, ht2⟩ := h2
      have hk0 : (Option.rec (xlen y) (fun l => some (lenL l)) (Sy.fr y) : Option Nat) = some 0 := hk
      cases hfr : Sy.fr y with
      | some l =>
        rw [hfr] at hk0
        obtain ⟨r1, r2, r3⟩ := Sy.okr y l hfr
        obtain ⟨ad, c, r4, r5⟩ := r3 w hs.ktrue
        rw [sy_vq r1 hy, r4, ← lenL_eq, Option.some.inj hk0]
        cases ad with
        | none => exact Src.ofNil w ht2 _
        | some ad => exact Src.ofSlice w ht2 _ _ _ [] (by simp) (fun j u hu => by simp at hu) (fun v hv => by cases hv)
      | none =>
      rw [hfr] at hk0
      replace hk := hk0
      cases hy <;> try (cases hk; done)
      · obtain rfl := Option.some.inj hk
        exact Src.ofNil w ht2 _
      · obtain rfl := Option.some.inj hk
        exact Src.ofSlice w ht2 _ _ _ [] (by simp) (fun j u hu => by simp at hu) (fun v hv => by cases hv)
      · obtain rfl := Option.some.inj hk
        exact Src.ofSlice w ht2 _ _ _ [] (by simp) (fun j u hu => by simp at hu) (fun v hv => by cases hv)
    have key : ∀ base n c, n ≤ c → x' = .slice base n c → a = ⟨x, h, m, s⟩ → ∃ v' w', (Builtin.append_ #[t, t2] ty #[x', y']).run P w = .ok v' w' ∧ Came G wE ρ h m s w a v' w' := by
      rintro base n c hle rfl rfl
      exact ⟨_, _, run_append_nothing w t t2 ty e i g1 g2 base n c hle y' hsrc, ρ, hx, hs, Step.refl _ _ _ _ _ _⟩
    cases hx with
    | snil n c =>
      obtain ⟨h3, h4⟩ := brec_some (show (Bool.rec none (some ⟨_, h, m, s⟩) (Nat.ble n c) : Option XA) = some a from hr2)
      exact key _ _ _ (Nat.le_of_ble_eq_true h3) rfl (Option.some.inj h4).symm
    | slice b o sp n c hb hc =>
      obtain ⟨h3, h4⟩ := brec_some (show (Bool.rec none (some ⟨_, h, m, s⟩) (Nat.ble n c) : Option XA) = some a from hr2)
      exact key _ _ _ (Nat.le_of_ble_eq_true h3) rfl (Option.some.inj h4).symm
    | sliceU b o o' n c c' hb e1 e2 e3 e4 e5 =>
      obtain ⟨h3, h4⟩ := brec_some (show (Bool.rec none (some ⟨_, h, m, s⟩) (Nat.ble n c) : Option XA) = some a from hr2)
      exact key _ _ _ e2 rfl (Option.some.inj h4).symm
    | _ => cases hr2
  | succ p =>
    have hr2 : xrowY h sz (p + 1) y (fun new => Bool.rec none (appMore h m s T sz (p + 1) x new) (oneL new)) = some a := by
      have := hr1
      simp only [fN_eq] at this
      exact this
    obtain ⟨new, new', h3, h4, h5⟩ := xrowY_some (P := P) hs hy hk (by omega) h2 hr2
    obtain ⟨h6, h7⟩ := brec_some h3
    have hsrc := h5 (oneL_all h6)
    generalize hkk : p + 1 = k at *
    subst g5
    cases hx with
    | snil n c =>
      have h8 : (match (Value.slice none n c) with
        | .slice none 0 0 => appNew h m s T i.size k [] new
        | _ => none) = some a := h7
      split at h8
      · rename_i e0
        injection e0 with _ e1 e2
        subst e1; subst e2
        have hold : (Builtin.firstCells i.size 0 (.slice none 0 0)).run P w.drew = .ok ([] : List Value).toArray w.drew := run_firstCells_none w.drew i.size 0 0 0
        exact app_grow hs hs (Step.refl _ _ _ _ _ _) ht (n := 0) (k := k) (old := []) (old' := []) (by simpa using h8) hold (by simp) (LQ.nil ρ) h4 hsrc (by omega)
      · cases h8
    | slice b o sp n c hb hc =>
      cases sp with
      | some sp => cases h7
      | none =>
        have e0 : Nat.blt c capU = true := Nat.ble_eq_true_of_le hc
        have h8 : (Bool.rec (appU h m s T i.size b o n c k new) (Bool.rec (xfirst h i.size n (.slice (some ⟨b, o, none⟩) n c) fun old => appNew h m s T i.size (n + k) old new) (appI h m s i.size b o n c k new) (Nat.ble (n + k) c)) (Nat.blt c capU) : Option XA) = some a := h7
        rw [e0] at h8
        cases e1 : Nat.ble (n + k) c with
        | false =>
          rw [e1] at h8
          have hlt : c < n + k := by
            rcases Nat.lt_or_ge c (n + k) with g | g
            · exact g
            · rw [Nat.ble_eq_true_of_le g] at e1; cases e1
          have h9 : xfirst h i.size n (.slice (some ⟨b, o, none⟩) n c) (fun old => appNew h m s T i.size (n + k) old new) = some a := h8
          cases n with
          | zero =>
            have h10 : appNew h m s T i.size (0 + k) [] new = some a := h9
            have hold : (Builtin.firstCells i.size 0 (.slice (some ⟨ρ.σ b, o, none⟩) 0 c)).run P w.drew = .ok ([] : List Value).toArray w.drew := run_firstCells_some w.drew i.size 0 _ 0 c [] (by simp) (fun j u hu => by simp at hu)
            exact app_grow hs hs (Step.refl _ _ _ _ _ _) ht h10 hold (by simp) (LQ.nil ρ) h4 hsrc hlt
          | succ q =>
            obtain ⟨cs, T1, t1, f1, f2⟩ := hCells_some (show hCells h b (fun c _ _ => takeK ((q + 1) * i.size) (dropL o c) fun old => appNew h m s T i.size (q + 1 + k) old new) none = some a from h9)
            rw [dropL_eq] at f2
            obtain ⟨f3, f4⟩ := takeK_some f2
            rw [List.length_drop] at f3
            have hold : ∃ old', LQ ρ ((cs.drop o).take ((q + 1) * i.size)) old' ∧ (Builtin.firstCells i.size (q + 1) (.slice (some ⟨ρ.σ b, o, none⟩) (q + 1) c)).run P w.drew = .ok old'.toArray w.drew ∧ old'.length = (q + 1) * i.size := by
              by_cases hz : (q + 1) * i.size = 0
              · exact ⟨[], by rw [hz]; exact LQ.nil ρ, run_firstCells_some w.drew i.size _ _ _ _ [] (by simp [hz]) (fun j u hu => by simp at hu), by simp [hz]⟩
              · obtain ⟨r', k1, k2⟩ := hs.rowL f1 (o := o) (n := (q + 1) * i.size) (by omega)
                have hlen : r'.length = (q + 1) * i.size := by rw [← k1.1, List.length_take, List.length_drop]; omega
                exact ⟨r', k1, run_firstCells_some w.drew i.size _ _ _ _ r' hlen (fun j u hu => by rw [add_none]; exact k2 j u hu), hlen⟩
            obtain ⟨old', k1, k2, k3⟩ := hold
            exact app_grow hs hs (Step.refl _ _ _ _ _ _) ht f4 k2 k3 k1 h4 hsrc hlt
        | true =>
          rw [e1] at h8
          have hle := Nat.le_of_ble_eq_true e1
          obtain ⟨cs, T1, t1, f1, f2, f3⟩ := hWrite_some (show hWrite h b (fun cs T' => putK (o + n * i.size) new cs fun cs' => HT.setK h b (some (.cells cs' T' s)) fun h' => fN (n + k) fun n => fN (s + 1) fun s' => some ⟨.slice (some ⟨b, o, none⟩) n c, h', m, s'⟩) none = some a from h8)
          obtain ⟨f4, f5⟩ := putK_some f3
          rw [HT.setK_eq, fN_eq, fN_eq] at f5
          obtain rfl := Option.some.inj f5
          obtain ⟨hd, c0, T0, k1, k2, k3⟩ := hs.cells f1 f2
          have hl := h4.1
          have hfit : o + n * i.size + new'.length ≤ c0.size := by have := k3.1; omega
          have hrun := run_append_room_src (P := P) w t t2 ty e i g1 g2 (ρ.σ b) o n c y' k new' hsrc hle (fun j hj => by
            rw [cell_of k1, Array.getElem?_eq_getElem (by omega)]; rfl) (fun j hj => by
            simp [World.frozen?, k1])
          rw [setCells_put new' _ c0 w k1 hfit] at hrun
          have hoff := off_put w (ρ.σ b) (.cells (setRow c0 (o + n * i.size) new') T0 (0, 0))
          refine ⟨_, _, hrun, ρ, .slice b o none _ c hb hc, hs.write f1 f2 (by rw [setRow_size]; exact k2) (vl_setRow k3 h4 f4) hoff (put_same (hs.blk f1)), Step.write hs (Step.refl _ _ _ _ _ _) hs f1 hoff⟩
    | sliceU b o o' n c c' hb e1 e2 e3 e4 e5 =>
      have e0 : Nat.blt c capU = false := by
        cases e0 : Nat.blt c capU
        · rfl
        · exact absurd (blt_true e0) (by omega)
      have h8 : (Bool.rec (appU h m s T i.size b o n c k new) (Bool.rec (xfirst h i.size n (.slice (some ⟨b, o, none⟩) n c) fun old => appNew h m s T i.size (n + k) old new) (appI h m s i.size b o n c k new) (Nat.ble (n + k) c)) (Nat.blt c capU) : Option XA) = some a := h7
      rw [e0] at h8
      have h8' : appU h m s T i.size b o n c k new = some a := h8
      unfold appU at h8'
      obtain ⟨h9, h10⟩ := brec_some h8'
      have h9 := Nat.eq_of_beq_eq_true h9
      cases o with
      | succ o => cases h10
      | zero =>
        obtain ⟨rfl, e6, e7⟩ := e5 rfl
        obtain ⟨cs, T1, t1, f1, f2, f3⟩ := hWrite_some h10
        obtain ⟨hd, c0, T0, k1, k2, k3⟩ := hs.cells f1 f2
        have hz : c0.size = c' * i.size := by rw [k2, e6, h9]
        have hsz : i.size < 1099511627776 := by rw [← h9]; exact capS_lt c
        rw [fN_eq] at f3
        cases hB : Nat.ble (Nat.add n k) (Nat.div (lenL cs) i.size) with
        | true =>
          rw [hB] at f3
          simp only [Nat.mul_eq, Nat.add_eq] at f3
          have hle : n + k ≤ lenL cs / i.size := Nat.le_of_ble_eq_true hB
          rw [lenL_eq] at f3 hle
          have hB' : cs.length / i.size ≤ c' := by
            apply Nat.div_le_of_le_mul
            have := k3.1
            rw [Nat.mul_comm]
            omega
          obtain ⟨f4, f5⟩ := putK_some f3
          rw [HT.setK_eq, fN_eq, fN_eq, fN_eq] at f5
          obtain rfl := Option.some.inj f5
          have hl := h4.1
          have hfit : 0 + n * i.size + new'.length ≤ c0.size := by have := k3.1; omega
          have hrun := run_append_room_src (P := P) w t t2 ty e i g1 g2 (ρ.σ b) 0 n c' y' k new' hsrc (by omega) (fun j hj => by
            rw [cell_of k1, Array.getElem?_eq_getElem (by omega)]; rfl) (fun j hj => by
            simp [World.frozen?, k1])
          rw [setCells_put new' _ c0 w k1 hfit] at hrun
          have hoff := off_put w (ρ.σ b) (.cells (setRow c0 (0 + n * i.size) new') T0 (0, 0))
          have hv : VQ ρ (.slice (some ⟨b, 0, none⟩) (n + k) (capN i.size (cs.length / i.size))) (.slice (some ⟨ρ.σ b, 0, none⟩) (n + k) c') := by
            refine .sliceU b 0 0 _ _ c' hb (capN_ge _ _) (Nat.le_trans hle hB') e3 (.inl rfl) (fun _ => ⟨rfl, ?_, ?_⟩)
            · rw [capS_add hsz, e6, h9]
            · exact Nat.le_trans (capB_add hsz) hB'
          exact ⟨_, _, hrun, ρ, hv, hs.write f1 f2 (by rw [setRow_size]; exact k2) (by rw [Nat.zero_add]; exact vl_setRow k3 h4 f4) hoff (put_same (hs.blk f1)), Step.write hs (Step.refl _ _ _ _ _ _) hs f1 hoff⟩
        | false =>
        rw [hB] at f3
        simp only [Nat.mul_eq, Nat.add_eq] at f3
        obtain ⟨f4, f5⟩ := takeK_some f3
        rw [HT.setK_eq] at f5
        have hs1 := hs.drop b
        have st1 := (Step.refl m ρ h m s w).drop b
        obtain ⟨r', q1, q2⟩ := hs.rowL f1 (o := 0) (n := n * i.size) (by omega)
        simp only [List.drop_zero] at q1
        have hlen : r'.length = n * i.size := by rw [← q1.1, List.length_take]; omega
        by_cases hroom : n + k ≤ c'
        · have hfit : 0 + n * i.size + new'.length ≤ c0.size := by
            rw [hsrc.newsLen, hz, Nat.zero_add, ← Nat.add_mul]; exact Nat.mul_le_mul_right _ hroom
          have hrun := run_append_room_src (P := P) w t t2 ty e i g1 g2 (ρ.σ b) 0 n c' y' k new' hsrc hroom (fun j hj => by
            rw [cell_of k1, Array.getElem?_eq_getElem (by omega)]; rfl) (fun j hj => by
            simp [World.frozen?, k1])
          rw [setCells_put new' _ c0 w k1 hfit] at hrun
          have hoff := off_put w (ρ.σ b) (.cells (setRow c0 (0 + n * i.size) new') T0 (0, 0))
          have hnot : ∀ b1 o1, (h.set b none).get b1 = some o1 → ρ.σ b1 ≠ ρ.σ b := by
            intro b1 o1 h1 e2
            by_cases e3 : b1 = b
            · subst e3; cases HT.get_same h1
            · rw [HT.get_other _ _ e3] at h1
              exact e3 (hs.inj _ _ _ _ h1 f1 e2)
          have hE := hs.own b _ f1 f2
          have hs2 := hs1.off hoff hnot (fun p hp e => by omega)
          have st2 := Step.off hs hs1 st1 hoff hnot (fun p e _ => ⟨b, _, f1, e.symm⟩)
          refine ⟨_, _, hrun, appNew_came hs2 hs st2 f5 hE hnot (.inr ⟨b, _, f1, rfl⟩) (put_same (hs.blk f1)) ?_ (by rw [setRow_size]; exact hz) hroom e3⟩
          -- the prefix and what is put behind it
          have hl := h4.1
          have hl1 := q1.1
          refine ⟨by rw [setRow_size, List.length_append, hl1, hl, hlen]; omega, fun j u v hu hv => ?_⟩
          rw [setRow_eq] at hv
          by_cases hj : j < n * i.size
          · rw [List.getElem?_append_left (by omega), List.getElem?_take_of_lt hj] at hu
            rw [if_neg (by omega)] at hv
            exact k3.2 j u v hu hv
          · rw [List.getElem?_append_right (by omega)] at hu
            have hlt := (List.getElem?_eq_some_iff.1 hu).1
            rw [if_pos (by omega)] at hv
            rw [show j - (0 + n * i.size) = j - (cs.take (n * i.size)).length by omega] at hv
            exact h4.2 _ u v hu hv
        · have hold := run_firstCells_some (P := P) w.drew i.size n ⟨ρ.σ b, 0, none⟩ n c' r' hlen (fun j u hu => by rw [add_none]; exact q2 j u hu)
          exact app_grow hs hs1 st1 ht f5 hold hlen q1 h4 hsrc (by omega)
    | _ => cases h7
end
end Go.Eng
