/- Engine, part XK: what the interpreter tells of a command, the command does. -/
import Derived.Lib.ConvBytes
import Derived.Test.YtkgpmjjleemdlaaGreatEngXJ
import Derived.Laws.IdiomCopy
import Derived.MapKept
import Derived.Laws.Externs
set_option linter.unusedSimpArgs false
set_option linter.unusedVariables false
set_option linter.unusedSectionVars false
namespace Go.Eng
variable [Sy]
section
variable {P : Program} {G : Nat} {wE w w' : World} {ρ ρ' : Rho} {h h' : HT} {m m' s s' : Nat} {env env' : Env}

theorem hWrite_st {b : Nat} {f : List Value → TypeId → XS} {xx : Exit} {env2 : Env} {h2 : HT} {m2 s2 r2 : Nat} (h1 : hWrite h b f .bad = .st xx env2 h2 m2 s2 r2) : ∃ c T t, h.get b = some (.cells c T t) ∧ t ≠ 0 ∧ f c T = .st xx env2 h2 m2 s2 r2 := by
  unfold hWrite hCells at h1
  split at h1
  · rename_i c T t hb
    cases t with
    | zero => cases h1
    | succ t => exact ⟨c, T, t + 1, hb, by omega, h1⟩
  · cases h1
theorem vq_cells {u v : Value} (hv : VQ ρ u v) : LQ ρ u.cells.toList v.cells.toList := by
  have := hv.cells
  exact ⟨by simpa using this.1, fun i a b ha hb => this.2 i a b (by simpa using ha) (by simpa using hb)⟩
theorem lq_vl {a : List Value} {b : Array Value} (h : LQ ρ a b.toList) : VL ρ a b := ⟨by have := h.1; simp at this; omega, fun i u v hu hv => h.2 i u v hu (by simpa using hv)⟩
theorem madeCells_flat (z : Array Value) : ∀ (n : Nat), (madeCells z (n * z.size)).toList = (List.replicate n z.toList).flatten := by
  intro n
  induction n with
  | zero => simp [madeCells]
  | succ n ih =>
    rw [List.replicate_succ, List.flatten_cons, ← ih, Nat.succ_mul, Nat.add_comm]
    simp only [madeCells, Array.toList_map, Array.toList_range]
    rw [List.range_add, List.map_append]
    congr 1
    · apply List.ext_getElem?
      intro i
      rw [List.getElem?_map]
      by_cases hi : i < z.size
      · rw [List.getElem?_range hi, Array.getElem?_toList, Array.getElem?_eq_getElem hi, Option.map_some, Nat.mod_eq_of_lt hi, getElem!_pos z i hi]
      · rw [List.getElem?_eq_none (by simp; omega), List.getElem?_eq_none (by simp; omega)]
        rfl
    · rw [List.map_map]
      apply List.map_congr_left
      intro i _
      simp [Nat.add_mod_left]
theorem repK_eq (z : List Value) : ∀ (n : Nat) (k : List Value → Option XA), repK z n k = k (List.replicate n z).flatten
  | 0, k => rfl
  | n + 1, k => by
    show repK z n (fun l => appK z l k) = _
    rw [repK_eq z n, appK_eq, List.replicate_succ, List.flatten_cons]
theorem con_lq (hf : ∀ b, b < G → ρ.D b ∧ ρ.σ b = b) {l : List Value} (h : ∀ v ∈ l, conV G 8 v = true) : LQ ρ l l := ⟨rfl, fun i u v hu hv => by
  rw [hu] at hv
  obtain rfl := Option.some.inj hv
  exact conV_vq hf 8 u (h u (List.mem_of_getElem? hu))⟩
theorem mem_flat {α : Type} {l : List α} {n : Nat} {v : α} (h : v ∈ (List.replicate n l).flatten) : v ∈ l := by
  obtain ⟨r, hr, hv⟩ := List.mem_flatten.1 h
  rw [(List.mem_replicate.1 hr).2] at hv
  exact hv
/-- A new block. -/
theorem new_came (hs : HS G wE ρ h m s w) {c : List Value} {cs : Array Value} (T T' : TypeId) (hv : VL ρ c cs) :
    ∃ ρ', ρ'.D m ∧ ρ'.σ m = w.heap.size ∧ ρ.Le ρ' ∧ HS G wE ρ' (h.set m (some (.cells c T s))) (m + 1) (s + 1) (w.alloc (.cells cs T')) ∧ Step m ρ ρ' h (h.set m (some (.cells c T s))) m (m + 1) s (s + 1) w (w.alloc (.cells cs T')) := by
  have hk : ¬ ρ.D m := fun hd => Nat.lt_irrefl _ (hs.dom m hd)
  have hoff := Off.alloc w (.cells cs T') (fun _ => False)
  have hs1 := hs.off hoff (fun _ _ _ h => h) (fun _ _ h => h)
  have st1 := Step.off hs hs (Step.refl m ρ h m s w) hoff (fun _ _ _ h => h) (fun _ h => h.elim)
  have hi : ∀ b o, h.get b = some o → ρ.σ b ≠ w.heap.size := fun b o hb e => by have := hs.blk hb; omega
  exact ⟨ρ.bind m w.heap.size cs.size, Rho.bind_D _ _ _ _, Rho.bind_σ _ _ _ _, Rho.le_bind hk _ _, hs1.bind hk (Nat.lt_succ_self m) (Nat.le_succ m) hs.kept.size hi (hp_new _ _) hv, Step.bind hs st1 hs1 hk (Nat.le_refl _) (Nat.le_succ m) _ _ (.inl (Nat.le_refl _))⟩
theorem mk_vq (hs : HS G wE ρ h m s w) {t e sz : Nat} {zl : List Value} (ht : elT P t = some (e, sz, zl)) (hz : zl.all (conV G 8) = true) {T : Nat} {l l' c c' : Value} {a : XA} (hl : VQ ρ l l') (hc : VQ ρ c c') (hr : xmk h m s T zl l c = some a) :
    ∃ v' w', (Instr.makeSlice t l' c').run P w = .ok v' w' ∧ Came G wE ρ h m s w a v' w' := by
  obtain ⟨_, i, z, g1, g2, g3, g4, rfl, g6, rfl⟩ := elT_some ht
  have hr' : vNat l (fun l => vNat c (fun c => Bool.rec none (Bool.rec none (repK z.cells.toList c fun cs => HT.setK h m (some (.cells cs T s)) fun h' => fN (Nat.succ m) fun m' => fN (Nat.succ s) fun s' => some ⟨.slice (some ⟨m, 0, none⟩) l c, h', m', s'⟩) (Nat.ble c 100000)) (Nat.ble l c)) none) none = some a := hr
  cases l with
  | int kl il =>
    cases il with
    | negSucc _ => cases hr'
    | ofNat nl =>
      cases c with
      | int kc ic =>
        cases ic with
        | negSucc _ => cases hr'
        | ofNat nc =>
          obtain ⟨h1, h2⟩ := brec_some (show (Bool.rec none (Bool.rec none (repK z.cells.toList nc fun cs => HT.setK h m (some (.cells cs T s)) fun h' => fN (Nat.succ m) fun m' => fN (Nat.succ s) fun s' => some ⟨.slice (some ⟨m, 0, none⟩) nl nc, h', m', s'⟩) (Nat.ble nc 100000)) (Nat.ble nl nc) : Option XA) = some a from hr')
          obtain ⟨h3, h4⟩ := brec_some h2
          have h1 := Nat.le_of_ble_eq_true h1
          have h3 := Nat.le_of_ble_eq_true h3
          rw [repK_eq, HT.setK_eq, fN_eq, fN_eq] at h4
          obtain rfl := Option.some.inj h4
          obtain rfl := vq_int hl
          obtain rfl := vq_int hc
          have hb : i.bytes * nc ≤ 65536 * 100000 := Nat.mul_le_mul g6 h3
          have hb' : ((i.bytes : Int) * (nc : Int)) ≤ 281474976710656 := by
            have : ((i.bytes * nc : Nat) : Int) ≤ ((65536 * 100000 : Nat) : Int) := Int.ofNat_le.2 hb
            rw [Int.natCast_mul] at this
            omega
          have hrun := run_make (P := P) w t e i z g1 g2 g3 kl kc (nl : Int) (nc : Int) (by omega) (by omega) hb' (by omega)
          simp only [Int.toNat_natCast] at hrun
          rw [← g4] at hrun
          have hv : VL ρ (List.replicate nc z.cells.toList).flatten (madeCells z.cells (nc * z.cells.size)) := lq_vl (by
            rw [madeCells_flat]
            exact con_lq hs.fix fun v hv => List.all_eq_true.1 hz v (mem_flat hv))
          obtain ⟨ρ', k1, k2, k3, k4, k5⟩ := new_came hs T e hv
          refine ⟨_, _, hrun, ρ', ?_, k4, k5⟩
          have := VQ.slice (ρ := ρ') m 0 none nl nc k1 (Nat.lt_of_le_of_lt h3 (by decide))
          rw [k2] at this
          exact this
      | _ => cases hr'
  | _ => cases hr'
theorem clear_vq (hs : HS G wE ρ h m s w) {t ty e sz : Nat} {zl : List Value} (ht : elT P t = some (e, sz, zl)) (hz : zl.all (conV G 8) = true) (hz1 : zl.all (·.oneCell') = true) {x x' : Value} {a : XA} (hx : VQ ρ x x') (hr : xclear h m s zl x = some a) :
    ∃ w', (Builtin.clear_ #[t] ty #[x']).run P w = .ok undef w' ∧ Came G wE ρ h m s w a undef w' := by
  obtain ⟨_, i, z, g1, g2, g3, g4, rfl, g6, rfl⟩ := elT_some ht
  have key : ∀ b o n c', x' = .slice (some ⟨ρ.σ b, o, none⟩) n c' → (Nat.rec (motive := fun _ => Option XA) (some ⟨undef, h, m, s⟩) (fun p _ => repK z.cells.toList (Nat.succ p) fun new => hWrite h b (fun cs T => putK o new cs fun cs' => HT.setK h b (some (.cells cs' T s)) fun h' => fN (Nat.succ s) fun s' => some ⟨undef, h', m, s'⟩) none) n) = some a →
      ∃ w', (Builtin.clear_ #[t] ty #[x']).run P w = .ok undef w' ∧ Came G wE ρ h m s w a undef w' := by
    rintro b o n c' rfl h1
    cases n with
    | zero =>
      obtain rfl := Option.some.inj h1
      refine ⟨w, ?_, ρ, .tuple _ _ rfl (fun i u v hu => by simp [undef] at hu), hs, Step.refl _ _ _ _ _ _⟩
      simp [Builtin.clear_, run_underlying g1]
      rfl
    | succ p =>
      have h2 : repK z.cells.toList (p + 1) (fun new => hWrite h b (fun cs T => putK o new cs fun cs' => HT.setK h b (some (.cells cs' T s)) fun h' => fN (Nat.succ s) fun s' => some ⟨undef, h', m, s'⟩) none) = some a := h1
      rw [repK_eq] at h2
      obtain ⟨cs, T1, t1, f1, f2, f3⟩ := hWrite_some h2
      obtain ⟨f4, f5⟩ := putK_some f3
      rw [HT.setK_eq, fN_eq] at f5
      obtain rfl := Option.some.inj f5
      obtain ⟨hd, c0, T0, k1, k2, k3⟩ := hs.cells f1 f2
      have e0 : (Builtin.zeroCells z.cells (p + 1)).toList = (List.replicate (p + 1) z.cells.toList).flatten := madeCells_flat z.cells (p + 1)
      have hst := run_storeCells (P := P) (b := ρ.σ b) (T := T0) (fz := (0, 0)) o (List.replicate (p + 1) z.cells.toList).flatten 0 c0 w k1 (by have := k3.1; simp only [Nat.add_zero]; omega) (.inl (by simp)) (fun v hv => List.all_eq_true.1 hz1 v (mem_flat hv))
      have hoff := off_put w (ρ.σ b) (.cells (setRow c0 (o + 0) (List.replicate (p + 1) z.cells.toList).flatten) T0 (0, 0))
      refine ⟨_, ?_, ρ, .tuple _ _ rfl (fun i u v hu => by simp [undef] at hu), hs.write f1 f2 (by rw [setRow_size]; exact k2) (vl_setRow k3 (con_lq hs.fix fun v hv => List.all_eq_true.1 hz v (mem_flat hv)) f4) hoff (put_same (hs.blk f1)), Step.write hs (Step.refl _ _ _ _ _ _) hs f1 hoff⟩
      have hzero : (zeroValue e).run P w = .ok z w := by simp [zeroValue, run_info g2, g3]
      simp [Builtin.clear_, run_underlying g1, hzero]
      rw [e0, hst]
      rfl
  cases hx with
  | slice b o sp n c hb hc =>
    cases sp with
    | some sp => cases hr
    | none => exact key b o n c rfl hr
  | sliceU b o o' n c c' hb e1 e2 e3 e4 e5 =>
    rcases e4 with e4 | e4
    · subst e4; exact key b o n c' rfl hr
    · obtain ⟨_, rfl⟩ := e4
      exact key b o' 0 c' rfl hr
  | _ => cases hr

/-- copy: elements of one cell each. -/
theorem copy_vq (hs : HS G wE ρ h m s w) {t t2 ty e sz : Nat} {zl : List Value} (ht : elT P t = some (e, sz, zl)) (hsz : sz = 1) {x x' y y' : Value} {a : XA} (hx : VQ ρ x x') (hy : VQ ρ y y') (hr : xcopy h m s x y = some a) :
    ∃ v' w', (Builtin.copy_ #[t, t2] ty #[x', y']).run P w = .ok v' w' ∧ Came G wE ρ h m s w a v' w' := by
  subst hsz
  obtain ⟨_, i, z, g1, g2, g3, g4, g5, g6, rfl⟩ := elT_some ht
  have hsize : (P.info? e).map (·.size) = some 1 := by rw [g2, Option.map_some, g5]
  have open_ : ∀ {x x' : Value}, VQ ρ x x' → ∀ b o l c, x = .slice (some ⟨b, o, none⟩) l c → ∃ o' c', x' = .slice (some ⟨ρ.σ b, o', none⟩) l c' ∧ (l ≠ 0 → o' = o) := by
    intro x x' hx b o l c e
    subst e
    cases hx with
    | slice b o sp n c hb hc => exact ⟨o, c, rfl, fun _ => rfl⟩
    | sliceU b o o' n c c' hb e1 e2 e3 e4 e5 =>
      refine ⟨o', c', rfl, fun hl => ?_⟩
      rcases e4 with e4 | e4
      · exact e4.symm
      · exact absurd e4.2 hl
  obtain ⟨b, o, l, c, rfl⟩ : ∃ b o l c, x = .slice (some ⟨b, o, none⟩) l c := by
    unfold xcopy vSl at hr
    split at hr
    · exact ⟨_, _, _, _, rfl⟩
    · cases hr
  obtain ⟨b2, o2, l2, c2, rfl⟩ : ∃ b o l c, y = .slice (some ⟨b, o, none⟩) l c := by
    unfold xcopy vSl at hr
    simp only at hr
    split at hr
    · exact ⟨_, _, _, _, rfl⟩
    · cases hr
  obtain ⟨o', c', rfl, ho⟩ := open_ hx b o l c rfl
  obtain ⟨o2', c2', rfl, ho2⟩ := open_ hy b2 o2 l2 c2 rfl
  have hr1 : (Nat.rec (motive := fun _ => Option XA) (some ⟨.int .i64 (.ofNat 0), h, m, s⟩)
    (fun p _ => hCells h b2 (fun c2 _ _ => takeK (Nat.succ p) (dropL o2 c2) fun new => Bool.rec none (hWrite h b (fun cs T => putK o new cs fun cs' => HT.setK h b (some (.cells cs' T s)) fun h' => fN (Nat.succ s) fun s' => fN (Nat.succ p) fun n => some ⟨.int .i64 (.ofNat n), h', m, s'⟩) none) (oneL new)) none)
    (Bool.rec l l2 (Nat.ble l2 l)) : Option XA) = some a := hr
  have hn : (Bool.rec l l2 (Nat.ble l2 l) : Nat) = Nat.min l2 l := by
    cases e1 : Nat.ble l2 l with
    | true => have := Nat.le_of_ble_eq_true e1; show l2 = min l2 l; omega
    | false =>
      have : ¬ l2 ≤ l := fun h => by rw [Nat.ble_eq_true_of_le h] at e1; cases e1
      show l = min l2 l; omega
  rw [hn] at hr1
  cases hnn : Nat.min l2 l with
  | zero =>
    rw [hnn] at hr1
    obtain rfl := Option.some.inj hr1
    exact ⟨_, w, run_copy_none w t t2 ty e _ _ _ _ _ _ g1 hsize hnn, ρ, .int .i64 0, hs, Step.refl _ _ _ _ _ _⟩
  | succ p =>
    rw [hnn] at hr1
    have hl0 : l ≠ 0 ∧ l2 ≠ 0 := by
      have h1 : Nat.min l2 l ≤ l2 := Nat.min_le_left _ _
      have h2 : Nat.min l2 l ≤ l := Nat.min_le_right _ _
      omega
    obtain rfl := ho hl0.1
    obtain rfl := ho2 hl0.2
    obtain ⟨cy, Ty, ty1, f1, f2⟩ := hCells_some hr1
    rw [dropL_eq] at f2
    obtain ⟨f3, f4⟩ := takeK_some f2
    rw [List.length_drop] at f3
    obtain ⟨f5, f6⟩ := brec_some f4
    obtain ⟨r', q1, q2⟩ := hs.rowL f1 (o := o2') (n := p + 1) (by omega)
    have hlen : r'.length = p + 1 := by rw [← q1.1, List.length_take, List.length_drop]; omega
    obtain ⟨cs, T1, t1, j1, j2, j3⟩ := hWrite_some f6
    obtain ⟨j4, j5⟩ := putK_some j3
    rw [HT.setK_eq, fN_eq, fN_eq] at j5
    obtain rfl := Option.some.inj j5
    obtain ⟨hd, c0, T0, k1, k2, k3⟩ := hs.cells j1 j2
    have j4' : o' + (List.take (p + 1) (List.drop o2' cy)).length ≤ cs.length := j4
    have hfit : o' + r'.length ≤ c0.size := by have := k3.1; have := q1.1; omega
    have hrun := run_copy_cells (P := P) w t t2 ty e (ρ.σ b) o' l c' ⟨ρ.σ b2, o2', none⟩ l2 c2' r' g1 hsize (by rw [hlen, hnn]) (fun j v hv => by rw [add_none]; exact q2 j v hv) (fun j hj => by
      rw [cell_of k1, Array.getElem?_eq_getElem (by omega)]; rfl) (fun j hj => by
      simp [World.frozen?, k1]) (q1.one (oneL_all f5))
    rw [setCells_put r' _ c0 w k1 hfit] at hrun
    have hoff := off_put w (ρ.σ b) (.cells (setRow c0 o' r') T0 (0, 0))
    refine ⟨_, _, hrun, ρ, ?_, hs.write j1 j2 (by rw [setRow_size]; exact k2) (vl_setRow k3 q1 j4) hoff (put_same (hs.blk j1)), Step.write hs (Step.refl _ _ _ _ _ _) hs j1 hoff⟩
    rw [hlen]
    exact .int .i64 ((p + 1 : Nat) : Int)

/-! Maps. -/
theorem updI_eq (n : Int) (v : Value) : ∀ (es : List (Int × Value)) (f : List (Int × Value) → Option XA), updI n v es f = f (updL n v es)
  | [], f => rfl
  | e :: r, f => by
    have e1 : updI n v (e :: r) f = (Bool.rec (updI n v r fun l => f (e :: l)) (f ((e.1, v) :: r)) (ieq n e.1) : Option XA) := rfl
    rw [e1, ieq_dec, updL]
    by_cases hn : n = e.1
    · rw [if_pos hn, decide_eq_true hn]
    · rw [if_neg hn, decide_eq_false hn]; exact updI_eq n v r _
theorem findI_cons (n : Int) (e : Int × Value) (r : List (Int × Value)) : findI n (e :: r) = if n = e.1 then some e.2 else findI n r := by
  have e1 : findI n (e :: r) = (Bool.rec (findI n r) (some e.2) (ieq n e.1) : Option Value) := rfl
  rw [e1, ieq_dec]
  by_cases hn : n = e.1
  · rw [if_pos hn, decide_eq_true hn]
  · rw [if_neg hn, decide_eq_false hn]
theorem find_rel {k k0 : IntKind} (n : Int) : ∀ {es : List (Int × Value)} {l : List MapEntry}, LM ρ k es l → ∀ (i : Nat),
    (findI n es = none ∧ Instr.findNow (.int k0) (.int k n) l i = some none ∧ ∀ v v' b, VQ ρ v v' → LM ρ k (updL n v es) (l ++ [{ key := .int k n, val := v', born := b }])) ∨
    (∃ j u x, findI n es = some u ∧ l[j]? = some x ∧ x.key = .int k n ∧ VQ ρ u x.val ∧ Instr.findNow (.int k0) (.int k n) l i = some (some (i + j, x.val)) ∧
      ∀ v v', VQ ρ v v' → LM ρ k (updL n v es) (l.modify j fun e => { e with key := .int k n, val := v' })) := by
  intro es l h
  induction h with
  | nil => exact fun i => .inl ⟨rfl, rfl, fun v v' b hv => .cons n v v' b [] [] hv .nil⟩
  | cons n' u v b es l hu h ih =>
    intro i
    have hf : Instr.findNow (.int k0) (.int k n) ({ key := .int k n', val := v, born := b } :: l) i = if n = n' then some (some (i, v)) else Instr.findNow (.int k0) (.int k n) l (i + 1) := by
      simp only [Instr.findNow, Instr.sameNow, if_true]
      by_cases e : n = n'
      · rw [if_pos e, beq_iff_eq.2 e]
      · rw [if_neg e, beq_eq_false_iff_ne.2 e]
    by_cases e : n = n'
    · subst e
      right
      refine ⟨0, u, _, by rw [findI_cons]; simp, rfl, rfl, hu, by rw [hf, if_pos rfl]; rfl, fun v v' hv => ?_⟩
      rw [updL]
      simp only [if_true]
      exact .cons n v v' b es l hv h
    · rw [findI_cons, hf, if_neg e, if_neg e]
      rcases ih (i + 1) with ⟨h1, h2, h3⟩ | ⟨j, u1, x, h1, h2, h3, h4, h5, h6⟩
      · refine .inl ⟨h1, h2, fun a a' c ha => ?_⟩
        rw [updL]
        simp only [if_neg e]
        exact .cons n' u v b _ _ hu (h3 a a' c ha)
      · refine .inr ⟨j + 1, u1, x, h1, h2, h3, h4, by rw [h5]; congr 3; omega, fun a a' ha => ?_⟩
        rw [updL]
        simp only [if_neg e]
        exact .cons n' u v b _ _ hu (h6 a a' ha)
theorem lm_none {k : IntKind} {n : Int} {es : List (Int × Value)} {l : List MapEntry} (h : LM ρ k es l) (hf : findI n es = none) : ∀ x ∈ l, x.key ≠ .int k n := by
  induction h with
  | nil => intro x hx; cases hx
  | cons n' u v b es l _ _ ih =>
    rw [findI_cons] at hf
    by_cases e : n = n'
    · rw [if_pos e] at hf; cases hf
    · rw [if_neg e] at hf
      intro x hx
      rcases List.mem_cons.1 hx with rfl | hx
      · intro e2
        injection e2 with _ e3
        exact e e3.symm
      · exact ih hf x hx
theorem mapT_some {t : TypeId} {kk : IntKind} {z : Value} (h : mapT P t = some (kk, z)) : ∃ k e i, P.underlying t = some (.map k e) ∧ P.underlying k = some (.int kk) ∧ P.info? e = some i ∧ i.zero = some z := by
  unfold mapT at h
  split at h
  · rename_i k e hu
    split at h
    · rename_i kk' i hk hi
      split at h
      · rename_i z' hz
        simp only [Option.some.injEq, Prod.mk.injEq] at h
        obtain ⟨rfl, rfl⟩ := h
        exact ⟨k, e, i, hu, hk, hi, hz⟩
      · cases h
    · cases h
  · cases h
theorem run_sl3 (t e sz : Nat) (hu : P.underlying t = some (.slice e)) (hsz : szOf P e = some sz) (a : Option Addr) (n cap i j k : Nat) (ki kj kk : IntKind) (hij : i ≤ j) (hjk : j ≤ k) (hk : k ≤ cap) (w : World) :
    ∃ v, (Instr.sliceAt t (.slice a n cap) (some (.int ki i)) (some (.int kj j)) (some (.int kk k))).run P w = .ok v w := by
  have hr := run_size hsz w
  cases a with
  | none =>
    refine ⟨.slice none (j - i) (k - i), ?_⟩
    simp [Instr.sliceAt, Instr.slice, run_underlying hu, Instr.sliceBounds, Instr.sliceBound, asIntOf, hr]
    rw [if_pos hk, if_pos hjk, if_pos hij]
  | some a =>
    refine ⟨.slice (some (if k = i then a else a.add (i * sz))) (j - i) (k - i), ?_⟩
    simp [Instr.sliceAt, Instr.slice, run_underlying hu, Instr.sliceBounds, Instr.sliceBound, asIntOf, hr]
    rw [if_pos hk, if_pos hjk, if_pos hij]
    by_cases h : k = i
    · rw [if_pos h, if_pos h]
    · rw [if_neg h, if_neg h]
theorem vNatA_some {v : Value} {f : Nat → Option XA} {r : XA} (h : vNat v f none = some r) : ∃ k i, v = .int k (.ofNat i) ∧ f i = some r := by
  cases v with
  | int k i =>
    cases i with
    | ofNat i => exact ⟨k, i, rfl, h⟩
    | negSucc i => cases h
  | _ => cases h
theorem sl3_vq {t e sz : Nat} {zl : List Value} (ht : elT P t = some (e, sz, zl)) {u u' l l' hh hh' mm mm' : Value} {a : XA} (hu : VQ ρ u u') (hl : VQ ρ l l') (hhh : VQ ρ hh hh') (hm : VQ ρ mm mm') (hr : xsl3 h m s u l hh mm = some a) :
    a = ⟨undef, h, m, s⟩ ∧ ∃ v', (Instr.sliceAt t u' (some l') (some hh') (some mm')).run P w = .ok v' w := by
  obtain ⟨_, i, z, g1, g2, g3, g4, g5, g6, g7⟩ := elT_some ht
  have hsz : szOf P e = some sz := by unfold szOf; rw [g2, Option.map_some, g5]
  obtain ⟨kl, nl, rfl, h1⟩ := vNatA_some hr
  obtain ⟨kh, nh, rfl, h2⟩ := vNatA_some h1
  obtain ⟨km, nm, rfl, h3⟩ := vNatA_some h2
  obtain ⟨h4, h5⟩ := brec_some h3
  obtain ⟨h6, h7⟩ := brec_some h5
  have h4 := Nat.le_of_ble_eq_true h4
  have h6 := Nat.le_of_ble_eq_true h6
  obtain rfl := vq_int hl
  obtain rfl := vq_int hhh
  obtain rfl := vq_int hm
  cases hu with
  | slice b o sp n c hb hc =>
    cases sp with
    | some sp => cases h7
    | none =>
      obtain ⟨h8, h9⟩ := brec_some h7
      rw [show Nat.blt c capU = true from Nat.ble_eq_true_of_le hc] at h8
      have h8 : nm ≤ c := Nat.le_of_ble_eq_true h8
      exact ⟨(Option.some.inj h9).symm, run_sl3 t e sz g1 hsz _ n c nl nh nm kl kh km h4 h6 h8 w⟩
  | sliceU b o o' n c c' hb e1 e2 e3 e4 e5 =>
    obtain ⟨h8, h9⟩ := brec_some h7
    have h8 : nm ≤ n := by
      cases e0 : Nat.blt c capU with
      | true => have := blt_true e0; omega
      | false => rw [e0] at h8; exact Nat.le_of_ble_eq_true h8
    exact ⟨(Option.some.inj h9).symm, run_sl3 t e sz g1 hsz _ n c' nl nh nm kl kh km h4 h6 (by omega) w⟩
  | _ => cases h7
theorem mkm_vq (hs : HS G wE ρ h m s w) {t : TypeId} {k : IntKind} {a : XA} (hr : xmkmap h m s k = some a) : ∃ v' w', (Instr.makeMap t none).run P w = .ok v' w' ∧ Came G wE ρ h m s w a v' w' := by
  unfold xmkmap at hr
  rw [HT.setK_eq, fN_eq, fN_eq] at hr
  obtain rfl := Option.some.inj hr
  have hk : ¬ ρ.D m := fun hd => Nat.lt_irrefl _ (hs.dom m hd)
  have hoff := Off.alloc w (.map #[] 0) (fun _ => False)
  have hs1 := hs.off hoff (fun _ _ _ h => h) (fun _ _ h => h)
  have st1 := Step.off hs hs (Step.refl m ρ h m s w) hoff (fun _ _ _ h => h) (fun _ h => h.elim)
  have hi : ∀ b o, h.get b = some o → ρ.σ b ≠ w.heap.size := fun b o hb e => by have := hs.blk hb; omega
  have hs2 := hs1.bindO (z := 0) hk (Nat.lt_succ_self m) (Nat.le_succ m) hs.kept.size hi (o1 := .map k [] s) (Nat.le_refl _) ⟨#[], 0, by rw [Rho.bind_σ]; exact hp_new _ _, .nil, MapKept.stamped_empty 0⟩
  refine ⟨.map (some w.heap.size), w.alloc (.map #[] 0), ?_, _, ?_, hs2, Step.bind hs st1 hs1 hk (Nat.le_refl _) (Nat.le_succ m) _ _ (.inl (Nat.le_refl _))⟩
  · simp [Instr.makeMap]
  · have := VQ.map (ρ := ρ.bind m w.heap.size 0) m (Rho.bind_D _ _ _ _)
    rw [Rho.bind_σ] at this
    exact this
theorem bytesK_eq : ∀ (l : List UInt8) (k : List Value → Option XA), bytesK l k = k (l.map fun b => Value.int .u8 (.ofNat b.toNat))
  | [], k => rfl
  | b :: r, k => by
    show fN b.toNat (fun n => bytesK r fun s => k (.int .u8 (.ofNat n) :: s)) = _
    rw [fN_eq, bytesK_eq r]
    rfl
theorem cvs_vq (hs : HS G wE ρ h m s w) {t t2 e : TypeId} (g1 : P.underlying t = some .string) (g2 : P.underlying t2 = some (.slice e)) (g3 : P.underlying e = some (.int .u8)) {u u' : Value} {a : XA} (hu : VQ ρ u u') (hr : xcvs h m s u = some a) :
    ∃ v' w', (Tag.sem (.cv t t2) [u']).run P w = .ok v' w' ∧ Came G wE ρ h m s w a v' w' := by
  unfold xcvs at hr
  split at hr
  · rename_i l
    cases hu
    rw [bytesK_eq, fN_eq, lenL_eq] at hr
    obtain ⟨h1, h2⟩ := brec_some hr
    rw [HT.setK_eq, fN_eq, fN_eq, fN_eq] at h2
    obtain rfl := Option.some.inj h2
    have hn : l.length ≤ 1000000000 := by simpa using Nat.le_of_ble_eq_true h1
    have hk : ¬ ρ.D m := fun hd => Nat.lt_irrefl _ (hs.dom m hd)
    have hrun := Go.Lib.run_convert_string_bytes (P := P) w t t2 e ⟨⟨l⟩⟩ g1 g2 g3
    have hsz : (⟨⟨l⟩⟩ : ByteArray).size = l.length := rfl
    have hge := grownCap_ge w l.length 0 e
    have hcm := grownCap_le_maxLen w l.length 0 e (by simp only [maxLen]; omega)
    have hcs : (Go.Lib.bytesCells w e ⟨⟨l⟩⟩).size = grownCap w l.length 0 e := by
      simp only [Go.Lib.bytesCells, Array.size_append, Array.size_map, Array.size_replicate, hsz]
      show l.length + _ = _
      omega
    have hoff : Off w (Go.Lib.bytesWorld w e ⟨⟨l⟩⟩) (fun _ => False) := by
      refine ⟨rfl, rfl, rfl, by rw [Go.Lib.bytesWorld_size]; omega, fun p hp _ => Go.Lib.bytesWorld_at_old w e _ p hp⟩
    have hs1 := hs.off hoff (fun _ _ _ h => h) (fun _ _ h => h)
    have st1 := Step.off hs hs (Step.refl m ρ h m s w) hoff (fun _ _ _ h => h) (fun _ h => h.elim)
    have hi : ∀ b o, h.get b = some o → ρ.σ b ≠ w.heap.size := fun b o hb e => by have := hs.blk hb; omega
    have hs2 := hs1.bindO (z := (Go.Lib.bytesCells w e ⟨⟨l⟩⟩).size) hk (Nat.lt_succ_self m) (Nat.le_succ m) hs.kept.size hi (o1 := .cells (l.map fun b => Value.int .u8 (.ofNat b.toNat)) 0 0) (Nat.zero_le _)
      ⟨Go.Lib.bytesCells w e ⟨⟨l⟩⟩, e, _, by rw [Rho.bind_σ]; exact Go.Lib.bytesWorld_at_new w e _, fun h => absurd rfl h, (Rho.bind_Z _ _ _ _).symm, by
        refine ⟨by rw [hcs, List.length_map]; exact hge, fun i u v hu hv => ?_⟩
        rw [List.getElem?_map, Option.map_eq_some_iff] at hu
        obtain ⟨b, hb, rfl⟩ := hu
        have hlt := (List.getElem?_eq_some_iff.1 hb).1
        simp only [Go.Lib.bytesCells] at hv
        rw [Array.getElem?_append_left (by simpa using hlt)] at hv
        have : ((⟨⟨l⟩⟩ : ByteArray).data.map fun b => Value.int .u8 (b.toNat : Int))[i]? = some (Value.int .u8 (b.toNat : Int)) := by
          rw [Array.getElem?_map]
          show (l.toArray[i]?).map _ = _
          rw [List.getElem?_toArray, hb]; rfl
        rw [this] at hv
        obtain rfl := Option.some.inj hv
        exact .int _ _⟩
    refine ⟨_, _, hrun, _, ?_, hs2, Step.bind hs st1 hs1 hk (Nat.le_refl _) (Nat.le_succ m) _ _ (.inl (Nat.le_refl _))⟩
    have : VQ (ρ.bind m w.heap.size (Go.Lib.bytesCells w e ⟨⟨l⟩⟩).size) (.slice (some ⟨m, 0, none⟩) l.length (capU + 1)) (.slice (some ⟨(ρ.bind m w.heap.size (Go.Lib.bytesCells w e ⟨⟨l⟩⟩).size).σ m, 0, none⟩) l.length (grownCap w l.length 0 e)) := by
      refine .sliceU m 0 0 _ (capU + 1) _ (Rho.bind_D _ _ _ _) (Nat.le_add_right _ _) hge hcm (.inl rfl) fun _ => ⟨rfl, ?_, ?_⟩
      · rw [Rho.bind_Z, hcs, capS_new (by decide), Nat.mul_one]
      · rw [capB_new (by decide)]; exact Nat.zero_le _
    rw [Rho.bind_σ] at this
    rw [List.length_map]
    exact this
  · cases hr
theorem look_vq (hs : HS G wE ρ h m s w) {t : TypeId} {kt : IntKind} {z : Value} (ht : mapT P t = some (kt, z)) (hz : conV G 8 z = true) {ok : Bool} {x x' i i' : Value} {a : XA} (hx : VQ ρ x x') (hi : VQ ρ i i') (hr : xlook h m s z ok kt x i = some a) :
    ∃ v' w', (Instr.lookup t x' i' ok).run P w = .ok v' w' ∧ Came G wE ρ h m s w a v' w' := by
  obtain ⟨k, e, inf, g1, g2, g3, g4⟩ := mapT_some ht
  cases i with
  | int kk n =>
    obtain rfl := vq_int hi
    obtain ⟨h1, h2⟩ := brec_some (show (Bool.rec none (vMap x (fun b => Option.rec (some ⟨lookV z ok none, h, m, s⟩) (fun b => hMap h b (fun k es _ => Bool.rec none (some ⟨lookV z ok (findI n es), h, m, s⟩) (Nat.beq (kix k) (kix kt))) none) b) none) (Nat.beq (kix kk) (kix kt)) : Option XA) = some a from hr)
    rw [kix_eq, decide_eq_true_iff] at h1
    subst h1
    have hzero : (zeroValue e).run P w = .ok z w := by simp [zeroValue, run_info g3, g4]
    have hkey : ∀ b, (Instr.checkKey b 10000 k (.int kk n)).run P w = .ok () w := fun b => MapKept.run_checkKey g2 (by simp [MapKept.IsKey]) b 9999
    have hzv : VQ ρ z z := conV_vq hs.fix 8 z hz
    have pair : ∀ {u v : Value} (b : Bool), VQ ρ u v → VQ ρ (.tuple ⟨[u, .bool b]⟩) (.tuple #[v, .bool b]) := by
      intro u v b huv
      refine .tuple _ _ rfl fun i a c ha hc => ?_
      match i, ha, hc with
      | 0, ha, hc => cases ha; cases hc; exact huv
      | 1, ha, hc => cases ha; cases hc; constructor
      | i + 2, ha, hc => simp at ha
    cases hx with
    | mnil =>
      obtain rfl := Option.some.inj (show some (⟨lookV z ok none, h, m, s⟩ : XA) = some a from h2)
      have hf : (Instr.findKey k (.int kk n) ([] : List MapEntry)).run P w = .ok none w := MapKept.run_findKey g2 rfl
      refine ⟨if ok = true then .tuple #[z, .bool false] else z, w, ?_, ρ, ?_, hs, Step.refl _ _ _ _ _ _⟩
      · simp [Instr.lookup, run_underlying g1, hkey, hf, hzero]
      · cases ok
        · exact hzv
        · exact pair false hzv
    | map b hb =>
      have h3 : hMap h b (fun k es _ => Bool.rec none (some ⟨lookV z ok (findI n es), h, m, s⟩) (Nat.beq (kix k) (kix kk))) none = some a := h2
      unfold hMap at h3
      split at h3
      · rename_i k1 es t1 hg
        obtain ⟨h4, h5⟩ := brec_some h3
        rw [kix_eq, decide_eq_true_iff] at h4
        subst h4
        obtain rfl := Option.some.inj h5
        obtain ⟨ents, clock, q1, q2, q3⟩ := (hs.live b _ hg).2.2
        rcases find_rel (k0 := k1) n q2 0 with ⟨f1, f2, _⟩ | ⟨j, u, xx, f1, f2, f3, f4, f5, _⟩
        · have hf : (Instr.findKey k (.int k1 n) ents.toList).run P w = .ok none w := MapKept.run_findKey g2 f2
          refine ⟨if ok = true then .tuple #[z, .bool false] else z, w, ?_, ρ, ?_, hs, Step.refl _ _ _ _ _ _⟩
          · simp [Instr.lookup, run_underlying g1, MapKept.run_getObj_map q1, hkey, hf, hzero]
          · rw [f1]
            cases ok
            · exact hzv
            · exact pair false hzv
        · have hf : (Instr.findKey k (.int k1 n) ents.toList).run P w = .ok (some (0 + j, xx.val)) w := MapKept.run_findKey g2 f5
          refine ⟨if ok = true then .tuple #[xx.val, .bool true] else xx.val, w, ?_, ρ, ?_, hs, Step.refl _ _ _ _ _ _⟩
          · simp [Instr.lookup, run_underlying g1, MapKept.run_getObj_map q1, hkey, hf]
          · rw [f1]
            cases ok
            · exact f4
            · exact pair true f4
      · cases h3
    | _ => cases h2
  | _ => cases hr
theorem upd_vq (hs : HS G wE ρ h m s w) {t : TypeId} {kt : IntKind} {z : Value} (ht : mapT P t = some (kt, z)) {x x' i i' v v' : Value} {a : XA} (hx : VQ ρ x x') (hi : VQ ρ i i') (hv : VQ ρ v v') (hr : xupdm h m s kt x i v = some a) :
    ∃ w', (Instr.mapUpdate t x' i' v').run P w = .ok () w' ∧ Came G wE ρ h m s w a undef w' := by
  obtain ⟨k, e, inf, g1, g2, g3, g4⟩ := mapT_some ht
  cases i with
  | int kk n =>
    obtain rfl := vq_int hi
    obtain ⟨h1, h2⟩ := brec_some (show (Bool.rec none (vMap x (fun b => Option.rec none (fun b => hMap h b (fun k es t => Nat.rec (motive := fun _ => Option XA) none (fun _ _ => Bool.rec none (updI n v es fun es' => HT.setK h b (some (.map k es' s)) fun h' => fN (Nat.succ s) fun s' => some ⟨undef, h', m, s'⟩) (Nat.beq (kix k) (kix kt))) t) none) b) none) (Nat.beq (kix kk) (kix kt)) : Option XA) = some a from hr)
    rw [kix_eq, decide_eq_true_iff] at h1
    subst h1
    have hkey : (Instr.checkKey false 10000 k (.int kk n)).run P w = .ok () w := MapKept.run_checkKey g2 (by simp [MapKept.IsKey]) false 9999
    cases hx with
    | mnil => cases h2
    | map b hb =>
      have h3 : hMap h b (fun k es t => Nat.rec (motive := fun _ => Option XA) none (fun _ _ => Bool.rec none (updI n v es fun es' => HT.setK h b (some (.map k es' s)) fun h' => fN (Nat.succ s) fun s' => some ⟨undef, h', m, s'⟩) (Nat.beq (kix k) (kix kk))) t) none = some a := h2
      unfold hMap at h3
      split at h3
      · rename_i k1 es t1 hg
        cases t1 with
        | zero => cases h3
        | succ t1 =>
          obtain ⟨h4, h5⟩ := brec_some (show (Bool.rec none (updI n v es fun es' => HT.setK h b (some (.map k1 es' s)) fun h' => fN (Nat.succ s) fun s' => some ⟨undef, h', m, s'⟩) (Nat.beq (kix k1) (kix kk)) : Option XA) = some a from h3)
          rw [kix_eq, decide_eq_true_iff] at h4
          subst h4
          rw [updI_eq, HT.setK_eq, fN_eq] at h5
          obtain rfl := Option.some.inj h5
          obtain ⟨ents, clock, q1, q2, q3⟩ := (hs.live b _ hg).2.2
          have fin : ∀ ents' clock', LM ρ k1 (updL n v es) ents'.toList → MapKept.Stamped ents' clock' → (Instr.mapUpdate t (.map (some (ρ.σ b))) (.int k1 n) v').run P w = .ok () (put w (ρ.σ b) (.map ents' clock')) →
              ∃ w', (Instr.mapUpdate t (.map (some (ρ.σ b))) (.int k1 n) v').run P w = .ok () w' ∧ Came G wE ρ h m s w ⟨undef, h.set b (some (.map k1 (updL n v es) s)), m, s + 1⟩ undef w' := by
            intro ents' clock' hl hst hrun
            have hoff := off_put w (ρ.σ b) (.map ents' clock')
            exact ⟨_, hrun, ρ, .tuple _ _ rfl (fun i u v hu => by simp [undef] at hu), hs.writeO (o2 := .map k1 (updL n v es) s) hg (by simp [XB.stamp]) rfl hoff ⟨ents', clock', put_same (hs.blk hg), hl, hst⟩, Step.writeO hs (Step.refl _ _ _ _ _ _) hs hg rfl hoff⟩
          rcases find_rel (k0 := k1) n q2 0 with ⟨f1, f2, f3⟩ | ⟨j, u, xx, f1, f2, f3, f4, f5, f6⟩
          · have hf : (Instr.findKey k (.int k1 n) ents.toList).run P w = .ok none w := MapKept.run_findKey g2 f2
            refine fin (ents.push { key := .int k1 n, val := v', born := clock }) (clock + 1) (by rw [Array.toList_push]; exact f3 v v' clock hv) (MapKept.stamped_push q3 (lm_none q2 f1)) ?_
            simp [Instr.mapUpdate, run_underlying g1, MapKept.run_getObj_map q1, hkey, hf, MapKept.run_setObj_map _ q1]
            rfl
          · have hf : (Instr.findKey k (.int k1 n) ents.toList).run P w = .ok (some (0 + j, xx.val)) w := MapKept.run_findKey g2 f5
            refine fin (ents.modify j fun e => { e with key := .int k1 n, val := v' }) clock (by rw [Array.toList_modify]; exact f6 v v' hv) (MapKept.stamped_modify q3 j _ (fun _ _ => rfl) (fun e _ he => by
              have e1 : ents[j]? = some xx := by rw [← Array.getElem?_toList]; exact f2
              rw [e1] at he
              obtain rfl := Option.some.inj he
              exact f3.symm)) ?_
            have hj : ents[j]? = some xx := by rw [← Array.getElem?_toList]; exact f2
            have hstay : (Instr.keyThatStays (.int k1 n) (.int k1 n)).run P w = .ok (.int k1 n) w := by
              simp [Instr.keyThatStays, Instr.sameBits]
            simp [Instr.mapUpdate, run_underlying g1, MapKept.run_getObj_map q1, hkey, hf, MapKept.run_setObj_map _ q1, hj, f3, hstay]
            rfl
      · cases h3
    | _ => cases h2
  | _ => cases hr

theorem lenE_eq : ∀ es : List (Int × Value), lenE es = es.length
  | [] => rfl
  | e :: r => by
    have : lenE (e :: r) = Nat.succ (lenE r) := rfl
    rw [this, lenE_eq r]; rfl
theorem LM.len {k : IntKind} {es : List (Int × Value)} {l : List MapEntry} (h : LM ρ k es l) : es.length = l.length := by
  induction h with
  | nil => rfl
  | cons n u v b es l _ _ ih => simp [ih]
theorem mlen_vq (hs : HS G wE ρ h m s w) {t ty : TypeId} {kt : IntKind} {z : Value} (ht : mapT P t = some (kt, z)) {x x' : Value} {a : XA} (hx : VQ ρ x x') (hr : xmlen h m s x = some a) :
    ∃ v' w', (Builtin.len_ #[t] ty #[x']).run P w = .ok v' w' ∧ Came G wE ρ h m s w a v' w' := by
  obtain ⟨k, e, inf, g1, g2, g3, g4⟩ := mapT_some ht
  cases hx with
  | mnil =>
    obtain rfl := Option.some.inj (show some (⟨.int .i64 (.ofNat 0), h, m, s⟩ : XA) = some a from hr)
    refine ⟨.int .i64 0, w, ?_, ρ, .int .i64 0, hs, Step.refl _ _ _ _ _ _⟩
    simp [Builtin.len_, run_underlying g1, goInt]
  | map b hb =>
    have h3 : hMap h b (fun _ es _ => fN (lenE es) fun n => some ⟨.int .i64 (.ofNat n), h, m, s⟩) none = some a := hr
    unfold hMap at h3
    split at h3
    · rename_i k1 es t1 hg
      have h4 : fN (lenE es) (fun n => some (⟨.int .i64 (.ofNat n), h, m, s⟩ : XA)) = some a := h3
      rw [fN_eq] at h4
      obtain rfl := Option.some.inj h4
      obtain ⟨ents, clock, q1, q2, q3⟩ := (hs.live b _ hg).2.2
      have hlen : lenE es = ents.size := by rw [lenE_eq, q2.len]; simp
      refine ⟨.int .i64 (ents.size : Int), w, ?_, ρ, ?_, hs, Step.refl _ _ _ _ _ _⟩
      · simp [Builtin.len_, run_underlying g1, MapKept.run_getObj_map q1, goInt]
      · rw [hlen]; exact .int .i64 _
    · cases h3
  | _ => cases hr
def delL (n : Int) : List (Int × Value) → List (Int × Value)
  | [] => []
  | e :: r => if n = e.1 then r else e :: delL n r
theorem delI_eq (n : Int) : ∀ (es : List (Int × Value)) (f : List (Int × Value) → Option XA), delI n es f = f (delL n es)
  | [], f => rfl
  | e :: r, f => by
    have e1 : delI n (e :: r) f = (Bool.rec (delI n r fun l => f (e :: l)) (f r) (ieq n e.1) : Option XA) := rfl
    rw [e1, ieq_dec, delL]
    by_cases hn : n = e.1
    · rw [if_pos hn, decide_eq_true hn]
    · rw [if_neg hn, decide_eq_false hn]; exact delI_eq n r _
theorem del_rel {k k0 : IntKind} (n : Int) : ∀ {es : List (Int × Value)} {l : List MapEntry}, LM ρ k es l → ∀ (i : Nat),
    (Instr.findNow (.int k0) (.int k n) l i = some none ∧ LM ρ k (delL n es) l) ∨
    (∃ j v, Instr.findNow (.int k0) (.int k n) l i = some (some (i + j, v)) ∧ j < l.length ∧ LM ρ k (delL n es) (l.eraseIdx j)) := by
  intro es l h
  induction h with
  | nil => exact fun i => .inl ⟨rfl, .nil⟩
  | cons n' u v b es l hu h ih =>
    intro i
    have hf : Instr.findNow (.int k0) (.int k n) ({ key := .int k n', val := v, born := b } :: l) i = if n = n' then some (some (i, v)) else Instr.findNow (.int k0) (.int k n) l (i + 1) := by
      simp only [Instr.findNow, Instr.sameNow, if_true]
      by_cases e : n = n'
      · rw [if_pos e, beq_iff_eq.2 e]
      · rw [if_neg e, beq_eq_false_iff_ne.2 e]
    by_cases e : n = n'
    · subst e
      right
      refine ⟨0, v, by rw [hf, if_pos rfl]; rfl, by simp, ?_⟩
      rw [delL]
      simp only [if_true]
      exact h
    · rw [hf, if_neg e, delL]
      simp only [if_neg e]
      rcases ih (i + 1) with ⟨h2, h3⟩ | ⟨j, x, h2, h3, h4⟩
      · exact .inl ⟨h2, .cons n' u v b _ _ hu h3⟩
      · refine .inr ⟨j + 1, x, by rw [h2]; congr 3; omega, by simp; omega, ?_⟩
        exact .cons n' u v b _ _ hu h4
theorem mdel_vq (hs : HS G wE ρ h m s w) {t t2 ty : TypeId} {kt : IntKind} {z : Value} (ht : mapT P t = some (kt, z)) {x x' i i' : Value} {a : XA} (hx : VQ ρ x x') (hi : VQ ρ i i') (hr : xmdel h m s kt x i = some a) :
    ∃ w', (Builtin.delete_ #[t, t2] ty #[x', i']).run P w = .ok undef w' ∧ Came G wE ρ h m s w a undef w' := by
  obtain ⟨k, e, inf, g1, g2, g3, g4⟩ := mapT_some ht
  cases i with
  | int kk n =>
    obtain rfl := vq_int hi
    obtain ⟨h1, h2⟩ := brec_some (show (Bool.rec none (vMap x (fun b => Option.rec none (fun b => hMap h b (fun k es t => Nat.rec (motive := fun _ => Option XA) none (fun _ _ => Bool.rec none (delI n es fun es' => HT.setK h b (some (.map k es' s)) fun h' => fN (Nat.succ s) fun s' => some ⟨undef, h', m, s'⟩) (Nat.beq (kix k) (kix kt))) t) none) b) none) (Nat.beq (kix kk) (kix kt)) : Option XA) = some a from hr)
    rw [kix_eq, decide_eq_true_iff] at h1
    subst h1
    have hkey : ∀ b, (Instr.checkKey b 10000 k (.int kk n)).run P w = .ok () w := fun b => MapKept.run_checkKey g2 (by simp [MapKept.IsKey]) b 9999
    cases hx with
    | mnil => cases h2
    | map b hb =>
      have h3 : hMap h b (fun k es t => Nat.rec (motive := fun _ => Option XA) none (fun _ _ => Bool.rec none (delI n es fun es' => HT.setK h b (some (.map k es' s)) fun h' => fN (Nat.succ s) fun s' => some ⟨undef, h', m, s'⟩) (Nat.beq (kix k) (kix kk))) t) none = some a := h2
      unfold hMap at h3
      split at h3
      · rename_i k1 es t1 hg
        cases t1 with
        | zero => cases h3
        | succ t1 =>
          obtain ⟨h4, h5⟩ := brec_some (show (Bool.rec none (delI n es fun es' => HT.setK h b (some (.map k1 es' s)) fun h' => fN (Nat.succ s) fun s' => some ⟨undef, h', m, s'⟩) (Nat.beq (kix k1) (kix kk)) : Option XA) = some a from h3)
          rw [kix_eq, decide_eq_true_iff] at h4
          subst h4
          rw [delI_eq, HT.setK_eq, fN_eq] at h5
          obtain rfl := Option.some.inj h5
          obtain ⟨ents, clock, q1, q2, q3⟩ := (hs.live b _ hg).2.2
          have fin : ∀ ents' clock', LM ρ k1 (delL n es) ents'.toList → MapKept.Stamped ents' clock' → (Builtin.delete_ #[t, t2] ty #[.map (some (ρ.σ b)), .int k1 n]).run P w = .ok undef (put w (ρ.σ b) (.map ents' clock')) →
              ∃ w', (Builtin.delete_ #[t, t2] ty #[.map (some (ρ.σ b)), .int k1 n]).run P w = .ok undef w' ∧ Came G wE ρ h m s w ⟨undef, h.set b (some (.map k1 (delL n es) s)), m, s + 1⟩ undef w' := by
            intro ents' clock' hl hst hrun
            have hoff := off_put w (ρ.σ b) (.map ents' clock')
            exact ⟨_, hrun, ρ, .tuple _ _ rfl (fun i u v hu => by simp [undef] at hu), hs.writeO (o2 := .map k1 (delL n es) s) hg (by simp [XB.stamp]) rfl hoff ⟨ents', clock', put_same (hs.blk hg), hl, hst⟩, Step.writeO hs (Step.refl _ _ _ _ _ _) hs hg rfl hoff⟩
          rcases del_rel (k0 := k1) n q2 0 with ⟨f2, f3⟩ | ⟨j, v, f5, f6, f7⟩
          · have hf : (Instr.findKey k (.int k1 n) ents.toList).run P w = .ok none w := MapKept.run_findKey g2 f2
            refine fin ents clock f3 q3 ?_
            simp [Builtin.delete_, run_underlying g1, MapKept.run_getObj_map q1, hkey, hf, MapKept.run_setObj_map _ q1]
            exact ⟨rfl, rfl⟩
          · have hf : (Instr.findKey k (.int k1 n) ents.toList).run P w = .ok (some (0 + j, v)) w := MapKept.run_findKey g2 f5
            refine fin (ents.eraseIdxIfInBounds j) clock (by rw [Array.toList_eraseIdxIfInBounds]; exact f7) (MapKept.stamped_erase q3 j) ?_
            simp [Builtin.delete_, run_underlying g1, MapKept.run_getObj_map q1, hkey, hf, MapKept.run_setObj_map _ q1]
            exact ⟨rfl, rfl⟩
      · cases h3
    | _ => cases h2
  | _ => cases hr

/-! The keys of a map, sorted. -/
def insL (n : Int) : List Int → List Int
  | [] => [n]
  | a :: r => if n ≤ a then n :: a :: r else a :: insL n r
def sortL : List (Int × Value) → List Int
  | [] => []
  | e :: r => insL e.1 (sortL r)
theorem ile_dec (a b : Int) : ile a b = decide (a ≤ b) := ile_eq a b
theorem insI_eq (n : Int) : ∀ (l : List Int) (k : List Int → Option XA), insI n l k = k (insL n l)
  | [], k => rfl
  | a :: r, k => by
    have e1 : insI n (a :: r) k = (Bool.rec (insI n r fun s => k (a :: s)) (k (n :: a :: r)) (ile n a) : Option XA) := rfl
    rw [e1, ile_dec, insL]
    by_cases hn : n ≤ a
    · rw [if_pos hn, decide_eq_true hn]
    · rw [if_neg hn, decide_eq_false hn]; exact insI_eq n r _
theorem sortI_eq : ∀ (es : List (Int × Value)) (k : List Int → Option XA), sortI es k = k (sortL es)
  | [], k => rfl
  | e :: r, k => by
    have e1 : sortI (e :: r) k = sortI r fun s => insI e.1 s k := rfl
    rw [e1, sortI_eq r, insI_eq]; rfl
theorem intsK_eq : ∀ (l : List Int) (k : List Value → Option XA), intsK l k = k (l.map (Value.int .i64))
  | [], k => rfl
  | n :: r, k => by
    have e1 : intsK (n :: r) k = intsK r fun s => k (.int .i64 n :: s) := rfl
    rw [e1, intsK_eq r]; rfl
theorem allI_all : ∀ {l : List Int}, allI l = true → ∀ n ∈ l, -9223372036854775808 ≤ n ∧ n ≤ 9223372036854775807
  | [], _, n, hn => by cases hn
  | a :: r, h, n, hn => by
    have e1 : (Bool.rec false (allI r) (i64ok a) : Bool) = true := h
    cases e2 : i64ok a with
    | false => rw [e2] at e1; cases e1
    | true =>
      rw [e2] at e1
      rcases List.mem_cons.1 hn with rfl | hn
      · have e3 : (Bool.rec false (ile n (.ofNat 9223372036854775807)) (ile (.negSucc 9223372036854775807) n) : Bool) = true := e2
        cases e4 : ile (.negSucc 9223372036854775807) n with
        | false => rw [e4] at e3; cases e3
        | true =>
          rw [e4] at e3
          have e5 : ile n (.ofNat 9223372036854775807) = true := e3
          rw [ile_dec, decide_eq_true_iff] at e4 e5
          exact ⟨e4, e5⟩
      · exact allI_all e1 n hn
theorem insL_perm (n : Int) : ∀ l : List Int, (insL n l).Perm (n :: l)
  | [] => .refl _
  | a :: r => by
    rw [insL]
    split
    · exact .refl _
    · exact ((insL_perm n r).cons a).trans (.swap _ _ _)
theorem sortL_perm : ∀ es : List (Int × Value), (sortL es).Perm (es.map (·.1))
  | [] => .refl _
  | e :: r => (insL_perm e.1 (sortL r)).trans ((sortL_perm r).cons e.1)
theorem insL_sorted (n : Int) : ∀ l : List Int, l.Pairwise (· ≤ ·) → (insL n l).Pairwise (· ≤ ·)
  | [], _ => by simp [insL]
  | a :: r, h => by
    rw [insL]
    rw [List.pairwise_cons] at h
    split
    · rename_i hn
      refine List.pairwise_cons.2 ⟨fun x hx => ?_, List.pairwise_cons.2 h⟩
      rcases List.mem_cons.1 hx with rfl | hx
      · exact hn
      · exact Int.le_trans hn (h.1 x hx)
    · rename_i hn
      refine List.pairwise_cons.2 ⟨fun x hx => ?_, insL_sorted n r h.2⟩
      rcases List.mem_cons.1 ((insL_perm n r).mem_iff.1 hx) with rfl | hx
      · omega
      · exact h.1 x hx
theorem sortL_sorted : ∀ es : List (Int × Value), (sortL es).Pairwise (· ≤ ·)
  | [] => .nil
  | e :: r => insL_sorted _ _ (sortL_sorted r)
theorem LM.keys {k : IntKind} {es : List (Int × Value)} {l : List MapEntry} (h : LM ρ k es l) : l.map (·.key) = (es.map (·.1)).map (Value.int k) := by
  induction h with
  | nil => rfl
  | cons n u v b es l _ _ ih => simp [ih]

/-! math/bits.Add64, which has no body. -/
theorem kix7 {k : IntKind} (h : Nat.beq (kix k) 7 = true) : k = .u64 := by cases k <;> first | rfl | cases h
theorem add_vq (hs : HS G wE ρ h m s w) {A : FuncId} (hA : AddOk P A) {x x' y y' c c' : Value} {a : XA} (hx : VQ ρ x x') (hy : VQ ρ y y') (hc : VQ ρ c c') (hr : xadd h m s x y c = some a) :
    ∃ v' w', (Tag.sem (.ext A) [x', y', c']).run P w = .ok v' w' ∧ Came G wE ρ h m s w a v' w' := by
  cases x with
  | int k1 n1 =>
    cases y with
    | int k2 n2 =>
      cases c with
      | int k3 n3 =>
        obtain ⟨e3, h1⟩ := brec_some (show (Bool.rec none (Bool.rec none (Bool.rec none
    (Int.rec (fun x => Int.rec (fun y => Int.rec (fun c => Bool.rec none (fN (Nat.add (Nat.add x y) c) fun n => fN (Nat.mod n 18446744073709551616) fun a => fN (Nat.div n 18446744073709551616) fun b => some ⟨.tuple ⟨[.int .u64 (.ofNat a), .int .u64 (.ofNat b)]⟩, h, m, s⟩) (Nat.ble c 1)) (fun _ => none) n3) (fun _ => none) n2) (fun _ => none) n1)
    (Nat.beq (kix k1) 7)) (Nat.beq (kix k2) 7)) (Nat.beq (kix k3) 7) : Option XA) = some a from hr)
        obtain ⟨e2, h2⟩ := brec_some h1
        obtain ⟨e1, h3⟩ := brec_some h2
        obtain rfl := kix7 e1
        obtain rfl := kix7 e2
        obtain rfl := kix7 e3
        obtain rfl := vq_int hx
        obtain rfl := vq_int hy
        obtain rfl := vq_int hc
        cases n1 with
        | negSucc _ => cases h3
        | ofNat a1 =>
          cases n2 with
          | negSucc _ => cases h3
          | ofNat a2 =>
            cases n3 with
            | negSucc _ => cases h3
            | ofNat a3 =>
              obtain ⟨e4, h4⟩ := brec_some h3
              rw [fN_eq, fN_eq, fN_eq] at h4
              obtain rfl := Option.some.inj h4
              have hrun := hA a1 a2 a3 w (Nat.le_of_ble_eq_true e4)
              refine ⟨_, w, ?_, ρ, .tuple _ #[.int .u64 (((a1 + a2 + a3) % 18446744073709551616 : Nat) : Int), .int .u64 (((a1 + a2 + a3) / 18446744073709551616 : Nat) : Int)] rfl (fun i u v hu hv => ?_), hs, Step.refl _ _ _ _ _ _⟩
              · show (do
                  match ← callFunc A #[.int .u64 a1, .int .u64 a2, .int .u64 a3] with
                  | .value v => pure v
                  | _ => stuck "no value" : Sem Value).run P w = _
                simp only [Sem.run_bind, hrun, Result.andThen_ok, Sem.run_pure]
              · match i, hu, hv with
                | 0, hu, hv => cases hu; cases hv; constructor
                | 1, hu, hv => cases hu; cases hv; constructor
                | i + 2, hu, hv => simp at hu
      | _ => cases hr
    | _ => cases hr
  | _ => cases hr
end
end Go.Eng
