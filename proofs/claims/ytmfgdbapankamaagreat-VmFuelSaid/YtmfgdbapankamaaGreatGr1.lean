/- Engine, part C: equality of structs and arrays; every pure or reading operation yields its expression's value. -/
import Derived.Test.YtmfgdbapankamaaGreatGr0
import Derived.LaidEqlPtr
import Derived.Laws.Cover3
set_option linter.unusedSimpArgs false
set_option linter.unusedVariables false
namespace Go.Eng
def reader : Ex → Bool
  | .ld _ _ => true
  | .bstr _ => true
  | .eqx _ _ _ _ => true
  | _ => false
def isMove : Op → Bool
  | .move _ | .assign _ | .pick _ _ _ => true
  | _ => false
section
variable {P : Program} {look : Operand → Option Ex} {ρ : Operand → Value} {env : Env} {w : World}
theorem run_peq (d : Nat) {t e : TypeId} {n : Nat} (ht : P.underlying t = some (.pointer e)) (hz : szOf P e = some (n + 1)) {a b : Option Addr} {r : Bool} (h : peqV w a b = some r) :
    (Op.equalIn (d + 1) t (.pointer a) (.pointer b)).run P w = .ok r w := by
  obtain ⟨i, hi, hs⟩ := szOf_info hz
  cases a with
  | none => simp [peqV] at h; subst h; cases b <;> simp [Op.equalIn, run_underlying ht]
  | some a =>
    cases b with
    | none => simp [peqV] at h; subst h; simp [Op.equalIn, run_underlying ht]
    | some b =>
      simp only [Op.equalIn, Sem.run_bind, run_underlying ht, Result.andThen_ok, run_size hz, ne_eq, Nat.add_eq_zero_iff, Nat.succ_ne_self, and_false, not_false_eq_true, if_true]
      simp only [peqV] at h
      split at h
      · rename_i hb
        simp at h; subst h
        simp [sameAddr, hb]
      · rename_i hb
        split at h <;> simp at h
        subst h
        rename_i hp
        simp only [Bool.and_eq_true, plainB] at hp
        obtain ⟨h1, h2⟩ := hp
        split at h1 <;> simp at h1
        split at h2 <;> simp at h2
        exact run_sameAddr_other w (fun e => hb (by rw [e])) ‹_› ‹_›
theorem run_eqParts {F : Field → Option EqD} (m : Nat) (hF : ∀ f d x y r, F f = some d → eqv w d x y = some r → (Op.equalIn m f.type x y).run P w = .ok r w) (xs ys : Array Value) :
    ∀ (fs : List Field) (d : EqD) (r : Bool), eqParts F (aggOf P) fs = some d → eqv w d (.agg xs) (.agg ys) = some r → (Op.eqFields m xs ys fs).run P w = .ok r w
  | [], d, r, h, hv => by simp [eqParts] at h; subst h; simp [eqv] at hv; subst hv; simp [Op.eqFields]
  | f :: fs, d, r, h, hv => by
    simp only [eqParts] at h
    split at h
    · cases h
    · rename_i hn
      split at h
      · rename_i sz d1 e ha h1 he
        simp at h; subst h
        simp only [eqv] at hv
        split at hv
        · rename_i u v hu hv'
          have hn' : f.name ≠ "_" := by simpa using hn
          simp only [Op.eqFields, hn', ne_eq, not_false_eq_true, if_true, Sem.run_bind, run_part ha hu, run_part ha hv', Result.andThen_ok]
          split at hv
          · rename_i hr
            rw [hF f d1 u v true h1 hr]
            simpa using run_eqParts m hF xs ys fs e r he hv
          · rename_i hr
            simp at hv; subst hv
            rw [hF f d1 u v false h1 hr]
            simp
          · cases hv
        · cases hv
      · cases h
def eqElems (m : Nat) (e : TypeId) (n : Nat) (xs ys : Array Value) : List Nat → Sem Bool
  | [] => pure true
  | i :: l => do
    let a ← part e xs (i * n)
    let b ← part e ys (i * n)
    let r ← Op.equalIn m e a b
    if (!r) = true then pure false else eqElems m e n xs ys l
theorem run_eqRow {e : TypeId} {sz : Option Nat} (ha : aggOf P e = some sz) (m n : Nat) {d : EqD} (hF : ∀ x y r, eqv w d x y = some r → (Op.equalIn m e x y).run P w = .ok r w) (xs ys : Array Value) :
    ∀ (c i : Nat) (r : Bool), eqv w (eqRow sz n d c i) (.agg xs) (.agg ys) = some r → (eqElems m e n xs ys (List.range' i c)).run P w = .ok r w
  | 0, i, r, hv => by simp [eqRow, eqv] at hv; subst hv; simp [eqElems]
  | c + 1, i, r, hv => by
    simp only [eqRow, eqv] at hv
    simp only [List.range'_succ, eqElems]
    split at hv
    · rename_i u v hu hv'
      simp only [Sem.run_bind, run_part ha hu, run_part ha hv', Result.andThen_ok]
      split at hv
      · rename_i hr
        rw [hF u v true hr]
        simpa using run_eqRow ha m n hF xs ys c (i + 1) r hv
      · rename_i hr
        simp at hv; subst hv
        rw [hF u v false hr]
        simp
      · cases hv
    · cases hv
theorem run_equalIn_array (m : Nat) {t e : TypeId} {len n : Nat} (ht : P.underlying t = some (.array len e)) (hz : szOf P e = some n) (xs ys : Array Value) :
    (Op.equalIn (m + 1) t (.agg xs) (.agg ys)).run P w = (eqElems m e n xs ys (List.range' 0 len)).run P w := by
  simp only [Op.equalIn, Sem.run_bind, run_underlying ht, Result.andThen_ok, run_size hz]
  rw [Std.Legacy.Range.forIn_eq_forIn_range']
  simp only [Std.Legacy.Range.size, Nat.sub_zero, Nat.add_sub_cancel, Nat.div_one]
  generalize List.range' 0 len = l
  clear ht
  induction l generalizing w with
  | nil => simp [eqElems]
  | cons i l ih =>
    simp only [List.forIn_cons, eqElems, Sem.run_bind, Sem.run_ite]
    generalize (part e xs (i * n)).run P w = r1
    cases r1 with
    | halt x w1 => simp [Result.andThen]
    | ok a w1 =>
      simp only [Result.andThen_ok]
      generalize (part e ys (i * n)).run P w1 = r2
      cases r2 with
      | halt x w2 => simp [Result.andThen]
      | ok b w2 =>
        simp only [Result.andThen_ok]
        generalize (Op.equalIn m e a b).run P w2 = r3
        cases r3 with
        | halt x w3 => simp [Result.andThen]
        | ok r w3 =>
          cases r
          · simp
          · simp only [Result.andThen_ok, Bool.not_true, Bool.false_eq_true, if_false, Sem.run_pure]
            exact ih
theorem equalIn_eqD : ∀ (n : Nat) (t : TypeId) (d : EqD), eqD P n t = some d → ∀ (x y : Value) (r : Bool), eqv w d x y = some r → ∀ m, n ≤ m → (Op.equalIn m t x y).run P w = .ok r w
  | 0, t, d, h => by simp [eqD] at h
  | n + 1, t, d, h => by
    intro x y r hv m hm
    obtain ⟨m, rfl⟩ : ∃ k, m = k + 1 := ⟨m - 1, by omega⟩
    have ih := fun (t : TypeId) (d : EqD) (h : eqD P n t = some d) => equalIn_eqD n t d h
    simp only [eqD] at h
    split at h
    · rename_i ht
      simp at h; subst h
      cases x <;> cases y <;> simp [eqv] at hv
      subst hv
      simp [Op.equalIn, run_underlying ht]
    · rename_i ht
      simp at h; subst h
      cases x <;> cases y <;> simp [eqv] at hv
      obtain ⟨rfl, rfl⟩ := hv
      simp [Op.equalIn, run_underlying ht]
    · rename_i ht
      simp at h; subst h
      cases x <;> cases y <;> simp [eqv] at hv
      subst hv
      rw [run_equalIn_string w m t _ _ ht]
      simp [ByteArray.toList_eq]
    · rename_i e ht
      split at h <;> simp at h
      subst h
      cases x <;> cases y <;> simp [eqv] at hv
      exact run_peq m ht ‹_› hv
    · rename_i fs ht
      split at h
      · cases h
      · rename_i hst
        have hfs : P.fieldsOf t = fs := by simp [Program.fieldsOf, ht]
        have key : ∀ xs ys, x = .agg xs → y = .agg ys → (Op.equalIn (m + 1) t x y).run P w = .ok r w := by
          rintro xs ys rfl rfl
          rw [run_equalIn_agg w m t xs ys (by rw [hfs]; exact ht) (by simpa using hst), hfs]
          exact run_eqParts m (fun f d x y r h1 h2 => ih f.type d h1 x y r h2 m (by omega)) xs ys fs.toList d r h hv
        cases d with
        | nil => cases x <;> cases y <;> simp [eqv] at hv; exact key _ _ rfl rfl
        | cons o s d1 d2 => cases x <;> cases y <;> simp [eqv] at hv; exact key _ _ rfl rfl
        | _ =>
          exfalso
          revert h
          cases fs.toList with
          | nil => simp [eqParts]
          | cons f l => simp only [eqParts]; split <;> (try split) <;> simp
    · rename_i len e ht
      split at h
      · rename_i k sz d1 hz ha hd
        simp at h; subst h
        have key : ∀ xs ys, x = .agg xs → y = .agg ys → (Op.equalIn (m + 1) t x y).run P w = .ok r w := by
          rintro xs ys rfl rfl
          rw [run_equalIn_array m ht hz xs ys]
          exact run_eqRow ha m k (fun x y r h2 => ih e d1 hd x y r h2 m (by omega)) xs ys len 0 r hv
        cases len <;> cases x <;> cases y <;> simp [eqRow, eqv] at hv <;> exact key _ _ rfl rfl
      · cases h
    · cases h
theorem eqParts_shape {F : Field → Option EqD} {A : TypeId → Option (Option Nat)} {fs : List Field} {d : EqD} (h : eqParts F A fs = some d) : d ≠ .int ∧ d ≠ .str := by
  cases fs with
  | nil => simp [eqParts] at h; subst h; simp
  | cons f l =>
    simp only [eqParts] at h
    split at h
    · cases h
    · split at h
      · simp at h; subst h; simp
      · cases h
theorem eqRow_shape (sz : Option Nat) (n : Nat) (d : EqD) (c i : Nat) : eqRow sz n d c i ≠ .int ∧ eqRow sz n d c i ≠ .str := by
  cases c <;> simp [eqRow]
theorem eqD_shape {n : Nat} {t : TypeId} {d : EqD} (h : eqD P n t = some d) (hni : ∀ k, P.underlying t ≠ some (.int k)) (hns : P.underlying t ≠ some .string) : d ≠ .int ∧ d ≠ .str := by
  cases n with
  | zero => simp [eqD] at h
  | succ n =>
    simp only [eqD] at h
    split at h
    · simp at h; subst h; simp
    · exact absurd ‹_› (hni _)
    · exact absurd ‹_› hns
    · split at h <;> simp at h; subst h; simp
    · split at h
      · cases h
      · exact eqParts_shape h
    · split at h
      · simp at h; subst h; exact eqRow_shape _ _ _ _ _
      · cases h
    · cases h
theorem eqD_odd {d : EqD} {x y : Value} {r : Bool} (hv : eqv w d x y = some r) (h1 : d ≠ .int) (h2 : d ≠ .str) : odd x = true := by
  cases d <;> cases x <;> cases y <;> simp [eqv] at hv <;> simp [odd] <;> simp_all
theorem run_eqx {op : BinOp} (he : isEq op = true) {t : TypeId} {d : EqD} (hd : eqD P 20 t = some d) (hni : ∀ k, P.underlying t ≠ some (.int k)) (hns : P.underlying t ≠ some .string)
    (hg : P.eqGuardType P.depth t = false) (a b : Operand) {x y : Value} {r : Bool} (hv : eqv w d x y = some r) :
    (eqGuard op t a b x y).run P w = .ok () w ∧ (binOp op t x y).run P w = .ok (.bool (isNe op != r)) w := by
  obtain ⟨h1, h2⟩ := eqD_shape hd hni hns
  constructor
  · cases d <;> cases x <;> cases y <;> simp [eqv] at hv <;> cases op <;> simp [isEq] at he <;> simp [eqGuard, hg] <;> simp_all
  · exact run_eq_odd he (eqD_odd hv h1 h2) (equalIn_eqD 20 t d hd x y r hv 10000 (by omega))
theorem setRow_list (off : Nat) : ∀ (vs : List Value) (cs : Array Value) (k : Nat),
    (vs.zipIdx k).foldl (fun cs (x : Value × Nat) => cs.setIfInBounds (off + x.2) x.1) cs = setRow cs (off + k) vs
  | [], cs, k => by simp [setRow]
  | v :: vs, cs, k => by
    simp only [List.zipIdx_cons, List.foldl_cons, setRow]
    exact setRow_list off vs _ (k + 1)
theorem setRow_array (cs : Array Value) (off : Nat) (vs : Array Value) :
    vs.zipIdx.foldl (fun cs (x : Value × Nat) => cs.setIfInBounds (off + x.2) x.1) cs = setRow cs off vs.toList := by
  rw [← Array.foldl_toList, Array.toList_zipIdx]
  exact setRow_list off vs.toList cs 0
theorem setRow_size : ∀ (vs : List Value) (cs : Array Value) (off : Nat), (setRow cs off vs).size = cs.size
  | [], cs, off => rfl
  | v :: vs, cs, off => by simp [setRow, setRow_size vs]
theorem buildEx_spec {place : Nat → Option (Nat × Nat)} (hr : Rel look ρ env w) : ∀ (parts : List (Nat × Operand)) (b e : Ex) (v : Value),
    buildEx place look b parts = some e → e.ev env w = some v →
    ∃ u, b.ev env w = some u ∧ ∀ z, u = .agg z → ∃ cells, Instr.fill place z (parts.map fun x => (x.1, ρ x.2)) = some cells ∧ v = .agg cells
  | [], b, e, v, h, hv => by
    simp [buildEx] at h; subst h
    exact ⟨v, hv, fun z hz => ⟨z, by simp [Instr.fill], hz⟩⟩
  | (i, x) :: r, b, e, v, h, hv => by
    simp only [buildEx] at h
    split at h
    · rename_i off sz e0 hp he
      obtain ⟨u, hu, hz⟩ := buildEx_spec hr r _ e v h hv
      simp only [Ex.ev, U1.ap, U2.ap, U3.ap] at hu
      obtain ⟨b0, hb, hu⟩ := bind_inv hu
      obtain ⟨v0, hv0, hu⟩ := bind_inv hu
      refine ⟨b0, hb, ?_⟩
      rintro z rfl
      simp only [updV] at hu
      split at hu <;> simp at hu
      rename_i hc
      obtain ⟨cells, h1, h2⟩ := hz _ hu.symm
      refine ⟨cells, ?_, h2⟩
      have hx := hr x e0 v0 he hv0
      simp only [List.map_cons, Instr.fill, hp, hx]
      have : ¬ ((v0.cells.size ≠ sz) || decide (off + v0.cells.size > z.size)) = true := by simp; omega
      have hs : (v0.cells.zipIdx.foldl (fun cs x => match x with | (c, j) => cs.setIfInBounds (off + j) c) z) = setRow z off v0.cells.toList := setRow_array z off v0.cells
      rw [if_neg (by simpa using this)]
      rw [hs]
      exact h1
    · cases h
theorem run_places : ∀ (fs : List Field) (ps : List (Nat × Nat)), places P fs = some ps →
    (fs.mapM fun f => (do pure (f.offset, ← sizeOf f.type) : Sem (Nat × Nat))).run P w = .ok ps w
  | [], ps, h => by simp [places] at h; subst h; simp
  | f :: fs, ps, h => by
    simp only [places, List.mapM_cons, Option.pure_def, Option.bind_eq_bind] at h
    obtain ⟨p, hp, h⟩ := bind_inv h
    obtain ⟨qs, hq, h⟩ := bind_inv h
    simp at h; subst h
    obtain ⟨n, hn, rfl⟩ := map_inv hp
    have := run_places fs qs hq
    simp only [List.mapM_cons, Sem.run_bind, run_size hn, Result.andThen_ok, Sem.run_pure, this]
theorem foldEx_spec {f : Ex → Ex → Ex} {g : Value → Value → Option Value} (hf : ∀ b e, (f b e).ev env w = (b.ev env w).bind fun u => (e.ev env w).bind fun v => g u v)
    (hr : Rel look ρ env w) : ∀ (xs : List Operand) (b e : Ex) (v : Value), foldEx f look b xs = some e → e.ev env w = some v →
    ∃ u, b.ev env w = some u ∧ (xs.map ρ).foldlM (fun u x => g u x) u = some v
  | [], b, e, v, h, hv => by simp [foldEx] at h; subst h; exact ⟨v, hv, by simp⟩
  | x :: r, b, e, v, h, hv => by
    simp only [foldEx] at h
    split at h
    · rename_i e0 he
      obtain ⟨u, hu, h2⟩ := foldEx_spec hf hr r _ e v h hv
      rw [hf] at hu
      obtain ⟨b0, hb, hu⟩ := bind_inv hu
      obtain ⟨v0, hv0, hu⟩ := bind_inv hu
      refine ⟨b0, hb, ?_⟩
      rw [List.map_cons, List.foldlM_cons, hr x e0 v0 he hv0, hu]
      exact h2
    · cases h
theorem fst1_fold (fn : Fn) : ∀ (l : List Value) (f c : Array Value) (v : Value), l.foldlM (fun u x => fst1V u x) (.func fn f c) = some v → v = .func fn (f ++ l.toArray) c
  | [], f, c, v, h => by simp at h; simp [h]
  | x :: l, f, c, v, h => by
    simp only [List.foldlM_cons, fst1V, Option.bind_eq_bind, Option.bind_some] at h
    have := fst1_fold fn l _ c v h
    simp [this]
theorem cap1_fold (fn : Fn) : ∀ (l : List Value) (f c : Array Value) (v : Value), l.foldlM (fun u x => cap1V u x) (.func fn f c) = some v → v = .func fn f (c ++ l.toArray)
  | [], f, c, v, h => by simp at h; simp [h]
  | x :: l, f, c, v, h => by
    simp only [List.foldlM_cons, cap1V, Option.bind_eq_bind, Option.bind_some] at h
    have := cap1_fold fn l f _ v h
    simp [this]
theorem run_build (w1 : World) {t : TypeId} {parts : Array (Nat × Operand)} {e : Ex} {v : Value} (hr : Rel look ρ env w) (h : opEx P look (.build t parts) = some e) (hv : e.ev env w = some v) :
    (Instr.build t (parts.map fun (i, x) => (i, ρ x))).run P w1 = .ok v w1 := by
  simp only [opEx] at h
  split at h
  · rename_i z hi
    have hzero : (zeroValue t).run P w1 = .ok (.agg z) w1 := by
      unfold zeroOf at hi
      split at hi <;> simp at hi
      subst hi
      rename_i h0
      obtain ⟨i, h1, h2⟩ := bind_inv h0
      simp [zeroValue, run_info h1, h2]
    split at h
    · rename_i fs ht
      obtain ⟨ps, hp, h⟩ := bind_inv h
      obtain ⟨u, hu, hz⟩ := buildEx_spec hr _ _ e v h hv
      simp only [Ex.ev, Option.some.injEq] at hu
      obtain ⟨cells, h1, rfl⟩ := hz z hu.symm
      have hpl : (fs.mapM fun f => (do pure (f.offset, ← sizeOf f.type) : Sem (Nat × Nat))).run P w1 = .ok ps.toArray w1 := by
        have := run_places (P := P) (w := w1) fs.toList ps hp
        rw [← Array.toList_mapM] at this
        simp only [Sem.run_map] at this
        generalize (fs.mapM fun f => (do pure (f.offset, ← sizeOf f.type) : Sem (Nat × Nat))).run P w1 = r at this ⊢
        cases r with
        | ok a w1 => simp at this; obtain ⟨h1, h2⟩ := this; subst h1; subst h2; simp
        | halt x w1 => simp at this
      have h1' : Instr.fill (fun i => ps.toArray[i]?) z (parts.map fun (x : Nat × Operand) => (x.1, ρ x.2)).toList = some cells := by
        simpa using h1
      simp only [Instr.build, Sem.run_bind, hzero, Result.andThen_ok, run_underlying ht, hpl, Value.cells]
      rw [h1']
      rfl
    · rename_i len el ht
      obtain ⟨m, hm, h⟩ := bind_inv h
      obtain ⟨u, hu, hz⟩ := buildEx_spec hr _ _ e v h hv
      simp only [Ex.ev, Option.some.injEq] at hu
      obtain ⟨cells, h1, rfl⟩ := hz z hu.symm
      have h1' : Instr.fill (fun i => some (i * m, m)) z (parts.map fun (x : Nat × Operand) => (x.1, ρ x.2)).toList = some cells := by
        simpa using h1
      simp only [Instr.build, Sem.run_bind, hzero, Result.andThen_ok, run_underlying ht, run_size hm, Value.cells]
      rw [h1']
      rfl
    · cases h
  · cases h
theorem optEx_spec (hr : Rel look ρ env w) {d e : Ex} {lo : Option Operand} {v dv : Value} (h : optEx look d lo = some e) (hv : e.ev env w = some v) (hd : ∀ u, d.ev env w = some u → u = dv) :
    OptRel (lo.map ρ) dv v := by
  cases lo with
  | none => simp [optEx] at h; subst h; exact .inr ⟨rfl, hd _ hv⟩
  | some x => simp [optEx] at h; exact .inl (by simp [hr x e v h hv])
theorem run_sliceEx (w1 : World) (hr : Rel look ρ env w) {t : TypeId} {x : Operand} {lo hi : Option Operand} {e : Ex} {v : Value} (h : sliceEx P look t x lo hi = some e) (hv : e.ev env w = some v) :
    (Instr.sliceAt t (ρ x) (lo.map ρ) (hi.map ρ) none).run P w1 = .ok v w1 := by
  unfold sliceEx at h
  split at h
  · rename_i x' lo' n el hx hlo ht
    split at h <;> simp at h
    rename_i sz hi' hz hhi
    subst h
    simp only [Ex.ev, U1.ap, U2.ap, U3.ap] at hv
    obtain ⟨u, hu, hv⟩ := bind_inv hv
    obtain ⟨l, hl, hv⟩ := bind_inv hv
    obtain ⟨h, hh, hv⟩ := bind_inv hv
    rw [hr x x' u hx hu]
    exact run_slArr ht hz hv (optEx_spec hr hlo hl (by simp [Ex.ev])) (optEx_spec hr hhi hh (by simp [Ex.ev]))
  · rename_i x' lo' el hx hlo ht
    split at h <;> simp at h
    rename_i sz hi' hz hhi
    subst h
    simp only [Ex.ev, U1.ap, U2.ap, U3.ap] at hv
    obtain ⟨u, hu, hv⟩ := bind_inv hv
    obtain ⟨l, hl, hv⟩ := bind_inv hv
    obtain ⟨h, hh, hv⟩ := bind_inv hv
    rw [hr x x' u hx hu]
    have : ∃ d, lenV false u = some d := by
      unfold slSlV at hv; split at hv <;> simp [lenV] at hv ⊢
    obtain ⟨d, hd⟩ := this
    exact run_slSl ht hz hv (optEx_spec hr hlo hl (by simp [Ex.ev])) hd (optEx_spec hr hhi hh (by simp [Ex.ev, U1.ap, hu, hd]))
  · rename_i x' lo' hx hlo ht
    split at h <;> simp at h
    rename_i hi' hhi
    subst h
    simp only [Ex.ev, U1.ap, U2.ap, U3.ap] at hv
    obtain ⟨u, hu, hv⟩ := bind_inv hv
    obtain ⟨l, hl, hv⟩ := bind_inv hv
    obtain ⟨h, hh, hv⟩ := bind_inv hv
    rw [hr x x' u hx hu]
    have : ∃ d, lenV true u = some d := by
      unfold slStrV at hv; split at hv <;> simp [lenV] at hv ⊢
    obtain ⟨d, hd⟩ := this
    exact run_slStr ht hv (optEx_spec hr hlo hl (by simp [Ex.ev])) hd (optEx_spec hr hhi hh (by simp [Ex.ev, U1.ap, hu, hd]))
  · cases h
theorem bin2_inv {f : Ex → Ex → Ex} {x y : Operand} {e : Ex} (h : bin2 look f x y = some e) : ∃ a b, look x = some a ∧ look y = some b ∧ e = f a b := by
  unfold bin2 at h
  split at h <;> simp at h
  exact ⟨_, _, ‹_›, ‹_›, h.symm⟩
theorem nilV_odd {k : Nat} {ne : Bool} {u v : Value} (h : nilV k ne u = some v) : odd u = true := by
  cases u <;> simp [nilV] at h <;> simp [odd]
theorem isNilC_odd {c : Value} {k : Nat} (h : isNilC (.const c) = some k) : odd c = true := by
  cases c <;> simp [isNilC] at h <;> simp [odd]
theorem run_binEx (w1 : World) (hr : Rel look ρ env w) (hc : ∀ v, ρ (.const v) = v) {op : BinOp} {t : TypeId} {x y : Operand} {e : Ex} {v : Value}
    (h : binEx P look op t x y = some e) (hv : e.ev env w = some v) (hw1 : reader e = false ∨ w1 = w) :
    (do eqGuard op t x y (ρ x) (ρ y); binOp op t (ρ x) (ρ y) : Sem Value).run P w1 = .ok v w1 := by
  have plain : ∀ {a b : Ex}, look x = some a → look y = some b → (Ex.bin op a b).ev env w = some v →
      (do eqGuard op t x y (ρ x) (ρ y); binOp op t (ρ x) (ρ y) : Sem Value).run P w1 = .ok v w1 := by
    intro a b ha hb hv
    simp only [Ex.ev, U1.ap, U2.ap, U3.ap] at hv
    obtain ⟨u, hu, hv⟩ := bind_inv hv
    obtain ⟨u', hu', hv⟩ := bind_inv hv
    rw [hr x a u ha hu, hr y b u' hb hu']
    simp only [Sem.run_bind, eqGuard_binV t x y hv, Result.andThen_ok, run_binV t hv]
  unfold binEx at h
  split at h
  · rename_i he
    split at h
    · rename_i k k' hy ht
      split at h <;> simp at h
      rename_i hk; subst hk
      obtain ⟨a, ha, rfl⟩ := h
      simp only [Ex.ev, U1.ap, U2.ap, U3.ap] at hv
      obtain ⟨u, hu, hv⟩ := bind_inv hv
      obtain ⟨c, r, rfl, rfl, h1, _⟩ := equalIn_nil (P := P) (w := w1) 9999 hy ht hv
      rw [hr x a u ha hu, hc]
      have hg : (eqGuard op t x (.const c) u c).run P w1 = .ok () w1 := by
        cases op <;> simp [isEq] at he <;> cases u <;> simp [nilV] at hv <;> cases c <;> simp [isNilC] at hy <;> simp [eqGuard] <;> simp_all
      simp only [Sem.run_bind, hg, Result.andThen_ok]
      exact run_eq_odd he (nilV_odd hv) h1
    · split at h
      · rename_i k k' hx ht
        split at h <;> simp at h
        rename_i hk; subst hk
        obtain ⟨b, hb, rfl⟩ := h
        simp only [Ex.ev, U1.ap, U2.ap, U3.ap] at hv
        obtain ⟨u, hu, hv⟩ := bind_inv hv
        obtain ⟨c, r, rfl, rfl, _, h1⟩ := equalIn_nil (P := P) (w := w1) 9999 hx ht hv
        rw [hr y b u hb hu, hc]
        have hg : (eqGuard op t (.const c) y c u).run P w1 = .ok () w1 := by
          cases op <;> simp [isEq] at he <;> cases u <;> simp [nilV] at hv <;> cases c <;> simp [isNilC] at hx <;> simp [eqGuard] <;> simp_all
        simp only [Sem.run_bind, hg, Result.andThen_ok]
        exact run_eq_odd he (isNilC_odd hx) h1
      · unfold eqEx at h
        split at h
        · obtain ⟨a, b, ha, hb, rfl⟩ := bin2_inv h; exact plain ha hb hv
        · obtain ⟨a, b, ha, hb, rfl⟩ := bin2_inv h; exact plain ha hb hv
        · rename_i hni hns
          split at h
          · cases h
          · rename_i hg
            split at h
            · rename_i d hd
              obtain ⟨a, b, ha, hb, rfl⟩ := bin2_inv h
              simp only [Ex.ev, U1.ap, U2.ap, U3.ap] at hv
              obtain ⟨u, hu, hv⟩ := bind_inv hv
              obtain ⟨u', hu', hv⟩ := bind_inv hv
              obtain ⟨r, hrr, rfl⟩ := map_inv hv
              obtain rfl : w1 = w := by rcases hw1 with h | h
                                        · simp [reader] at h
                                        · exact h
              obtain ⟨h1, h2⟩ := run_eqx (P := P) he hd hni hns (by simpa using hg) x y hrr
              rw [hr x a u ha hu, hr y b u' hb hu']
              simp only [Sem.run_bind, h1, Result.andThen_ok, h2]
            · cases h
  · obtain ⟨a, b, ha, hb, rfl⟩ := bin2_inv h; exact plain ha hb hv
theorem run_unV (w : World) {op : UnOp} {u v : Value} (h : unV op u = some v) : (Op.unary op u).run P w = .ok v w := by
  unfold unV at h
  split at h
  · split at h <;> simp at h <;> subst h <;> simp [Op.unary, Op.intArith, Op.intBits]
  · split at h <;> simp at h; subst h; simp [Op.unary]
  · cases h
theorem opEx_sound' (w1 : World) (hr : Rel look ρ env w) (hc : ∀ v, ρ (.const v) = v) {o : Oper} {e : Ex} {v : Value} (h : opEx P look o.op = some e) (hv : e.ev env w = some v)
    (hw1 : (reader e = false ∨ isMove o.op = true) ∨ w1 = w) : (execOp ρ o).run P w1 = .ok (.value v) w1 := by
  have one : ∀ {x : Operand} {f : Ex → Ex} {g : Value → Option Value}, (∀ b, (f b).ev env w = (b.ev env w).bind g) → (look x).map f = some e → g (ρ x) = some v := by
    intro x f g hf h
    obtain ⟨a, ha, rfl⟩ := map_inv h
    rw [hf] at hv
    obtain ⟨u, hu, hv⟩ := bind_inv hv
    rw [hr x a u ha hu]; exact hv
  obtain ⟨dst, op, type, pos, after, guard⟩ := o
  simp only at h
  cases op with
  | move x => simp [execOp, hr x e v h hv]
  | assign x => simp [execOp, hr x e v h hv]
  | nilCheck x =>
    have h1 : nnV (ρ x) = some v := one (fun b => by simp only [Ex.ev, U1.ap, U2.ap, U3.ap]) h
    unfold nnV at h1
    split at h1 <;> simp at h1 <;> subst h1 <;> simp_all [execOp]
  | sliceToArrayPointer arr x =>
    simp only [opEx] at h
    split at h
    · rename_i n e0 ht
      have h1 : s2aV n (ρ x) = some v := one (fun b => by simp only [Ex.ev, U1.ap, U2.ap, U3.ap]) h
      unfold s2aV at h1
      split at h1
      · rename_i a len cap hx
        split at h1
        · rename_i hn
          obtain rfl := Option.some.inj h1
          simp [execOp, hx, run_arrayAt w1 arr e0 n (some a) len cap ht hn.2]
        · cases h1
      · cases h1
    · cases h
  | binOp op t x y yt =>
    have := run_binEx w1 hr hc h hv (by rcases hw1 with (h | h) | h
                                        · exact .inl h
                                        · simp [isMove] at h
                                        · exact .inr h)
    simp only [execOp, Sem.run_bind] at this ⊢
    rw [this]; rfl
  | unOp op t x =>
    have h1 : unV op (ρ x) = some v := one (fun b => by simp only [Ex.ev, U1.ap, U2.ap, U3.ap]) h
    simp [execOp, run_unV w1 h1]
  | convert s d x =>
    simp only [opEx] at h
    split at h
    · rename_i hs hd
      have h1 := one (fun b => by simp only [Ex.ev, U1.ap]; rfl) h
      unfold convV at h1
      split at h1 <;> simp at h1
      subst h1
      rename_i hx
      simp [execOp, convert, run_underlying hs, run_underlying hd, hx, Conv.intToInt]
    · rename_i hs hd
      have h1 := one (fun b => by simp only [Ex.ev, U1.ap]; rfl) h
      unfold cstrV at h1
      split at h1 <;> simp at h1
      subst h1
      rename_i hx
      simp [execOp, convert, run_underlying hs, run_underlying hd, hx]
    · rename_i hs hd
      split at h
      · rename_i he
        have h1 := one (fun b => by simp only [Ex.ev, U1.ap]; rfl) h
        obtain rfl : w1 = w := by rcases hw1 with (h0 | h0) | h0
                                  · obtain ⟨a, ha, rfl⟩ := map_inv h; simp [reader] at h0
                                  · simp [isMove] at h0
                                  · exact h0
        have h2 := run_bstr (P := P) h1
        simp only [execOp, Sem.run_bind]
        have : ∃ a l c, ρ x = .slice a l c := by
          revert h1; unfold bstrv; split <;> simp_all
        obtain ⟨a, l, c, hx⟩ := this
        rw [hx] at h2 ⊢
        rw [run_convert_bytes_string w1 s d _ a l c hs he hd, h2]
        rfl
      · cases h
    · cases h
  | makeInterface t x =>
    simp only [opEx] at h
    split at h
    · cases h
    · rename_i d hni hd
      have h1 := one (fun b => by simp only [Ex.ev, U1.ap]; rfl) h
      simp at h1; subst h1
      simp only [execOp, Sem.run_bind, Instr.makeInterface, run_underlying hd, Result.andThen_ok]
      cases d <;> simp_all
    · cases h
  | makeFunc fn first captured =>
    simp only [opEx] at h
    obtain ⟨b, h1, h2⟩ := bind_inv h
    obtain ⟨u, hu, h3⟩ := foldEx_spec (g := cap1V) (fun b e => by simp only [Ex.ev, U1.ap, U2.ap, U3.ap]) hr _ _ e v h2 hv
    obtain ⟨u0, hu0, h4⟩ := foldEx_spec (g := fst1V) (fun b e => by simp only [Ex.ev, U1.ap, U2.ap, U3.ap]) hr _ _ b u h1 hu
    simp only [Ex.ev, Option.some.injEq] at hu0
    subst hu0
    have h5 := fst1_fold fn _ _ _ _ h4
    subst h5
    have h6 := cap1_fold fn _ _ _ _ h3
    subst h6
    simp only [execOp, Instr.makeFunc, Sem.run_bind, Sem.run_pure, Result.andThen_ok]
    congr 3
    · cases first; simp
    · cases captured; simp
  | slice t x lo hi mx =>
    cases mx with
    | some m => simp [opEx] at h
    | none =>
      simp only [opEx] at h
      simp [execOp, run_sliceEx w1 hr h hv]
  | fieldAddr s x f =>
    simp only [opEx] at h
    split at h
    · rename_i fs hs
      split at h
      · rename_i g hg
        split at h
        · rename_i n hz
          have h1 : offpV g.offset (ρ x) = some v := one (fun b => by simp only [Ex.ev, U1.ap, U2.ap, U3.ap]) h
          simp [execOp, run_offp hs hg hz h1]
        · cases h
      · cases h
    · cases h
  | field t x f =>
    simp only [opEx] at h
    split at h
    · rename_i fs hs
      split at h
      · rename_i g hg
        split at h
        · rename_i sz hz
          have h1 : partOf sz g.offset (ρ x) = some v := one (fun b => by simp only [Ex.ev, U1.ap, U2.ap, U3.ap]) h
          unfold partOf at h1
          split at h1
          · rename_i cs hx
            simp [execOp, Instr.field, run_underlying hs, hg, hx, asAgg, run_part hz h1]
          · cases h1
        · cases h
      · cases h
    · cases h
  | indexAddr t x i =>
    simp only [opEx] at h
    split at h
    · rename_i x' i' hx hi
      split at h
      · rename_i n el ht
        obtain ⟨sz, hz, rfl⟩ := map_inv h
        simp only [Ex.ev, U1.ap, U2.ap, U3.ap] at hv
        obtain ⟨u, hu, hv⟩ := bind_inv hv
        obtain ⟨j, hj, hv⟩ := bind_inv hv
        simp [execOp, hr x x' u hx hu, hr i i' j hi hj, run_ixArr ht hz hv]
      · rename_i el ht
        obtain ⟨sz, hz, rfl⟩ := map_inv h
        simp only [Ex.ev, U1.ap, U2.ap, U3.ap] at hv
        obtain ⟨u, hu, hv⟩ := bind_inv hv
        obtain ⟨j, hj, hv⟩ := bind_inv hv
        simp [execOp, hr x x' u hx hu, hr i i' j hi hj, run_ixSl ht hz hv]
      · cases h
    · cases h
  | index t x i =>
    simp only [opEx] at h
    split at h
    · rename_i x' i' hx hi
      split at h
      · rename_i n el ht
        split at h <;> simp at h
        rename_i m sz hz ha
        subst h
        simp only [Ex.ev, U1.ap, U2.ap, U3.ap] at hv
        obtain ⟨u, hu, hv⟩ := bind_inv hv
        obtain ⟨j, hj, hv⟩ := bind_inv hv
        simp [execOp, hr x x' u hx hu, hr i i' j hi hj, run_idxAgg ht hz ha hv]
      · rename_i ht
        simp at h
        subst h
        simp only [Ex.ev, U1.ap, U2.ap, U3.ap] at hv
        obtain ⟨u, hu, hv⟩ := bind_inv hv
        obtain ⟨j, hj, hv⟩ := bind_inv hv
        simp [execOp, hr x x' u hx hu, hr i i' j hi hj, run_idxStr ht hv]
      · cases h
    · cases h
  | extract x i =>
    have h1 : projV i (ρ x) = some v := one (fun b => by simp only [Ex.ev, U1.ap, U2.ap, U3.ap]) h
    unfold projV at h1
    split at h1
    · rename_i vs hx
      simp [execOp, Instr.extract, hx, h1]
    · cases h1
  | load t a =>
    simp only [opEx] at h
    split at h
    · rename_i sz hz
      have h1 : ldv w sz (ρ a) = some v := one (fun b => by simp only [Ex.ev, U1.ap, U2.ap, U3.ap]) h
      obtain rfl : w1 = w := by rcases hw1 with (h0 | h0) | h0
                                · obtain ⟨a, ha, rfl⟩ := map_inv h; simp [reader] at h0
                                · simp [isMove] at h0
                                · exact h0
      simp [execOp, run_loadAt hz h1]
    · cases h
  | build t parts =>
    simp [execOp, run_build w1 hr h hv]
  | call c =>
    obtain ⟨callee, args, argTypes⟩ := c
    cases callee with
    | value f => simp [opEx] at h
    | invoke r m => simp [opEx] at h
    | builtin b =>
      cases b with
      | len =>
        simp only [opEx] at h
        split at h
        · rename_i x t hx ht
          have ea : args = #[x] := by rw [← Array.toArray_toList (xs := args), hx]
          have et : argTypes = #[t] := by rw [← Array.toArray_toList (xs := argTypes), ht]
          subst ea; subst et
          split at h
          · rename_i el hu
            have h1 : lenV false (ρ x) = some v := one (fun b => by simp only [Ex.ev, U1.ap, U2.ap, U3.ap]) h
            unfold lenV at h1
            split at h1 <;> simp at h1
            subst h1
            rename_i hx
            simp [execOp, resolve, invoke, builtin, Builtin.len_, run_underlying hu, hx, goInt]
          · rename_i hu
            have h1 : lenV true (ρ x) = some v := one (fun b => by simp only [Ex.ev, U1.ap, U2.ap, U3.ap]) h
            unfold lenV at h1
            split at h1 <;> simp at h1
            subst h1
            rename_i hx
            simp [execOp, resolve, invoke, builtin, Builtin.len_, run_underlying hu, hx, goInt]
          · cases h
        · cases h
      | min =>
        simp only [opEx] at h
        split at h
        · rename_i x y ha
          split at h <;> simp at h
          rename_i x' y' hx hy
          have ea : args = #[x, y] := by rw [← Array.toArray_toList (xs := args), ha]
          subst ea; subst h
          simp only [Ex.ev, U1.ap, U2.ap, U3.ap] at hv
          obtain ⟨u, hu, hv⟩ := bind_inv hv
          obtain ⟨u', hu', hv⟩ := bind_inv hv
          unfold mnV at hv
          split at hv <;> simp at hv
          subst hv
          have e1 := hr x x' _ hx hu
          have e2 := hr y y' _ hy hu'
          simp [execOp, resolve, invoke, builtin, Builtin.min_, Builtin.min2, e1, e2]
        · cases h
      | max =>
        simp only [opEx] at h
        split at h
        · rename_i x y ha
          split at h <;> simp at h
          rename_i x' y' hx hy
          have ea : args = #[x, y] := by rw [← Array.toArray_toList (xs := args), ha]
          subst ea; subst h
          simp only [Ex.ev, U1.ap, U2.ap, U3.ap] at hv
          obtain ⟨u, hu, hv⟩ := bind_inv hv
          obtain ⟨u', hu', hv⟩ := bind_inv hv
          unfold mxV at hv
          split at hv <;> simp at hv
          subst hv
          have e1 := hr x x' _ hx hu
          have e2 := hr y y' _ hy hu'
          simp [execOp, resolve, invoke, builtin, Builtin.max_, Builtin.max2, e1, e2]
        · cases h
      | _ => simp [opEx] at h
  | _ => simp [opEx] at h
theorem opEx_sound (hr : Rel look ρ env w) (hc : ∀ v, ρ (.const v) = v) {o : Oper} {e : Ex} {v : Value} (h : opEx P look o.op = some e) (hv : e.ev env w = some v) :
    (execOp ρ o).run P w = .ok (.value v) w := opEx_sound' w hr hc h hv (.inr rfl)
end
end Go.Eng
