/- Engine, part B: from an operation of a region to its expression, and that the operation yields the expression's value. -/
import Derived.Test.YtkgpmjjleemdlaaGreatEngA
set_option linter.unusedSimpArgs false
set_option linter.unusedVariables false
namespace Go.Eng

/-- Whether a constant is Go's nil, and of which kind. -/
def isNilC : Operand → Option Nat
  | .const (.pointer none) => some 0
  | .const (.slice none _ _) => some 1
  | .const .nilFunc => some 2
  | .const .nilIface => some 3
  | .const (.map none) => some 4
  | _ => none

def nilTy (P : Program) (t : TypeId) : Option Nat :=
  match P.underlying t with
  | some (.pointer _) => some 0
  | some (.slice _) => some 1
  | some (.func _ _ _) => some 2
  | some (.interface _) => some 3
  | some (.map _ _) => some 4
  | _ => none

def eqParts (F : Field → Option EqD) (A : TypeId → Option (Option Nat)) : List Field → Option EqD
  | [] => some .nil
  | f :: r =>
    if f.name == "_" then none else
    match A f.type, F f, eqParts F A r with
    | some sz, some d, some e => some (.cons f.offset sz d e)
    | _, _, _ => none

def eqRow (sz : Option Nat) (n : Nat) (d : EqD) : (count i : Nat) → EqD
  | 0, _ => .nil
  | k + 1, i => .cons (i * n) sz d (eqRow sz n d k (i + 1))

def eqD (P : Program) : Nat → TypeId → Option EqD
  | 0, _ => none
  | n + 1, t =>
    match P.underlying t with
    | some .bool => some .bool
    | some (.int _) => some .int
    | some .string => some .str
    | some (.pointer e) => match szOf P e with
      | some (_ + 1) => some .ptr
      | _ => none
    | some (.struct fs) => if P.stoodInHeld t then none else eqParts (fun f => eqD P n f.type) (aggOf P) fs.toList
    | some (.array len e) => match szOf P e, aggOf P e, eqD P n e with
      | some m, some sz, some d => some (eqRow sz m d len 0)
      | _, _, _ => none
    | _ => none

def isNe : BinOp → Bool
  | .neq => true
  | _ => false
def isEq : BinOp → Bool
  | .eql | .neq => true
  | _ => false

def bin2 (look : Operand → Option Ex) (f : Ex → Ex → Ex) (x y : Operand) : Option Ex :=
  match look x, look y with
  | some x, some y => some (f x y)
  | _, _ => none

def eqEx (P : Program) (look : Operand → Option Ex) (op : BinOp) (t : TypeId) (x y : Operand) : Option Ex :=
  match P.underlying t with
  | some (.int _) | some .string => bin2 look (.bin op) x y
  | _ => if P.eqGuardType P.depth t then none else
    match eqD P 20 t with
    | some d => bin2 look (.eqx (isNe op) d) x y
    | none => none

def binEx (P : Program) (look : Operand → Option Ex) (op : BinOp) (t : TypeId) (x y : Operand) : Option Ex :=
  if isEq op then
    match isNilC y, nilTy P t with
    | some k, some k' => if k = k' then (look x).map (.isnil k (isNe op)) else none
    | _, _ => match isNilC x, nilTy P t with
      | some k, some k' => if k = k' then (look y).map (.isnil k (isNe op)) else none
      | _, _ => eqEx P look op t x y
  else bin2 look (.bin op) x y

def foldEx (f : Ex → Ex → Ex) (look : Operand → Option Ex) : Ex → List Operand → Option Ex
  | b, [] => some b
  | b, x :: r => match look x with
    | some e => foldEx f look (f b e) r
    | none => none

def buildEx (place : Nat → Option (Nat × Nat)) (look : Operand → Option Ex) : Ex → List (Nat × Operand) → Option Ex
  | b, [] => some b
  | b, (i, x) :: r => match place i, look x with
    | some (off, sz), some e => buildEx place look (.upd off sz b e) r
    | _, _ => none

def zeroOf (P : Program) (t : TypeId) : Option (Array Value) :=
  match (P.info? t).bind (·.zero) with
  | some (.agg z) => some z
  | _ => none

def places (P : Program) (fs : List Field) : Option (List (Nat × Nat)) := fs.mapM fun f => (szOf P f.type).map fun n => (f.offset, n)

def optEx (look : Operand → Option Ex) (d : Ex) : Option Operand → Option Ex
  | none => some d
  | some x => look x

def sliceEx (P : Program) (look : Operand → Option Ex) (t : TypeId) (x : Operand) (lo hi : Option Operand) : Option Ex :=
  match look x, optEx look (.const (.int .i64 0)) lo, P.underlying t with
  | some x, some lo, some (.array n e) => match szOf P e, optEx look (.const (.int .i64 n)) hi with
    | some sz, some hi => some (.slArr n sz x lo hi)
    | _, _ => none
  | some x, some lo, some (.slice e) => match szOf P e, optEx look (.len false x) hi with
    | some sz, some hi => some (.slSl sz x lo hi)
    | _, _ => none
  | some x, some lo, some .string => match optEx look (.len true x) hi with
    | some hi => some (.slStr x lo hi)
    | _ => none
  | _, _, _ => none

def opEx (P : Program) (look : Operand → Option Ex) : Op → Option Ex
  | .move x | .assign x => look x
  | .nilCheck x => (look x).map .nn
  | .sliceToArrayPointer arr x => match P.underlying arr with
    | some (.array n _) => (look x).map (.s2a n)
    | _ => none
  | .binOp op t x y _ => binEx P look op t x y
  | .unOp op _ x => (look x).map (.un op)
  | .convert s d x =>
    match P.underlying s, P.underlying d with
    | some (.int _), some (.int k) => (look x).map (.conv k)
    | some .string, some .string => (look x).map .cstr
    | some (.slice e), some .string => match P.underlying e with
      | some (.int .u8) => (look x).map .bstr
      | _ => none
    | _, _ => none
  | .makeInterface t x =>
    match P.underlying t with
    | some (.interface _) => none
    | some _ => (look x).map (.mkif t)
    | none => none
  | .makeFunc fn first captured => (foldEx .fst1 look (.const (.func fn #[] #[])) first.toList).bind fun b => foldEx .cap1 look b captured.toList
  | .slice t x lo hi none => sliceEx P look t x lo hi
  | .fieldAddr s x f =>
    match P.underlying s with
    | some (.struct fs) => match fs[f]? with
      | some g => match szOf P g.type with
        | some (_ + 1) => (look x).map (.offp g.offset)
        | _ => none
      | none => none
    | _ => none
  | .field t x f =>
    match P.underlying t with
    | some (.struct fs) => match fs[f]? with
      | some g => match aggOf P g.type with
        | some sz => (look x).map (.part sz g.offset)
        | none => none
      | none => none
    | _ => none
  | .indexAddr t x i =>
    match look x, look i with
    | some x, some i =>
      match P.underlying t with
      | some (.array n e) => (szOf P e).map fun sz => .ixArr n sz x i
      | some (.slice e) => (szOf P e).map fun sz => .ixSl sz x i
      | _ => none
    | _, _ => none
  | .index t x i =>
    match look x, look i with
    | some x, some i =>
      match P.underlying t with
      | some (.array n e) => match szOf P e, aggOf P e with
        | some m, some sz => some (.idxAgg sz m n x i)
        | _, _ => none
      | some .string => some (.idxStr x i)
      | _ => none
    | _, _ => none
  | .extract x i => (look x).map (.proj i)
  | .load t a => match aggOf P t with
    | some sz => (look a).map (.ld sz)
    | none => none
  | .build t parts =>
    match zeroOf P t with
    | some z =>
      match P.underlying t with
      | some (.struct fs) => (places P fs.toList).bind fun ps => buildEx (ps[·]?) look (.const (.agg z)) parts.toList
      | some (.array _ e) => (szOf P e).bind fun m => buildEx (fun i => some (i * m, m)) look (.const (.agg z)) parts.toList
      | _ => none
    | none => none
  | .call { callee := .builtin .len, args, argTypes } =>
    match args.toList, argTypes.toList with
    | [x], [t] => match P.underlying t with
      | some (.slice _) => (look x).map (.len false)
      | some .string => (look x).map (.len true)
      | _ => none
    | _, _ => none
  | .call { callee := .builtin .min, args, .. } =>
    match args.toList with
    | [x, y] => match look x, look y with
      | some x, some y => some (.mn x y)
      | _, _ => none
    | _ => none
  | .call { callee := .builtin .max, args, .. } =>
    match args.toList with
    | [x, y] => match look x, look y with
      | some x, some y => some (.mx x y)
      | _, _ => none
    | _ => none
  | _ => none

/-- The frame's operands have the values of what is looked up. -/
def Rel (look : Operand → Option Ex) (ρ : Operand → Value) (env : Env) (w : World) : Prop :=
  ∀ x e v, look x = some e → e.ev env w = some v → ρ x = v

section
variable {P : Program} {look : Operand → Option Ex} {ρ : Operand → Value} {env : Env} {w : World}

theorem run_intBin {op : BinOp} {k k' : IntKind} {a b : Int} {v : Value} (t : TypeId) (h : intBin op k a k' b = some v) :
    (binOp op t (.int k a) (.int k' b)).run P w = .ok v w := by
  cases op <;> simp only [intBin] at h <;> (try split at h) <;> simp only [Option.some.injEq, reduceCtorEq] at h <;> (try subst h) <;>
    simp_all [binOp, Op.intArith, Op.intDiv, Op.intBits, Op.intCmp, Op.shift] <;> (try omega)

theorem run_strBin {op : BinOp} {a b : ByteArray} {v : Value} (t : TypeId) (h : strBin op a b = some v) :
    (binOp op t (.string a) (.string b)).run P w = .ok v w := by
  cases op <;> simp only [strBin] at h <;> (try split at h) <;> simp only [Option.some.injEq, reduceCtorEq] at h <;> (try subst h) <;>
    simp_all [binOp, Op.stringOp, ByteArray.toList_eq] <;> (try omega)

theorem run_binV {op : BinOp} {x y v : Value} (t : TypeId) (h : binV op x y = some v) : (binOp op t x y).run P w = .ok v w := by
  unfold binV at h
  split at h
  · exact run_intBin t h
  · exact run_strBin t h
  · cases h

theorem eqGuard_binV {op : BinOp} {x y v : Value} (t : TypeId) (a b : Operand) (h : binV op x y = some v) : (eqGuard op t a b x y).run P w = .ok () w := by
  unfold binV at h
  split at h
  · cases op <;> simp [eqGuard]
  · cases op <;> simp [eqGuard]
  · cases h

theorem map_inv {α β : Type} {f : α → β} {o : Option α} {b : β} (h : o.map f = some b) : ∃ a, o = some a ∧ f a = b := by
  cases o <;> simp_all
theorem bind_inv {α β : Type} {f : α → Option β} {o : Option α} {b : β} (h : o.bind f = some b) : ∃ a, o = some a ∧ f a = some b := by
  cases o <;> simp_all

theorem szOf_info {t : TypeId} {n : Nat} (h : szOf P t = some n) : ∃ i, P.info? t = some i ∧ i.size = n := by
  unfold szOf at h; exact map_inv h

theorem add_none (b off k : Nat) : Addr.add ⟨b, off, none⟩ k = ⟨b, off + k, none⟩ := by
  unfold Addr.add; split <;> simp_all

theorem run_offp {s : TypeId} {fs : Array Field} {f n : Nat} {g : Field} (hs : P.underlying s = some (.struct fs)) (hf : fs[f]? = some g) (hz : szOf P g.type = some (n + 1))
    {x v : Value} (h : offpV g.offset x = some v) : (Instr.fieldAt s x f).run P w = .ok v w := by
  unfold offpV at h
  split at h <;> simp at h
  subst h
  simp [Instr.fieldAt, run_underlying hs, hf, Instr.sureAddr, fieldPlace, run_size hz, add_none]

theorem run_ixArr {t e : TypeId} {n sz : Nat} (ht : P.underlying t = some (.array n e)) (hz : szOf P e = some sz) {x i v : Value} (h : ixArrV n sz x i = some v) :
    (Instr.indexAt t x i).run P w = .ok v w := by
  unfold ixArrV at h
  split at h <;> simp at h
  obtain ⟨⟨h0, h1⟩, rfl⟩ := h
  simp [Instr.indexAt, asIntOf, run_underlying ht, Instr.sureAddr, h0, h1, run_size hz, add_none]

theorem run_ixSl {t e : TypeId} {sz : Nat} (ht : P.underlying t = some (.slice e)) (hz : szOf P e = some sz) {x i v : Value} (h : ixSlV sz x i = some v) :
    (Instr.indexAt t x i).run P w = .ok v w := by
  unfold ixSlV at h
  split at h <;> simp at h
  obtain ⟨⟨h0, h1⟩, rfl⟩ := h
  simp [Instr.indexAt, asIntOf, run_underlying ht, h0, h1, run_size hz, add_none]

theorem run_idxAgg {t e : TypeId} {n m : Nat} {sz : Option Nat} (ht : P.underlying t = some (.array n e)) (hz : szOf P e = some m) (ha : aggOf P e = some sz) {x i v : Value}
    (h : idxAggV sz m n x i = some v) : (Instr.index t x i).run P w = .ok v w := by
  unfold idxAggV at h
  split at h <;> simp at h
  obtain ⟨⟨h0, h1⟩, h2⟩ := h
  simp [Instr.index, asIntOf, run_underlying ht, h0, h1, run_size hz, run_part ha h2]

theorem run_idxStr {t : TypeId} (ht : P.underlying t = some .string) {x i v : Value} (h : idxStrV x i = some v) : (Instr.index t x i).run P w = .ok v w := by
  unfold idxStrV at h
  split at h <;> simp at h
  obtain ⟨h0, b, hb, rfl⟩ := h
  rename_i s k i
  have : s[i.toNat]? = some b := by
    rw [← hb]; rfl
  simp [Instr.index, asIntOf, run_underlying ht, h0, this]

theorem run_bounds {b : Bool} {n cap : Nat} {kl kh : IntKind} {l h : Int} (h0 : 0 ≤ l) (h1 : l ≤ h) (h2 : h ≤ cap) (lo hi : Option Value)
    (hlo : lo = some (.int kl l) ∨ (lo = none ∧ l = 0)) (hhi : hi = some (.int kh h) ∨ (hi = none ∧ h = n)) :
    (Instr.sliceBounds b n cap lo hi none).run P w = .ok (l.toNat, h.toNat, cap) w := by
  have e1 : h.toNat ≤ cap := by omega
  have e2 : 0 ≤ h := by omega
  have e3 : l ≤ (h.toNat : Int) := by omega
  rcases hlo with rfl | ⟨rfl, rfl⟩ <;> rcases hhi with rfl | ⟨rfl, rfl⟩ <;>
    simp [Instr.sliceBounds, Instr.sliceBound, asIntOf, h0, h1, h2, e1, e2, e3]
  all_goals (try omega)

/-- Operands of a slice expression: the expression's value is the operand's, or there is no operand and the expression is the default. -/
def OptRel (lo : Option Value) (d v : Value) : Prop := lo = some v ∨ (lo = none ∧ v = d)

theorem optRel_lo {lo : Option Value} {kl : IntKind} {l : Int} (h : OptRel lo (.int .i64 0) (.int kl l)) : lo = some (.int kl l) ∨ (lo = none ∧ l = 0) := by
  rcases h with h | ⟨h1, h2⟩
  · exact .inl h
  · simp at h2; exact .inr ⟨h1, h2.2⟩
theorem optRel_hi {hi : Option Value} {kh : IntKind} {h : Int} {n : Nat} (hh : OptRel hi (.int .i64 n) (.int kh h)) : hi = some (.int kh h) ∨ (hi = none ∧ h = n) := by
  rcases hh with h | ⟨h1, h2⟩
  · exact .inl h
  · simp at h2; exact .inr ⟨h1, h2.2⟩

theorem run_slArr {t e : TypeId} {n sz : Nat} (ht : P.underlying t = some (.array n e)) (hz : szOf P e = some sz) {x l h v : Value} {lo hi : Option Value}
    (hv : slArrV n sz x l h = some v) (hl : OptRel lo (.int .i64 0) l) (hh : OptRel hi (.int .i64 n) h) : (Instr.sliceAt t x lo hi none).run P w = .ok v w := by
  unfold slArrV at hv
  split at hv <;> simp at hv
  obtain ⟨⟨h0, h1, h2⟩, rfl⟩ := hv
  simp only [Instr.sliceAt, Sem.run_bind, run_underlying ht, Result.andThen_ok, Instr.sureAddr, Sem.run_pure,
    run_bounds (b := false) (n := n) (cap := n) h0 h1 h2 lo hi (optRel_lo hl) (optRel_hi hh), run_size hz, add_none]

theorem run_slSl {t e : TypeId} {sz : Nat} (ht : P.underlying t = some (.slice e)) (hz : szOf P e = some sz) {x l h v d : Value} {lo hi : Option Value}
    (hv : slSlV sz x l h = some v) (hl : OptRel lo (.int .i64 0) l) (hd : lenV false x = some d) (hh : OptRel hi d h) : (Instr.sliceAt t x lo hi none).run P w = .ok v w := by
  unfold slSlV at hv
  split at hv <;> simp at hv
  · obtain ⟨⟨h0, h1, h2⟩, rfl⟩ := hv
    simp [lenV] at hd; subst hd
    simp [Instr.sliceAt, Instr.slice, run_underlying ht,
      run_bounds (b := true) h0 h1 h2 lo hi (optRel_lo hl) (optRel_hi hh), run_size hz, add_none]
    split <;> rfl
  · obtain ⟨⟨h0, h1, h2⟩, rfl⟩ := hv
    simp [lenV] at hd; subst hd
    simp [Instr.sliceAt, Instr.slice, run_underlying ht,
      run_bounds (b := true) h0 h1 h2 lo hi (optRel_lo hl) (optRel_hi hh), run_size hz, add_none]

theorem run_slStr {t : TypeId} (ht : P.underlying t = some .string) {x l h v d : Value} {lo hi : Option Value}
    (hv : slStrV x l h = some v) (hl : OptRel lo (.int .i64 0) l) (hd : lenV true x = some d) (hh : OptRel hi d h) : (Instr.sliceAt t x lo hi none).run P w = .ok v w := by
  unfold slStrV at hv
  split at hv <;> simp at hv
  obtain ⟨⟨h0, h1, h2⟩, rfl⟩ := hv
  simp [lenV] at hd; subst hd
  simp [Instr.sliceAt, Instr.slice, run_underlying ht,
    run_bounds (b := false) h0 h1 h2 lo hi (optRel_lo hl) (optRel_hi hh)]

theorem isNilC_spec {y : Operand} {k : Nat} (hy : isNilC y = some k) :
    ∃ c, y = .const c ∧ ((k = 0 ∧ c = .pointer none) ∨ (k = 1 ∧ ∃ l m, c = .slice none l m) ∨ (k = 2 ∧ c = .nilFunc) ∨ (k = 3 ∧ c = .nilIface) ∨ (k = 4 ∧ c = .map none)) := by
  unfold isNilC at hy
  split at hy <;> simp at hy <;> subst hy
  · exact ⟨_, rfl, .inl ⟨rfl, rfl⟩⟩
  · exact ⟨_, rfl, .inr (.inl ⟨rfl, _, _, rfl⟩)⟩
  · exact ⟨_, rfl, .inr (.inr (.inl ⟨rfl, rfl⟩))⟩
  · exact ⟨_, rfl, .inr (.inr (.inr (.inl ⟨rfl, rfl⟩)))⟩
  · exact ⟨_, rfl, .inr (.inr (.inr (.inr ⟨rfl, rfl⟩)))⟩

theorem nilTy_spec {t : TypeId} {k : Nat} (h : nilTy P t = some k) :
    (k = 0 ∧ ∃ e, P.underlying t = some (.pointer e)) ∨ (k = 1 ∧ ∃ e, P.underlying t = some (.slice e)) ∨
    (k = 2 ∧ ∃ a b c, P.underlying t = some (.func a b c)) ∨ (k = 3 ∧ ∃ m, P.underlying t = some (.interface m)) ∨ (k = 4 ∧ ∃ a b, P.underlying t = some (.map a b)) := by
  unfold nilTy at h
  split at h <;> simp at h <;> subst h
  · exact .inl ⟨rfl, _, ‹_›⟩
  · exact .inr (.inl ⟨rfl, _, ‹_›⟩)
  · exact .inr (.inr (.inl ⟨rfl, _, _, _, ‹_›⟩))
  · exact .inr (.inr (.inr (.inl ⟨rfl, _, ‹_›⟩)))
  · exact .inr (.inr (.inr (.inr ⟨rfl, _, _, ‹_›⟩)))

/-- Equality with nil, on either side. -/
theorem equalIn_nil (d : Nat) {t : TypeId} {y : Operand} {k : Nat} (hy : isNilC y = some k) (ht : nilTy P t = some k) {ne : Bool} {u v : Value} (hv : nilV k ne u = some v) :
    ∃ c r, y = .const c ∧ v = .bool (ne != r) ∧ (Op.equalIn (d + 1) t u c).run P w = .ok r w ∧ (Op.equalIn (d + 1) t c u).run P w = .ok r w := by
  obtain ⟨c, rfl, hc⟩ := isNilC_spec hy
  have ht' := nilTy_spec ht
  rcases ht' with ⟨h, e, he⟩ | ⟨h, e, he⟩ | ⟨h, e, e1, e2, he⟩ | ⟨h, e, he⟩ | ⟨h, e, e1, he⟩ <;> subst h <;> simp at hc <;> (first | subst hc | (obtain ⟨l, m, hc⟩ := hc; subst hc))
  · cases u <;> simp [nilV] at hv
    rename_i p
    subst hv
    refine ⟨_, p.isNone, rfl, rfl, ?_, ?_⟩ <;> cases p <;> simp only [Op.equalIn, Sem.run_bind, run_underlying he, Result.andThen_ok, Sem.run_pure, Option.isNone]
  · cases u <;> simp [nilV] at hv
    rename_i p _ _
    subst hv
    refine ⟨_, p.isNone, rfl, rfl, ?_, ?_⟩ <;> cases p <;> simp only [Op.equalIn, Sem.run_bind, run_underlying he, Result.andThen_ok, Sem.run_pure, Option.isNone]
  · cases u <;> simp [nilV] at hv <;> subst hv
    · refine ⟨_, false, rfl, by simp, ?_, ?_⟩ <;> simp only [Op.equalIn, Sem.run_bind, run_underlying he, Result.andThen_ok, Sem.run_pure]
    · refine ⟨_, true, rfl, by simp, ?_, ?_⟩ <;> simp only [Op.equalIn, Sem.run_bind, run_underlying he, Result.andThen_ok, Sem.run_pure]
  · cases u <;> simp [nilV] at hv <;> subst hv
    · refine ⟨_, false, rfl, by simp, ?_, ?_⟩ <;> simp only [Op.equalIn, Sem.run_bind, run_underlying he, Result.andThen_ok, Sem.run_pure]
    · refine ⟨_, true, rfl, by simp, ?_, ?_⟩ <;> simp only [Op.equalIn, Sem.run_bind, run_underlying he, Result.andThen_ok, Sem.run_pure]
  · cases u <;> simp [nilV] at hv
    rename_i p
    subst hv
    refine ⟨_, p.isNone, rfl, rfl, ?_, ?_⟩ <;> cases p <;> simp only [Op.equalIn, Sem.run_bind, run_underlying he, Result.andThen_ok, Sem.run_pure, Option.isNone]

/-- Neither value is a number or a text: then '==' is Op.equal. -/
def odd : Value → Bool
  | .int _ _ | .float _ _ | .complex _ _ _ | .string _ => false
  | _ => true

theorem run_eq_odd {op : BinOp} {t : TypeId} {u c : Value} {r : Bool} (he : isEq op = true) (hu : odd u = true) (h : (Op.equal t u c).run P w = .ok r w) :
    (binOp op t u c).run P w = .ok (.bool (isNe op != r)) w := by
  cases op <;> simp [isEq] at he <;> cases u <;> simp [odd] at hu <;>
    simp only [binOp, Sem.run_bind, h, Result.andThen_ok, Sem.run_pure, isNe, Bool.false_bne, Bool.true_bne]

end
end Go.Eng
