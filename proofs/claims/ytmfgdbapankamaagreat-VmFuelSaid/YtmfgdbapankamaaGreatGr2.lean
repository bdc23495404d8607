/- Engine, part D: commands over slots, their weakest preconditions, the effects of operations. -/
import Derived.Test.YtmfgdbapankamaaGreatGr1
set_option linter.unusedSimpArgs false
set_option linter.unusedVariables false
namespace Go.Eng
inductive Tag where
  | mk (t : TypeId)
  | cv (s d : TypeId)
  | sl3 (t : TypeId)
  | mkm (t : TypeId)
  | look (t : TypeId) (ok : Bool)
  | upd (t : TypeId)
  | ext (f : FuncId)
inductive Cmd where
  | skip
  | chk (es : List Ex)
  | set (i : Nat) (e : Ex)
  | clr (l : List Nat)
  | draw
  | call (dst : Option Nat) (f : FuncId) (args : List Ex) (stab : List Ex)
  | dyn (dst : Option Nat) (f : Ex) (args : List Ex) (stab : List Ex)
  | bi (dst : Option Nat) (b : Builtin) (ats : List TypeId) (ty : TypeId) (args : List Ex) (stab : List Ex)
  | sem (dst : Option Nat) (g : Tag) (args : List Ex) (stab : List Ex)
  | die
  | store (n : Nat) (x v : Ex) (stab : List Ex)
  | new (dst : Option Nat) (T : TypeId) (e : Ex) (stab : List Ex)
  | row (dst : Option Nat) (T : TypeId) (n : Nat) (e : Ex) (stab : List Ex)
  | seq (a b : Cmd)
  | alt (a b : Cmd)
  | cond (e : Ex) (a b : Cmd)
  | block (id : Nat) (a : Cmd)
  | loop (ks : List Nat) (a : Cmd)
  | exit (id : Nat)
  | ret
def evs (env : Env) (w : World) : List Ex → Option (List Value)
  | [] => some []
  | e :: r => (e.ev env w).bind fun v => (evs env w r).bind fun vs => some (v :: vs)
def Ok {α : Type} (o : Option α) (K : α → Prop) : Prop :=
  match o with
  | some a => K a
  | none => False
theorem hide {α : Sort _} {a b : α} (h : a = b) : a = b := h
@[simp] theorem Ok_some {α : Type} (a : α) (K : α → Prop) : Ok (some a) K = K a := hide rfl
@[simp] theorem Ok_none {α : Type} (K : α → Prop) : Ok none K = False := hide rfl
theorem Ok_inv {α : Type} {o : Option α} {K : α → Prop} (h : Ok o K) : ∃ a, o = some a ∧ K a := by
  cases o with
  | none => exact h.elim
  | some a => exact ⟨a, rfl, h⟩
def setO (dst : Option Nat) (env : Env) (v : Value) : Env :=
  match dst with
  | some i => env.set i v
  | none => env
def mask (ks : List Nat) (env : Env) : Env := env.mapIdx fun i v => if ks.contains i then v else undef
def Stab (es : List Ex) (env : Env) (w w' : World) : Prop := ∀ e ∈ es, ∀ v, e.ev env w = some v → e.ev env w' = some v
def stv (w : World) (n : Nat) (x v : Value) : Option World :=
  match x with
  | .pointer (some ⟨b, off, none⟩) =>
    match w.heap[b]? with
    | some (.cells c T fz) =>
      if v.cells.size = n ∧ off + v.cells.size ≤ c.size ∧ (fz.2 ≤ fz.1 ∨ off + v.cells.size ≤ fz.1) ∧ v.cells.all (·.oneCell') = true then
        some { w with heap := w.heap.setIfInBounds b (.cells (setRow c off v.cells.toList) T fz) }
      else none
    | _ => none
  | _ => none
def RunTo (P : Program) (s : Sem Value) (w : World) (K : Value → World → Prop) : Prop :=
  match s.run P w with
  | .ok v w' => K v w'
  | .halt _ _ => False
def Tag.sem : Tag → List Value → Sem Value
  | .mk t, [l, c] => Instr.makeSlice t l c
  | .cv s d, [x] => convert s d x
  | .sl3 t, [x, l, h, m] => Instr.sliceAt t x (some l) (some h) (some m)
  | .mkm t, [] => Instr.makeMap t none
  | .look t ok, [x, i] => Instr.lookup t x i ok
  | .upd t, [m, k, x] => do
    Instr.mapUpdate t m k x
    pure undef
  | .ext f, vs => do
    match ← callFunc f vs.toArray with
    | .value v => pure v
    | _ => stuck "no value"
  | _, _ => stuck "no such operation"
def Result.to (r : Result Next) (K : Value → World → Prop) : Prop :=
  match r with
  | .ok (.value v) w' => K v w'
  | _ => False
def funOk (P : Program) (f : FuncId) : Bool :=
  match P.funcs[f]? with
  | some fn => fn.body.isSome && !(fn.name == "runtime.NumGoroutine")
  | none => false
def CallTo (P : Program) (f : FuncId) (vs : Array Value) (w : World) (K : Value → World → Prop) : Prop :=
  Calls P f vs w fun e w' => ∃ v, e = .returned v ∧ K v w'
def DynTo (P : Program) (fv : Value) (vs : List Value) (w : World) (K : Value → World → Prop) : Prop :=
  match fv with
  | .func (.func g) first cap => funOk P g = true ∧ CallTo P g (first ++ vs.toArray ++ cap) w K
  | _ => False
def condTo (v : Value) (A B : Prop) : Prop :=
  match v with
  | .bool b => if b = true then A else B
  | _ => False
def thenTo (N : Env → World → Prop) (Q : Exit → Env → World → Prop) : Exit → Env → World → Prop
  | .normal => N
  | x => Q x
def blockTo (id : Nat) (Q : Exit → Env → World → Prop) : Exit → Env → World → Prop
  | .exit id' => if id' = id then Q .normal else Q (.exit id')
  | x => Q x
def Cmd.wp (P : Program) : Cmd → (Exit → Env → World → Prop) → Env → World → Prop
  | .skip, Q, env, w => Q .normal env w
  | .chk es, Q, env, w => Ok (evs env w es) fun _ => Q .normal env w
  | .set i e, Q, env, w => Ok (e.ev env w) fun v => Q .normal (env.set i v) w
  | .clr l, Q, env, w => Q .normal (l.foldl (fun env i => env.set i undef) env) w
  | .draw, Q, env, w => Q .normal env w.drew
  | .call dst f args st, Q, env, w => Ok (evs env w args) fun vs => CallTo P f vs.toArray w fun v w' => Stab st env w w' ∧ Q .normal (setO dst env v) w'
  | .dyn dst f args st, Q, env, w => Ok (f.ev env w) fun fv => Ok (evs env w args) fun vs => DynTo P fv vs w fun v w' => Stab st env w w' ∧ Q .normal (setO dst env v) w'
  | .bi dst b ats ty args st, Q, env, w => Ok (evs env w args) fun vs => Result.to ((builtin b ats.toArray ty #[] vs.toArray).run P w) fun v w' => Stab st env w w' ∧ Q .normal (setO dst env v) w'
  | .sem dst g args st, Q, env, w => Ok (evs env w args) fun vs => RunTo P (g.sem vs) w fun v w' => Stab st env w w' ∧ Q .normal (setO dst env v) w'
  | .die, _, _, _ => False
  | .store n x v st, Q, env, w => Ok (x.ev env w) fun x => Ok (v.ev env w) fun v => Ok (stv w n x v) fun w' => Stab st env w w' ∧ Q .normal env w'
  | .new dst T e st, Q, env, w => Ok (e.ev env w) fun v => Q .normal (setO dst env (.pointer (some ⟨w.heap.size, 0, none⟩))) (w.alloc (.cells v.cells T))
  | .row dst T n e st, Q, env, w => Ok (e.ev env w) fun v => Q .normal (setO dst env (.slice (some ⟨w.heap.size, 0, none⟩) n n)) (w.alloc (.cells v.cells T))
  | .seq a b, Q, env, w => a.wp P (thenTo (b.wp P Q) Q) env w
  | .alt a b, Q, env, w => a.wp P Q env w ∧ b.wp P Q env w
  | .cond e a b, Q, env, w => Ok (e.ev env w) fun v => condTo v (a.wp P Q env w) (b.wp P Q env w)
  | .block id a, Q, env, w => a.wp P (blockTo id Q) env w
  | .loop ks a, Q, env, w => ∃ (I : Env → World → Prop) (m : Env → World → Nat), I (mask ks env) w ∧
      ∀ env w, I env w → a.wp P (thenTo (fun env' w' => I (mask ks env') w' ∧ m (mask ks env') w' < m env w) Q) env w
  | .exit id, Q, env, w => Q (.exit id) env w
  | .ret, Q, env, w => Q .ret env w
section
variable {P : Program}
theorem CallTo.mono {f : FuncId} {vs : Array Value} {w : World} {K K' : Value → World → Prop} (h : CallTo P f vs w K) (hk : ∀ v w', K v w' → K' v w') : CallTo P f vs w K' :=
  Calls.mono h fun _ _ ⟨v, he, hv⟩ => ⟨v, he, hk _ _ hv⟩
theorem DynTo.mono {fv : Value} {vs : List Value} {w : World} {K K' : Value → World → Prop} (h : DynTo P fv vs w K) (hk : ∀ v w', K v w' → K' v w') : DynTo P fv vs w K' := by
  unfold DynTo at *
  split at h
  · exact ⟨h.1, h.2.mono hk⟩
  · exact h.elim
theorem RunTo.mono {s : Sem Value} {w : World} {K K' : Value → World → Prop} (h : RunTo P s w K) (hk : ∀ v w', K v w' → K' v w') : RunTo P s w K' := by
  unfold RunTo at *
  split at h
  · exact hk _ _ h
  · exact h.elim
theorem Result.to_mono {r : Result Next} {K K' : Value → World → Prop} (h : Result.to r K) (hk : ∀ v w', K v w' → K' v w') : Result.to r K' := by
  unfold Result.to at *
  split at h
  · exact hk _ _ h
  · exact h.elim
theorem condTo_mono {v : Value} {A B A' B' : Prop} (h : condTo v A B) (ha : A → A') (hb : B → B') : condTo v A' B' := by
  unfold condTo at *
  split at h
  · split at h
    · rename_i hc; simp [hc, ha h]
    · rename_i hc; simp [hc, hb h]
  · exact h.elim
theorem Cmd.wp_mono (c : Cmd) : ∀ {Q Q' : Exit → Env → World → Prop} {env : Env} {w : World}, (∀ x env w, Q x env w → Q' x env w) → c.wp P Q env w → c.wp P Q' env w := by
  induction c with
  | skip => intro Q Q' env w hq h; exact hq _ _ _ h
  | chk es => intro Q Q' env w hq h; obtain ⟨a, ha, h⟩ := Ok_inv h; simp only [Cmd.wp, ha, Ok_some]; exact hq _ _ _ h
  | set i e => intro Q Q' env w hq h; obtain ⟨a, ha, h⟩ := Ok_inv h; simp only [Cmd.wp, ha, Ok_some]; exact hq _ _ _ h
  | clr l => intro Q Q' env w hq h; exact hq _ _ _ h
  | draw => intro Q Q' env w hq h; exact hq _ _ _ h
  | call dst f args st =>
    intro Q Q' env w hq h; obtain ⟨a, ha, h⟩ := Ok_inv h; simp only [Cmd.wp, ha, Ok_some]
    exact h.mono fun v w' h => ⟨h.1, hq _ _ _ h.2⟩
  | dyn dst f args st =>
    intro Q Q' env w hq h; obtain ⟨a, ha, h⟩ := Ok_inv h; obtain ⟨b, hb, h⟩ := Ok_inv h; simp only [Cmd.wp, ha, hb, Ok_some]
    exact h.mono fun v w' h => ⟨h.1, hq _ _ _ h.2⟩
  | bi dst b ats ty args st =>
    intro Q Q' env w hq h; obtain ⟨a, ha, h⟩ := Ok_inv h; simp only [Cmd.wp, ha, Ok_some]
    exact Result.to_mono h fun v w' h => ⟨h.1, hq _ _ _ h.2⟩
  | sem dst g args st =>
    intro Q Q' env w hq h; obtain ⟨a, ha, h⟩ := Ok_inv h; simp only [Cmd.wp, ha, Ok_some]
    exact h.mono fun v w' h => ⟨h.1, hq _ _ _ h.2⟩
  | die => intro Q Q' env w hq h; exact h.elim
  | alt a b iha ihb => intro Q Q' env w hq h; exact ⟨iha hq h.1, ihb hq h.2⟩
  | store n x v st =>
    intro Q Q' env w hq h; obtain ⟨a, ha, h⟩ := Ok_inv h; obtain ⟨b, hb, h⟩ := Ok_inv h; obtain ⟨c, hc, h⟩ := Ok_inv h; simp only [Cmd.wp, ha, hb, hc, Ok_some]
    exact ⟨h.1, hq _ _ _ h.2⟩
  | new dst T e => intro Q Q' env w hq h; obtain ⟨a, ha, h⟩ := Ok_inv h; simp only [Cmd.wp, ha, Ok_some]; exact hq _ _ _ h
  | row dst T n e => intro Q Q' env w hq h; obtain ⟨a, ha, h⟩ := Ok_inv h; simp only [Cmd.wp, ha, Ok_some]; exact hq _ _ _ h
  | seq a b iha ihb =>
    intro Q Q' env w hq h
    exact iha (fun x env w h => by cases x <;> simp only [thenTo] at * <;> first | exact hq _ _ _ h | exact ihb hq h) h
  | cond e a b iha ihb =>
    intro Q Q' env w hq h; obtain ⟨v, hv, h⟩ := Ok_inv h; simp only [Cmd.wp, hv, Ok_some]
    exact condTo_mono h (iha hq) (ihb hq)
  | block id a iha =>
    intro Q Q' env w hq h
    refine iha (fun x env w h => ?_) h
    cases x <;> simp only [blockTo] at * <;> first | exact hq _ _ _ h | (split at h <;> rename_i hc <;> simp [hc] <;> exact hq _ _ _ h)
  | loop ks a iha =>
    intro Q Q' env w hq h
    obtain ⟨I, m, h0, h1⟩ := h
    refine ⟨I, m, h0, fun env w hI => iha (fun x env' w' h => ?_) (h1 env w hI)⟩
    cases x <;> simp only [thenTo] at * <;> first | exact hq _ _ _ h | exact h
  | exit id => intro Q Q' env w hq h; exact hq _ _ _ h
  | ret => intro Q Q' env w hq h; exact hq _ _ _ h
theorem run_storeCells {b : Nat} {T : TypeId} {fz : Nat × Nat} (off : Nat) : ∀ (vs : List Value) (i : Nat) (c : Array Value) (w : World), w.heap[b]? = some (.cells c T fz) →
    off + i + vs.length ≤ c.size → (fz.2 ≤ fz.1 ∨ off + i + vs.length ≤ fz.1) → (∀ v ∈ vs, v.oneCell' = true) →
    (storeCells ⟨b, off, none⟩ vs i).run P w = .ok () { w with heap := w.heap.setIfInBounds b (.cells (setRow c (off + i) vs) T fz) }
  | [], i, c, w, hb, _, _, _ => by
    simp only [storeCells, Sem.run_pure, setRow]
    congr 1
    have : w.heap.setIfInBounds b (.cells c T fz) = w.heap := by
      apply Array.ext_getElem?
      intro j
      rw [Array.getElem?_setIfInBounds]
      split
      · rename_i h; subst h; rw [hb]; split <;> simp_all
      · rfl
    rw [this]
  | v :: vs, i, c, w, hb, hs, hf, ho => by
    simp only [List.length_cons] at hs hf
    have hv : v.oneCell' = true := ho v (by simp)
    have hc : w.cell? ⟨b, off + i, none⟩ = some (c[off + i]'(by omega)) := by
      simp only [World.cell?, hb]; simp
    have hfr : w.frozen? ⟨b, off + i, none⟩ = false := by
      simp only [World.frozen?, hb]
      obtain ⟨lo, hi⟩ := fz
      simp at hf ⊢
      omega
    have hw : w.setCell ⟨b, off + i, none⟩ v = { w with heap := w.heap.setIfInBounds b (.cells (c.setIfInBounds (off + i) v) T fz) } := by
      unfold World.setCell
      congr 1
      apply Array.ext_getElem?
      intro j
      rw [Array.getElem?_modify, Array.getElem?_setIfInBounds]
      have hlt : b < w.heap.size := (Array.getElem?_eq_some_iff.1 hb).1
      split
      · rename_i h; subst h; simp only [hb, Option.map_some, hlt, if_true]; rfl
      · rfl
    simp only [storeCells, Sem.run_bind, add_none, run_store P w _ v _ hv, hc, hfr, Bool.false_eq_true, if_false, Result.andThen_ok, setRow]
    rw [hw]
    have hlt : b < w.heap.size := (Array.getElem?_eq_some_iff.1 hb).1
    rw [run_storeCells (T := T) (fz := fz) off vs (i + 1) (c.setIfInBounds (off + i) v) _ (by simp [hlt]) (by simp; omega) (by rcases hf with h | h; exact .inl h; exact .inr (by omega)) (fun v hv => ho v (by simp [hv]))]
    congr 2
    simp [Nat.add_assoc]
theorem run_storeAt {t : TypeId} {n : Nat} (ht : szOf P t = some n) {w w' : World} {x v : Value} (h : stv w n x v = some w') : (Instr.storeAt t x v).run P w = .ok () w' := by
  unfold stv at h
  split at h
  · rename_i b off
    split at h
    · rename_i c T fz hb
      split at h
      · rename_i hc
        obtain ⟨h1, h2, h3, h4⟩ := hc
        simp at h; subst h
        have := run_storeCells (P := P) (b := b) (T := T) (fz := fz) off v.cells.toList 0 c w hb (by simpa using h2) (by simpa using h3) (by
          intro x hx
          have := Array.all_eq_true_iff_forall_mem.1 h4 x (by simpa using hx)
          exact this)
        simp [Instr.storeAt, Instr.sureAddr, storeVar, run_size ht, h1, this]
      · cases h
    · cases h
  · cases h
def HeapLe (w w' : World) : Prop := ∀ (b : Nat) (o : Obj), w.heap[b]? = some o → w'.heap[b]? = some o
theorem HeapLe.alloc (w : World) (o : Obj) : HeapLe w (w.alloc o) := by
  intro b x h
  have hlt : b < w.heap.size := (Array.getElem?_eq_some_iff.1 h).1
  simp only [World.alloc, Array.getElem?_push]
  rw [if_neg (by omega)]
  exact h
theorem wrow_mono {w w' : World} (hl : HeapLe w w') {b off n : Nat} {r : Array Value} (h : wrow w b off n = some r) : wrow w' b off n = some r := by
  unfold wrow at *
  split at h
  · rename_i hb; simp only [hl _ _ hb]; exact h
  · cases h
theorem wcell_mono {w w' : World} (hl : HeapLe w w') {b off : Nat} {r : Value} (h : wcell w b off = some r) : wcell w' b off = some r := by
  unfold wcell at *
  split at h
  · rename_i hb; simp only [hl _ _ hb]; exact h
  · cases h
theorem ldv_mono {w w' : World} (hl : HeapLe w w') {sz : Option Nat} {a v : Value} (h : ldv w sz a = some v) : ldv w' sz a = some v := by
  unfold ldv at *
  split at h
  · cases sz with
    | none => exact wcell_mono hl h
    | some n =>
      obtain ⟨r, hr, rfl⟩ := map_inv h
      simp [wrow_mono hl hr]
  · cases h
theorem bstrv_mono {w w' : World} (hl : HeapLe w w') {a v : Value} (h : bstrv w a = some v) : bstrv w' a = some v := by
  unfold bstrv at *
  split at h
  · exact h
  · obtain ⟨r, hr, h⟩ := bind_inv h
    simp only [wrow_mono hl hr, Option.bind_some]; exact h
  · cases h
theorem plainB_mono {w w' : World} (hl : HeapLe w w') {b : Nat} (h : plainB w b = true) : plainB w' b = true := by
  unfold plainB at *
  split at h
  · rename_i hb; simp only [hl _ _ hb]
  · cases h
theorem peqV_mono {w w' : World} (hl : HeapLe w w') {a b : Option Addr} {r : Bool} (h : peqV w a b = some r) : peqV w' a b = some r := by
  unfold peqV at *
  split at h
  · exact h
  · exact h
  · split at h
    · rename_i hb; simp only [hb, if_true]; exact h
    · rename_i hb
      split at h
      · rename_i hp
        simp only [Bool.and_eq_true] at hp
        simp only [hb, if_false, plainB_mono hl hp.1, plainB_mono hl hp.2, Bool.and_self, if_true]; exact h
      · cases h
theorem eqv_mono {w w' : World} (hl : HeapLe w w') : ∀ (d : EqD) {x y : Value} {r : Bool}, eqv w d x y = some r → eqv w' d x y = some r := by
  intro d
  induction d with
  | ptr => intro x y r h; cases x <;> cases y <;> simp [eqv] at h ⊢; exact peqV_mono hl h
  | cons off sz d rest ih1 ih2 =>
    intro x y r h
    cases x <;> cases y <;> simp only [eqv] at h ⊢ <;> try (exact h)
    split at h
    · rename_i u v hu hv
      split at h
      · rename_i h1; simp only [ih1 h1]; exact ih2 h
      · rename_i h1; simp only [ih1 h1]; exact h
      · cases h
    · cases h
  | _ => intro x y r h; cases x <;> cases y <;> simp only [eqv] at h ⊢ <;> exact h
theorem ev_mono {w w' : World} (hl : HeapLe w w') {env : Env} : ∀ (e : Ex) {v : Value}, e.ev env w = some v → e.ev env w' = some v := by
  intro e
  induction e with
  | var i => intro v h; exact h
  | const c => intro v h; exact h
  | pick c a b ihc iha ihb =>
    intro v h
    simp only [Ex.ev] at h ⊢
    obtain ⟨u, hu, h⟩ := bind_inv h
    simp only [ihc hu, Option.bind_some]
    cases u <;> simp only [pickV] at h ⊢ <;> try (cases h)
    rename_i b'
    cases b' <;> simp at h ⊢
    · exact ihb h
    · exact iha h
  | ld sz x ih =>
    intro v h
    simp only [Ex.ev] at h ⊢
    obtain ⟨u, hu, h⟩ := bind_inv h
    simp only [ih hu, Option.bind_some]
    exact ldv_mono hl h
  | bstr x ih =>
    intro v h
    simp only [Ex.ev] at h ⊢
    obtain ⟨u, hu, h⟩ := bind_inv h
    simp only [ih hu, Option.bind_some]
    exact bstrv_mono hl h
  | eqx ne d x y ihx ihy =>
    intro v h
    simp only [Ex.ev] at h ⊢
    obtain ⟨u, hu, h⟩ := bind_inv h
    obtain ⟨u', hu', h⟩ := bind_inv h
    obtain ⟨r, hr, h⟩ := map_inv h
    simp only [ihx hu, ihy hu', Option.bind_some, eqv_mono hl d hr, Option.map_some]
    rw [h]
  | op1 o x ih =>
    intro v h
    simp only [Ex.ev] at h ⊢
    obtain ⟨u, hu, h⟩ := bind_inv h
    simp only [ih hu, Option.bind_some]; exact h
  | op2 o x y ih1 ih2 =>
    intro v h
    simp only [Ex.ev] at h ⊢
    obtain ⟨u, hu, h⟩ := bind_inv h
    obtain ⟨u2, hu2, h⟩ := bind_inv h
    simp only [ih1 hu, ih2 hu2, Option.bind_some]; exact h
  | op3 o x y z ih1 ih2 ih3 =>
    intro v h
    simp only [Ex.ev] at h ⊢
    obtain ⟨u, hu, h⟩ := bind_inv h
    obtain ⟨u2, hu2, h⟩ := bind_inv h
    obtain ⟨u3, hu3, h⟩ := bind_inv h
    simp only [ih1 hu, ih2 hu2, ih3 hu3, Option.bind_some]; exact h
def looks (look : Operand → Option Ex) : List Operand → Option (List Ex)
  | [] => some []
  | x :: r => match look x, looks look r with
    | some e, some es => some (e :: es)
    | _, _ => none
def biOk : Builtin → Bool
  | .append | .copy | .clear | .len | .delete => true
  | _ => false
def rowEx (P : Program) (look : Operand → Option Ex) (t : TypeId) (len : Nat) (parts : List (Nat × Operand)) : Option (TypeId × Ex) :=
  match P.underlying t with
  | some (.slice e) => match szOf P e, (P.info? e).bind (·.zero) with
    | some m, some z => if len * m ≤ 2 ^ 24 then
        (buildEx (fun i => some (i * m, m)) look (.const (.agg ((Array.range (len * m)).map (z.cells[· % z.cells.size]!)))) parts).map fun x => (e, x)
      else none
    | _, _ => none
  | _ => none
def opEff (P : Program) (look : Operand → Option Ex) (o : Oper) : Option (Option Nat → List Ex → Cmd) :=
  match o.op with
  | .call { callee := .value (.func f), args, .. } => if funOk P f then (looks look args.toList).map fun as dst st => .call dst f as st else (looks look args.toList).map fun as dst st => .sem dst (.ext f) as st
  | .call { callee := .value (.tmp t), args, .. } => match look (.tmp t), looks look args.toList with
    | some f, some as => some fun dst st => .dyn dst f as st
    | _, _ => none
  | .call { callee := .builtin b, args, argTypes } => if biOk b then (looks look args.toList).map fun as dst st => .bi dst b argTypes.toList o.type as st else none
  | .makeSlice t l c => (looks look [l, c]).map fun as dst st => .sem dst (.mk t) as st
  | .convert s d x => (looks look [x]).map fun as dst st => .sem dst (.cv s d) as st
  | .slice t x (some l) (some h) (some m) => (looks look [x, l, h, m]).map fun as dst st => .sem dst (.sl3 t) as st
  | .makeMap t none => some fun dst st => .sem dst (.mkm t) [] st
  | .lookup t x i ok => (looks look [x, i]).map fun as dst st => .sem dst (.look t ok) as st
  | .mapUpdate t m k x => if o.dst.isNone then (looks look [m, k, x]).map fun as dst st => .sem dst (.upd t) as st else none
  | .panic _ => some fun _ _ => .die
  | .store t a v => match szOf P t, look a, look v with
    | some n, some a, some v => some fun _ st => .store n a v st
    | _, _, _ => none
  | .box T v => (look v).map fun e dst st => .new dst T e st
  | .alloc T => ((P.info? T).bind (·.zero)).map fun z dst st => .new dst T (.const z) st
  | .buildSlice t len parts => (rowEx P look t len parts.toList).map fun x dst st => .row dst x.1 len x.2 st
  | _ => none
theorem looks_spec {look : Operand → Option Ex} {ρ : Operand → Value} {env : Env} {w : World} (hr : Rel look ρ env w) :
    ∀ (xs : List Operand) (es : List Ex) (vs : List Value), looks look xs = some es → evs env w es = some vs → xs.map ρ = vs
  | [], es, vs, h, hv => by simp [looks] at h; subst h; simp [evs] at hv; simp [hv]
  | x :: r, es, vs, h, hv => by
    simp only [looks] at h
    split at h
    · rename_i e es' he hes
      simp at h; subst h
      simp only [evs] at hv
      obtain ⟨u, hu, hv⟩ := bind_inv hv
      obtain ⟨us, hus, hv⟩ := bind_inv hv
      simp at hv; subst hv
      simp [hr x e u he hu, looks_spec hr r es' us hes hus]
    · cases h
theorem looks_arr {look : Operand → Option Ex} {ρ : Operand → Value} {env : Env} {w : World} (hr : Rel look ρ env w) {xs : Array Operand} {es : List Ex} {vs : List Value}
    (h : looks look xs.toList = some es) (hv : evs env w es = some vs) : xs.map ρ = vs.toArray := by
  have := looks_spec hr xs.toList es vs h hv
  rw [← this]; cases xs; simp
theorem run_callFunc {f : FuncId} (hf : funOk P f = true) (w : World) (vs : Array Value) : (callFunc f vs).run P w = .ok (.enter f vs) w := by
  unfold funOk at hf
  split at hf
  · rename_i fn h
    simp only [Bool.and_eq_true, Bool.not_eq_true', beq_eq_false_iff_ne] at hf
    obtain ⟨h1, h2⟩ := hf
    have h3 : fn.body.isNone = false := by cases hb : fn.body <;> simp_all
    simp only [callFunc, Sem.run_bind, run_program, Result.andThen_ok, h]
    simp [h2, h3]
  · cases hf
theorem upon_of_calls {o : Oper} {a : Act} {f : FuncId} {vs : Array Value} {w : World} {K : Act → World → Prop} {Q : Exit → Act → World → Prop}
    (h : CallTo P f vs w fun v w' => K (a.put o.dst v) w') : o.upon P a K Q (.ok (.enter f vs) w) :=
  Calls.mono h fun e w' ⟨v, he, hv⟩ => by subst he; exact hv
theorem run_rowEx {look : Operand → Option Ex} {ρ : Operand → Value} {env : Env} {w : World} (hr : Rel look ρ env w) {t : TypeId} {len : Nat} {parts : Array (Nat × Operand)} {T : TypeId} {e : Ex} {v : Value}
    (h : rowEx P look t len parts.toList = some (T, e)) (hv : e.ev env w = some v) :
    (Instr.buildSlice t len (parts.map fun (i, x) => (i, ρ x))).run P w = .ok (.slice (some ⟨w.heap.size, 0, none⟩) len len) (w.alloc (.cells v.cells T)) := by
  unfold rowEx at h
  split at h
  · rename_i el ht
    split at h
    · rename_i m z hm hz
      split at h
      · rename_i hle
        obtain ⟨e', he, h2⟩ := map_inv h
        simp at h2
        obtain ⟨rfl, rfl⟩ := h2
        obtain ⟨u, hu, hcells⟩ := buildEx_spec hr _ _ e' v he hv
        simp only [Ex.ev, Option.some.injEq] at hu
        obtain ⟨cells, h1, rfl⟩ := hcells _ hu.symm
        obtain ⟨i, hi, hiz⟩ := bind_inv hz
        have hzero : (zeroValue el).run P w = .ok z w := by simp [zeroValue, run_info hi, hiz]
        have h1' : Instr.fill (fun i => some (i * m, m)) ((Array.range (len * m)).map (z.cells[· % z.cells.size]!)) (parts.map fun (x : Nat × Operand) => (x.1, ρ x.2)).toList = some cells := by
          simpa using h1
        have hle' : ¬ (len * m > 2 ^ 24) := by omega
        simp only [Instr.buildSlice, Sem.run_bind, run_underlying ht, Result.andThen_ok, run_size hm]
        rw [if_neg hle']
        by_cases h0 : len * m = 0
        · have e1 : ((Array.range (len * m)).map (z.cells[· % z.cells.size]!)) = ((Array.range (len * m)).map ((#[] : Array Value)[· % (#[] : Array Value).size]!)) := by simp [h0]
          rw [e1] at h1'
          rw [if_pos h0]
          simp only [Sem.run_bind, Sem.run_pure, Result.andThen_ok]
          rw [h1']
          rfl
        · rw [if_neg h0]
          simp only [Sem.run_bind, hzero, Sem.run_pure, Result.andThen_ok]
          rw [h1']
          rfl
      · cases h
    · cases h
  · cases h
theorem stab_alloc (st : List Ex) (env : Env) (w : World) (o : Obj) : Stab st env w (w.alloc o) := fun e _ v h => ev_mono (HeapLe.alloc w o) e h
theorem opEff_sound {look : Operand → Option Ex} {a : Act} {env : Env} {w : World} (hr : Rel look a.eval env w) {o : Oper} {mk : Option Nat → List Ex → Cmd} (h : opEff P look o = some mk)
    {dst : Option Nat} {st : List Ex} {Q : Exit → Env → World → Prop} (hw : (mk dst st).wp P Q env w) {K : Act → World → Prop} {Qx : Exit → Act → World → Prop}
    (hd : ∀ t x v, o.op = .store t x v → dst = none)
    (hk : ∀ v w', Stab st env w w' → Q .normal (setO dst env v) w' → K (a.put o.dst v) w') : o.wp P a w K Qx := by
  unfold Oper.wp
  obtain ⟨odst, op, type, pos, after, guard⟩ := o
  simp only [opEff] at h
  cases op with
  | call c =>
    obtain ⟨callee, args, argTypes⟩ := c
    cases callee with
    | value f =>
      cases f with
      | func f =>
        simp only at h
        split at h
        · rename_i hf
          obtain ⟨as, ha, rfl⟩ := map_inv h
          obtain ⟨vs, hvs, hw⟩ := Ok_inv hw
          have harr := looks_arr hr ha hvs
          simp only [execOp, resolve, Act.eval, Deferred.ofValue, Sem.run_bind, Sem.run_pure, Result.andThen_ok, invoke]
          have harr' : args.map a.eval = vs.toArray := harr
          simp only [harr', Array.append_empty, Array.empty_append]
          rw [run_callFunc hf]
          exact upon_of_calls (hw.mono fun v w' h => hk v w' h.1 h.2)
        · obtain ⟨as, ha, rfl⟩ := map_inv h
          obtain ⟨vs, hvs, hw⟩ := Ok_inv hw
          have harr := looks_arr hr ha hvs
          simp only [execOp, resolve, Act.eval, Deferred.ofValue, Sem.run_bind, Sem.run_pure, Result.andThen_ok, invoke]
          have harr' : args.map a.eval = vs.toArray := harr
          simp only [harr', Array.append_empty, Array.empty_append]
          unfold RunTo at hw
          have hsem : Tag.sem (.ext f) vs = (do
            match ← callFunc f vs.toArray with
            | .value v => pure v
            | _ => stuck "no value" : Sem Value) := by cases vs <;> rfl
          rw [hsem] at hw
          simp only [Sem.run_bind] at hw
          generalize (callFunc f vs.toArray).run P w = r at hw ⊢
          cases r with
          | ok v w' =>
            cases v with
            | value v => exact hk v w' hw.1 hw.2
            | _ => exact hw.elim
          | halt x w' => exact hw.elim
      | tmp t =>
        simp only at h
        split at h
        · rename_i f as hf ha
          simp at h; subst h
          obtain ⟨fv, hfv, hw⟩ := Ok_inv hw
          obtain ⟨vs, hvs, hw⟩ := Ok_inv hw
          have harr := looks_arr hr ha hvs
          have e1 := hr _ f fv hf hfv
          unfold DynTo at hw
          split at hw
          · rename_i g first cap
            simp only [execOp, resolve, e1, Deferred.ofValue, Sem.run_bind, Sem.run_pure, Result.andThen_ok, invoke]
            have harr' : args.map a.eval = vs.toArray := harr
            simp only [harr']
            rw [run_callFunc hw.1]
            exact upon_of_calls (hw.2.mono fun v w' h => hk v w' h.1 h.2)
          · exact hw.elim
        · cases h
      | _ => simp at h
    | invoke r m => simp at h
    | builtin b =>
      simp only at h
      split at h
      · rename_i hb
        obtain ⟨as, ha, rfl⟩ := map_inv h
        obtain ⟨vs, hvs, hw⟩ := Ok_inv hw
        have harr : args.map a.eval = vs.toArray := looks_arr hr ha hvs
        cases b <;> simp [biOk] at hb
        all_goals
          simp only [execOp, resolve, Sem.run_bind, Sem.run_pure, Result.andThen_ok, invoke, builtin, harr, Array.toArray_toList] at hw ⊢
          generalize Sem.run P _ w = r at hw ⊢
          cases r with
          | ok v w' => simp only [Result.to, Result.andThen_ok] at hw ⊢; exact hk v w' hw.1 hw.2
          | halt x w' => simp only [Result.to, Result.andThen_halt] at hw
      · cases h
  | makeSlice t l c =>
    obtain ⟨as, ha, rfl⟩ := map_inv h
    obtain ⟨vs, hvs, hw⟩ := Ok_inv hw
    have := looks_spec hr _ _ _ ha hvs
    subst this
    simp only [execOp, Sem.run_bind]
    unfold RunTo at hw
    simp only [List.map, Tag.sem] at hw
    generalize Sem.run P _ w = r at hw ⊢
    cases r with
    | ok v w' => exact hk v w' hw.1 hw.2
    | halt x w' => exact hw.elim
  | convert s d x =>
    obtain ⟨as, ha, rfl⟩ := map_inv h
    obtain ⟨vs, hvs, hw⟩ := Ok_inv hw
    have := looks_spec hr _ _ _ ha hvs
    subst this
    simp only [execOp, Sem.run_bind]
    unfold RunTo at hw
    simp only [List.map, Tag.sem] at hw
    generalize Sem.run P _ w = r at hw ⊢
    cases r with
    | ok v w' => exact hk v w' hw.1 hw.2
    | halt x w' => exact hw.elim
  | slice t x lo hi mx =>
    cases lo <;> cases hi <;> cases mx <;> simp only [reduceCtorEq] at h
    obtain ⟨as, ha, rfl⟩ := map_inv h
    obtain ⟨vs, hvs, hw⟩ := Ok_inv hw
    have := looks_spec hr _ _ _ ha hvs
    subst this
    simp only [execOp, Sem.run_bind]
    unfold RunTo at hw
    simp only [List.map, Tag.sem] at hw
    simp only [Option.map_some]
    generalize Sem.run P _ w = r at hw ⊢
    cases r with
    | ok v w' => exact hk v w' hw.1 hw.2
    | halt x w' => exact hw.elim
  | makeMap t r =>
    cases r with
    | some r => cases h
    | none =>
      obtain rfl := Option.some.inj h
      obtain ⟨vs, hvs, hw⟩ := Ok_inv hw
      simp only [evs, Option.some.injEq] at hvs
      subst hvs
      simp only [execOp, Sem.run_bind, Option.map_none]
      unfold RunTo at hw
      simp only [Tag.sem] at hw
      generalize Sem.run P _ w = r at hw ⊢
      cases r with
      | ok v w' => exact hk v w' hw.1 hw.2
      | halt x w' => exact hw.elim
  | lookup t x i ok =>
    obtain ⟨as, ha, rfl⟩ := map_inv h
    obtain ⟨vs, hvs, hw⟩ := Ok_inv hw
    have := looks_spec hr _ _ _ ha hvs
    subst this
    simp only [execOp, Sem.run_bind]
    unfold RunTo at hw
    simp only [List.map, Tag.sem] at hw
    generalize Sem.run P _ w = r at hw ⊢
    cases r with
    | ok v w' => exact hk v w' hw.1 hw.2
    | halt x w' => exact hw.elim
  | mapUpdate t m k x =>
    simp only at h
    split at h
    · rename_i hdst
      obtain ⟨as, ha, rfl⟩ := map_inv h
      obtain ⟨vs, hvs, hw⟩ := Ok_inv hw
      have := looks_spec hr _ _ _ ha hvs
      subst this
      simp only [execOp, Sem.run_bind]
      unfold RunTo at hw
      simp only [List.map, Tag.sem, Sem.run_bind] at hw
      generalize Sem.run P (Instr.mapUpdate _ _ _ _) w = r at hw ⊢
      cases r with
      | ok v w' =>
        cases odst with
        | none => exact hk undef w' hw.1 hw.2
        | some d => cases hdst
      | halt x w' => exact hw.elim
    · cases h
  | panic x =>
    simp at h; subst h
    exact False.elim hw
  | store t x v =>
    simp only at h
    split at h
    · rename_i n x' v' hn hx hv
      simp at h; subst h
      obtain ⟨xv, hxv, hw⟩ := Ok_inv hw
      obtain ⟨vv, hvv, hw⟩ := Ok_inv hw
      obtain ⟨w', hw', hw3⟩ := Ok_inv hw
      simp only [execOp, Sem.run_bind, hr _ _ _ hx hxv, hr _ _ _ hv hvv, run_storeAt hn hw', Result.andThen_ok, Sem.run_pure, Oper.upon]
      have := hd t x v rfl
      subst this
      exact hk undef w' hw3.1 hw3.2
    · cases h
  | box T x =>
    obtain ⟨e, he, rfl⟩ := map_inv h
    obtain ⟨xv, hxv, hw⟩ := Ok_inv hw
    simp only [execOp, Sem.run_bind, hr _ _ _ he hxv, Instr.box, newVar, newRow, run_newObj, Result.andThen_ok, Sem.run_pure, Oper.upon]
    exact hk _ _ (stab_alloc st env w _) hw
  | alloc T =>
    obtain ⟨z, hz, rfl⟩ := map_inv h
    obtain ⟨xv, hxv, hw⟩ := Ok_inv hw
    simp only [Ex.ev, Option.some.injEq] at hxv
    subst hxv
    obtain ⟨i, hi, hiz⟩ := bind_inv hz
    have hzero : (zeroValue T).run P w = .ok z w := by simp [zeroValue, run_info hi, hiz]
    simp only [execOp, Sem.run_bind, Instr.alloc, hzero, newVar, newRow, run_newObj, Result.andThen_ok, Sem.run_pure, Oper.upon]
    exact hk _ _ (stab_alloc st env w _) hw
  | buildSlice t len parts =>
    obtain ⟨⟨T, e⟩, he, rfl⟩ := map_inv h
    obtain ⟨xv, hxv, hw⟩ := Ok_inv hw
    simp only [execOp, Sem.run_bind, run_rowEx hr he hxv, Result.andThen_ok, Sem.run_pure, Oper.upon]
    exact hk _ _ (stab_alloc st env w _) hw
  | _ => simp at h
end
end Go.Eng
