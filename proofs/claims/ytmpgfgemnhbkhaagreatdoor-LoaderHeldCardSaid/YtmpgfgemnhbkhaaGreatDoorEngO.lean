/- Engine, part O: a walk through a calm function, item by item; own blocks as a list. -/
import Derived.Test.YtmpgfgemnhbkhaaGreatDoorEngN
set_option linter.unusedSimpArgs false
set_option linter.unusedVariables false
namespace Go.Eng

inductive ItO where
  | c (c : Cmd)
  | blk (id : Nat)
  | post (K : Env → Own → Prop)

def Cx (P : Program) (w0 B : World) (R : Env → Own → Prop) : List ItO → Exit → Env → Own → Prop
  | [], .normal => R
  | [], .ret => R
  | [], _ => fun _ _ => False
  | .c c :: k, .normal => c.cwp P w0 B (Cx P w0 B R k)
  | .c _ :: k, x => Cx P w0 B R k x
  | .blk _ :: k, .normal => Cx P w0 B R k .normal
  | .blk id :: k, .exit id' => if id' = id then Cx P w0 B R k .normal else Cx P w0 B R k (.exit id')
  | .blk _ :: k, x => Cx P w0 B R k x
  | .post K :: k, .normal => K
  | .post _ :: k, x => Cx P w0 B R k x

def C (P : Program) (w0 B : World) (R : Env → Own → Prop) (k : List ItO) (env : Env) (l : Own) : Prop := Cx P w0 B R k .normal env l

section
variable {P : Program} {w0 B : World} {R : Env → Own → Prop} {k : List ItO} {env : Env} {l : Own}

theorem Cx_ret : ∀ (k : List ItO), Cx P w0 B R k .ret = R
  | [] => rfl
  | .c _ :: k => Cx_ret k
  | .blk _ :: k => Cx_ret k
  | .post _ :: k => Cx_ret k

@[congr] theorem C_congr {env' : Env} {l' : Own} (he : env = env') (hw : l = l') : C P w0 B R k env l = C P w0 B R k env' l' := by rw [he, hw]
@[simp] theorem C_nil : C P w0 B R [] env l = R env l := hide rfl
@[simp] theorem C_blk (id : Nat) : C P w0 B R (.blk id :: k) env l = C P w0 B R k env l := hide rfl
@[simp] theorem C_post (K : Env → Own → Prop) : C P w0 B R (.post K :: k) env l = K env l := hide rfl
@[simp] theorem C_skip : C P w0 B R (.c .skip :: k) env l = C P w0 B R k env l := hide rfl
@[simp] theorem C_seq (a b : Cmd) : C P w0 B R (.c (.seq a b) :: k) env l = C P w0 B R (.c a :: .c b :: k) env l := by
  show a.cwp P w0 B _ env l = a.cwp P w0 B (Cx P w0 B R (.c b :: k)) env l
  congr 1
  funext x; cases x <;> rfl
@[simp] theorem C_block (id : Nat) (a : Cmd) : C P w0 B R (.c (.block id a) :: k) env l = C P w0 B R (.c a :: .blk id :: k) env l := by
  show a.cwp P w0 B _ env l = a.cwp P w0 B (Cx P w0 B R (.blk id :: k)) env l
  congr 1
  funext x; cases x <;> try rfl
  rename_i id'
  funext env l
  show (if id' = id then Cx P w0 B R k .normal env l else Cx P w0 B R k (.exit id') env l) = (if id' = id then Cx P w0 B R k .normal else Cx P w0 B R k (.exit id')) env l
  split <;> rfl
@[simp] theorem C_ret : C P w0 B R (.c .ret :: k) env l = R env l := by
  show Cx P w0 B R k .ret env l = _
  rw [Cx_ret]
@[simp] theorem C_exit (id : Nat) : C P w0 B R (.c (.exit id) :: k) env l = Cx P w0 B R k (.exit id) env l := hide rfl
@[simp] theorem Cx_exit_c (id : Nat) (c : Cmd) : Cx P w0 B R (.c c :: k) (.exit id) env l = Cx P w0 B R k (.exit id) env l := hide rfl
@[simp] theorem Cx_exit_post (id : Nat) (K : Env → Own → Prop) : Cx P w0 B R (.post K :: k) (.exit id) env l = Cx P w0 B R k (.exit id) env l := hide rfl
@[simp] theorem Cx_exit_blk (id id' : Nat) : Cx P w0 B R (.blk id :: k) (.exit id') env l = if id' = id then C P w0 B R k env l else Cx P w0 B R k (.exit id') env l := by
  show (if id' = id then Cx P w0 B R k .normal else Cx P w0 B R k (.exit id')) env l = _
  split <;> rfl
@[simp] theorem C_set (i : Nat) (e : Ex) : C P w0 B R (.c (.set i e) :: k) env l = Ok (e.ev env (ownW B l)) fun v => C P w0 B R k (env.set i v) l := hide rfl
@[simp] theorem C_chk (es : List Ex) : C P w0 B R (.c (.chk es) :: k) env l = Ok (evs env (ownW B l) es) fun _ => C P w0 B R k env l := hide rfl
@[simp] theorem C_clr (is : List Nat) : C P w0 B R (.c (.clr is) :: k) env l = C P w0 B R k (is.foldl (fun env i => env.set i undef) env) l := hide rfl
@[simp] theorem C_draw : C P w0 B R (.c .draw :: k) env l = C P w0 B R k env l := hide rfl
@[simp] theorem C_call (dst : Option Nat) (f : FuncId) (args st : List Ex) : C P w0 B R (.c (.call dst f args st) :: k) env l = Ok (evs env (ownW B l) args) fun vs => Ok (T P w0 f vs) fun v => C P w0 B R k (setO dst env v) l := hide rfl
@[simp] theorem C_store (n : Nat) (x v : Ex) (st : List Ex) : C P w0 B R (.c (.store n x v st) :: k) env l =
    Ok (x.ev env (ownW B l)) fun x => Ok (v.ev env (ownW B l)) fun v => Ok (ost B l n x v) fun l' => StabO st env (ownW B l) (ownW B l') ∧ C P w0 B R k env l' := hide rfl
@[simp] theorem C_new (dst : Option Nat) (T : TypeId) (e : Ex) (st : List Ex) : C P w0 B R (.c (.new dst T e st) :: k) env l =
    Ok (e.ev env (ownW B l)) fun v => C P w0 B R k (setO dst env (.pointer (some ⟨B.heap.size + l.length, 0, none⟩))) (l ++ [(v.cells, T)]) := hide rfl
@[simp] theorem C_row (dst : Option Nat) (T : TypeId) (n : Nat) (e : Ex) (st : List Ex) : C P w0 B R (.c (.row dst T n e st) :: k) env l =
    Ok (e.ev env (ownW B l)) fun v => C P w0 B R k (setO dst env (.slice (some ⟨B.heap.size + l.length, 0, none⟩) n n)) (l ++ [(v.cells, T)]) := hide rfl
theorem C_cond_eq (e : Ex) (a b : Cmd) : C P w0 B R (.c (.cond e a b) :: k) env l = Ok (e.ev env (ownW B l)) fun v => condTo v (C P w0 B R (.c a :: k) env l) (C P w0 B R (.c b :: k) env l) := hide rfl
theorem C_alt (a b : Cmd) : C P w0 B R (.c (.alt a b) :: k) env l = (C P w0 B R (.c a :: k) env l ∧ C P w0 B R (.c b :: k) env l) := hide rfl

/-- A condition: both ways. -/
theorem C_cond {e : Ex} {a b : Cmd} {t : Bool} (he : e.ev env (ownW B l) = some (.bool t)) (h1 : t = true → C P w0 B R (.c a :: k) env l) (h2 : t = false → C P w0 B R (.c b :: k) env l) : C P w0 B R (.c (.cond e a b) :: k) env l := by
  rw [C_cond_eq, he]
  cases t
  · simpa using h2 rfl
  · simpa using h1 rfl
theorem C_yes {e : Ex} {a b : Cmd} (he : e.ev env (ownW B l) = some (.bool true)) (h : C P w0 B R (.c a :: k) env l) : C P w0 B R (.c (.cond e a b) :: k) env l := C_cond he (fun _ => h) (fun h => by cases h)
theorem C_no {e : Ex} {a b : Cmd} (he : e.ev env (ownW B l) = some (.bool false)) (h : C P w0 B R (.c b :: k) env l) : C P w0 B R (.c (.cond e a b) :: k) env l := C_cond he (fun h => by cases h) (fun _ => h)
theorem C_if {e : Ex} {a b : Cmd} {c : Prop} [Decidable c] (he : e.ev env (ownW B l) = some (.bool (decide c))) (h1 : c → C P w0 B R (.c a :: k) env l) (h2 : ¬ c → C P w0 B R (.c b :: k) env l) : C P w0 B R (.c (.cond e a b) :: k) env l :=
  C_cond he (fun h => h1 (of_decide_eq_true h)) (fun h => h2 (of_decide_eq_false h))
theorem C_setI {i : Nat} {e : Ex} {v : Value} (he : e.ev env (ownW B l) = some v) (h : C P w0 B R k (env.set i v) l) : C P w0 B R (.c (.set i e) :: k) env l := by rw [C_set, he]; exact h
theorem C_chkI {es : List Ex} {vs : List Value} (he : evs env (ownW B l) es = some vs) (h : C P w0 B R k env l) : C P w0 B R (.c (.chk es) :: k) env l := by rw [C_chk, he]; exact h
theorem C_callI {dst : Option Nat} {f : FuncId} {args st : List Ex} {vs : List Value} {v : Value} (he : evs env (ownW B l) args = some vs) (ht : T P w0 f vs = some v) (h : C P w0 B R k (setO dst env v) l) : C P w0 B R (.c (.call dst f args st) :: k) env l := by
  rw [C_call, he, Ok_some, ht]; exact h
theorem C_newI {dst : Option Nat} {T : TypeId} {e : Ex} {st : List Ex} {v : Value} {cs : Array Value} (he : e.ev env (ownW B l) = some v) (hc : v.cells = cs) (h : C P w0 B R k (setO dst env (.pointer (some ⟨B.heap.size + l.length, 0, none⟩))) (l ++ [(cs, T)])) :
    C P w0 B R (.c (.new dst T e st) :: k) env l := by rw [C_new, he, Ok_some, hc]; exact h
theorem C_rowI {dst : Option Nat} {T : TypeId} {n : Nat} {e : Ex} {st : List Ex} {v : Value} {cs : Array Value} (he : e.ev env (ownW B l) = some v) (hc : v.cells = cs) (h : C P w0 B R k (setO dst env (.slice (some ⟨B.heap.size + l.length, 0, none⟩) n n)) (l ++ [(cs, T)])) :
    C P w0 B R (.c (.row dst T n e st) :: k) env l := by rw [C_row, he, Ok_some, hc]; exact h
theorem C_storeI {n : Nat} {x v : Ex} {st : List Ex} {xv vv : Value} {l' : Own} (hx : x.ev env (ownW B l) = some xv) (hv : v.ev env (ownW B l) = some vv) (ho : ost B l n xv vv = some l') (hst : StabO st env (ownW B l) (ownW B l')) (h : C P w0 B R k env l') :
    C P w0 B R (.c (.store n x v st) :: k) env l := by rw [C_store, hx, Ok_some, hv, Ok_some, ho]; exact ⟨hst, h⟩
theorem cwp_mono (c : Cmd) : ∀ {Q Q' : Exit → Env → Own → Prop} {env : Env} {l : Own}, (∀ x env l, Q x env l → Q' x env l) → c.cwp P w0 B Q env l → c.cwp P w0 B Q' env l := by
  induction c with
  | skip => intro Q Q' env w hq h; exact hq _ _ _ h
  | chk es => intro Q Q' env w hq h; obtain ⟨a, ha, h⟩ := Ok_inv h; simp only [Cmd.cwp, ha, Ok_some]; exact hq _ _ _ h
  | set i e => intro Q Q' env w hq h; obtain ⟨a, ha, h⟩ := Ok_inv h; simp only [Cmd.cwp, ha, Ok_some]; exact hq _ _ _ h
  | clr l => intro Q Q' env w hq h; exact hq _ _ _ h
  | draw => intro Q Q' env w hq h; exact hq _ _ _ h
  | call dst f args st => intro Q Q' env w hq h; obtain ⟨a, ha, h⟩ := Ok_inv h; obtain ⟨b, hb, h⟩ := Ok_inv h; simp only [Cmd.cwp, ha, hb, Ok_some]; exact hq _ _ _ h
  | dyn dst f args st => intro Q Q' env w hq h; exact h.elim
  | bi dst b ats ty args st => intro Q Q' env w hq h; exact h.elim
  | sem dst g args st => intro Q Q' env w hq h; exact h.elim
  | die => intro Q Q' env w hq h; exact h.elim
  | alt a b iha ihb => intro Q Q' env w hq h; exact ⟨iha hq h.1, ihb hq h.2⟩
  | store n x v st =>
    intro Q Q' env w hq h; obtain ⟨a, ha, h⟩ := Ok_inv h; obtain ⟨b, hb, h⟩ := Ok_inv h; obtain ⟨c, hc, h⟩ := Ok_inv h; simp only [Cmd.cwp, ha, hb, hc, Ok_some]
    exact ⟨h.1, hq _ _ _ h.2⟩
  | new dst T e => intro Q Q' env w hq h; obtain ⟨a, ha, h⟩ := Ok_inv h; simp only [Cmd.cwp, ha, Ok_some]; exact hq _ _ _ h
  | row dst T n e => intro Q Q' env w hq h; obtain ⟨a, ha, h⟩ := Ok_inv h; simp only [Cmd.cwp, ha, Ok_some]; exact hq _ _ _ h
  | seq a b iha ihb =>
    intro Q Q' env w hq h
    exact iha (fun x env w h => by cases x <;> first | exact ihb hq h | exact hq _ _ _ h) h
  | cond e a b iha ihb =>
    intro Q Q' env w hq h; obtain ⟨v, hv, h⟩ := Ok_inv h; simp only [Cmd.cwp, hv, Ok_some]
    exact condTo_mono h (iha hq) (ihb hq)
  | block id a ih =>
    intro Q Q' env w hq h
    refine ih (fun x env w h => ?_) h
    cases x with
    | exit id' =>
      simp only at h ⊢
      split at h
      · rename_i e; rw [if_pos e]; exact hq _ _ _ h
      · rename_i e; rw [if_neg e]; exact hq _ _ _ h
    | _ => exact hq _ _ _ h
  | loop ks a ih =>
    intro Q Q' env w hq h
    obtain ⟨I, m, hI, hs⟩ := h
    refine ⟨I, m, hI, fun env w hi => ih (fun x env w h => ?_) (hs env w hi)⟩
    cases x with
    | normal => exact h
    | _ => exact hq _ _ _ h
  | exit id => intro Q Q' env w hq h; exact hq _ _ _ h
  | ret => intro Q Q' env w hq h; exact hq _ _ _ h

/-- A loop. -/
theorem C_loop {ks : List Nat} {a : Cmd} (I : Env → Own → Prop) (m : Env → Own → Nat) (h0 : I (mask ks env) l)
    (h : ∀ env l, I env l → C P w0 B R (.c a :: .post (fun env' l' => I (mask ks env') l' ∧ m (mask ks env') l' < m env l) :: k) env l) : C P w0 B R (.c (.loop ks a) :: k) env l := by
  refine ⟨I, m, h0, fun env l hI => ?_⟩
  have := h env l hI
  refine cwp_mono a (fun x env l h => ?_) this
  cases x <;> exact h
/-- A cut. -/
theorem C_cut {a : Cmd} (K : Env → Own → Prop) (h : C P w0 B R (.c a :: .post K :: k) env l) (hk : ∀ env l, K env l → C P w0 B R k env l) : C P w0 B R (.c a :: k) env l := by
  refine cwp_mono a (fun x env l h => ?_) h
  cases x <;> first | exact hk _ _ h | exact h
end

/-! What own blocks have. -/
def rowOf (c : Array Value) (off n : Nat) : Option (Array Value) := if off + n ≤ c.size then some (c.extract off (off + n)) else none
@[simp] theorem rowOf_all (c : Array Value) (n : Nat) (h : c.size = n) : rowOf c 0 n = some c := by subst h; simp [rowOf]
def ostC (c : Array Value) (n off : Nat) (v : Value) : Option (Array Value) := if v.cells.size = n ∧ off + v.cells.size ≤ c.size ∧ v.cells.all (·.oneCell') = true then some (setRow c off v.cells.toList) else none
@[simp] theorem ostC_all (c : Array Value) (n : Nat) (cs : Array Value) (h : c.size = n) (h1 : cs.size = n) (h2 : cs.all (·.oneCell') = true) : ostC c n 0 (.agg cs) = some cs := by
  have e : (Value.agg cs).cells = cs := rfl
  unfold ostC
  rw [e, if_pos ⟨h1, by omega, h2⟩, setRow_all (by simp; omega)]
@[simp] theorem oneCell_int (k : IntKind) (x : Int) : (Value.int k x).oneCell' = true := rfl
@[simp] theorem oneCell_bool (x : Bool) : (Value.bool x).oneCell' = true := rfl
@[simp] theorem oneCell_string (x : ByteArray) : (Value.string x).oneCell' = true := rfl
@[simp] theorem oneCell_ptr (x : Option Addr) : (Value.pointer x).oneCell' = true := rfl
@[simp] theorem oneCell_slice (x : Option Addr) (n c : Nat) : (Value.slice x n c).oneCell' = true := rfl
theorem ostC_one {c : Array Value} {off : Nat} {v : Value} (h : v.cells = #[v]) (h1 : v.oneCell' = true) (h2 : off < c.size) : ostC c 1 off v = some (c.setIfInBounds off v) := by
  unfold ostC
  rw [h, if_pos ⟨rfl, by show off + 1 ≤ c.size; omega, by simpa using h1⟩]
  rfl
@[simp] theorem ostC_int (c : Array Value) (off : Nat) (k : IntKind) (x : Int) (h2 : off < c.size) : ostC c 1 off (.int k x) = some (c.setIfInBounds off (.int k x)) := ostC_one rfl rfl h2
@[simp] theorem ostC_bool (c : Array Value) (off : Nat) (x : Bool) (h2 : off < c.size) : ostC c 1 off (.bool x) = some (c.setIfInBounds off (.bool x)) := ostC_one rfl rfl h2
@[simp] theorem ostC_string (c : Array Value) (off : Nat) (x : ByteArray) (h2 : off < c.size) : ostC c 1 off (.string x) = some (c.setIfInBounds off (.string x)) := ostC_one rfl rfl h2

section
variable (B : World) (l : Own)
@[simp] theorem own_cell (j off : Nat) : wcell (ownW B l) (B.heap.size + j) off = (l[j]?).bind fun x => x.1[off]? := by
  unfold wcell
  rw [own_new]
  cases l[j]? <;> rfl
@[simp] theorem own_cell0 (off : Nat) : wcell (ownW B l) B.heap.size off = (l[0]?).bind fun x => x.1[off]? := own_cell B l 0 off
@[simp] theorem own_row (j off n : Nat) : wrow (ownW B l) (B.heap.size + j) off n = (l[j]?).bind fun x => rowOf x.1 off n := by
  unfold wrow
  rw [own_new]
  cases l[j]? <;> rfl
@[simp] theorem own_row0 (off n : Nat) : wrow (ownW B l) B.heap.size off n = (l[0]?).bind fun x => rowOf x.1 off n := own_row B l 0 off n
@[simp] theorem ost_at (n j off : Nat) (v : Value) : ost B l n (.pointer (some ⟨B.heap.size + j, off, none⟩)) v = (l[j]?).bind fun x => (ostC x.1 n off v).map fun c => l.set j (c, x.2) := by
  simp only [ost, ostC]
  rw [if_pos (by omega), show B.heap.size + j - B.heap.size = j from by omega]
  cases l[j]? with
  | none => rfl
  | some x =>
    simp only [Option.bind_some]
    split <;> rfl
@[simp] theorem ost_at0 (n off : Nat) (v : Value) : ost B l n (.pointer (some ⟨B.heap.size, off, none⟩)) v = (l[0]?).bind fun x => (ostC x.1 n off v).map fun c => l.set 0 (c, x.2) := ost_at B l n 0 off v
@[simp] theorem stabO_nil (env : Env) (w w' : World) : StabO [] env w w' = True := eq_true fun e he => by cases he
@[simp] theorem stabO_cons (e : Ex) (es : List Ex) (env : Env) (w w' : World) : StabO (e :: es) env w w' = ((∃ v, e.ev env w = some v ∧ e.ev env w' = some v) ∧ StabO es env w w') := by
  simp [StabO]
theorem own_ext {w0 B : World} {l : Own} (hB : HeapLe w0 B) {b off : Nat} {v : Value} (h : wcell w0 b off = some v) : wcell (ownW B l) b off = some v := by
  have h1 := wcell_mono hB h
  have hb : b < B.heap.size := by
    unfold wcell at h1
    cases hc : B.heap[b]? with
    | none => rw [hc] at h1; cases h1
    | some o => exact blk_lt hc
  unfold wcell at h1 ⊢
  rw [own_old hb]
  exact h1
end

@[simp] theorem ext_int (n : Nat) (k : IntKind) (x : Int) : Ext n (.int k x) = True := eq_true (.int k x)
@[simp] theorem ext_bool (n : Nat) (x : Bool) : Ext n (.bool x) = True := eq_true (.bool x)
@[simp] theorem ext_string (n : Nat) (x : ByteArray) : Ext n (.string x) = True := eq_true (.string x)
@[simp] theorem ext_pnil (n : Nat) : Ext n (.pointer none) = True := eq_true .pnil
@[simp] theorem ext_snil (n a b : Nat) : Ext n (.slice none a b) = True := eq_true (.snil a b)
@[simp] theorem ext_ptr (n b o : Nat) (s : Option Nat) : Ext n (.pointer (some ⟨b, o, s⟩)) = (b < n) := propext ⟨fun h => by cases h; assumption, fun h => .ptr b o s h⟩
@[simp] theorem ext_slice (n b o : Nat) (s : Option Nat) (x y : Nat) : Ext n (.slice (some ⟨b, o, s⟩) x y) = (b < n) := propext ⟨fun h => by cases h; assumption, fun h => .slice b o s x y h⟩
@[simp] theorem ext_agg (n : Nat) (cs : Array Value) : Ext n (.agg cs) = ∀ x ∈ cs.toList, Ext n x := propext ⟨fun h x hx => by
    cases h with
    | agg _ _ _ h2 =>
      obtain ⟨i, hi⟩ := List.getElem?_of_mem hx
      rw [Array.getElem?_toList] at hi
      exact h2 i x x hi hi, fun h => .agg _ _ rfl (ext_pt h)⟩
@[simp] theorem ext_tuple (n : Nat) (cs : Array Value) : Ext n (.tuple cs) = ∀ x ∈ cs.toList, Ext n x := propext ⟨fun h x hx => by
    cases h with
    | tuple _ _ _ h2 =>
      obtain ⟨i, hi⟩ := List.getElem?_of_mem hx
      rw [Array.getElem?_toList] at hi
      exact h2 i x x hi hi, fun h => .tuple _ _ rfl (ext_pt h)⟩

theorem resV_vr {M : Nat} {σ : Nat → Nat} {rs rs' : List Value} (hl : rs.length = rs'.length) (h : ∀ (i : Nat) u v, rs[i]? = some u → rs'[i]? = some v → VR M σ u v) : VR M σ (resV rs) (resV rs') := by
  match rs, rs', hl with
  | [], [], _ => exact vr_undef
  | [u], [v], _ => exact h 0 u v rfl rfl
  | u :: u2 :: r, v :: v2 :: s, hl =>
    simp only [resV_two]
    exact .tuple _ _ (by simpa using hl) (fun i a b ha hb => h i a b (by simpa using ha) (by simpa using hb))

section
variable {P : Program} {w0 : World}
/-- A calm function's contract: by a calm walk. -/
theorem T_of {V : List Nat} {f : FuncId} {fn : Func} {ks : List (List Nat)} {cmd : Cmd} {rs : List Ex} {args : List Value} {x : Value} (hi : P.inits.idxOf? f = none) (hf : P.funcs[f]? = some fn) (hn : Nat.ble args.length fn.ntmps = true)
    (hc : compile P fn V ks = some (cmd, rs)) (ha : ∀ v ∈ args, Ext w0.heap.size v) (hx : Ext w0.heap.size x)
    (h : ∀ B, HeapLe w0 B → C P w0 B (fun env l => Ok (evs env (ownW B l) rs) fun vs => resV vs = x) [.c cmd] (env0 V args) []) : T P w0 f args = some x := by
  refine T_eq ⟨hi, ha, hx, fun w hk => ?_⟩
  obtain ⟨n1, hn1⟩ := cmd.cl_ex
  obtain ⟨n2, hn2⟩ := exs_cl_ex rs
  obtain ⟨B, hB, hnB⟩ := base_ex w0 (max n1 n2)
  refine ret_of_cmd hf (Nat.le_of_ble_eq_true hn) hc ?_
  have hs : Sim w B [] w id := ⟨fun b _ => rfl, Kept.refl _ _, fun j x hx => by simp at hx, fun j hj => by simp at hj, fun i j hi => by simp at hi⟩
  have he : EnvR (B.heap.size + ([] : Own).length) id (env0 V args) (env0 V args) := by
    refine ⟨rfl, fun i u v hu hv => ?_⟩
    rw [hu] at hv
    obtain rfl := Option.some.inj hv
    simp only [env0, List.getElem?_map, Option.map_eq_some_iff] at hu
    obtain ⟨t, _, rfl⟩ := hu
    cases hat : args[t]? with
    | none => exact vr_undef
    | some z => exact (ha z (List.mem_of_getElem? hat)).vr (by have := hB.le; simp; omega) (fun _ _ => rfl)
  refine cwp_wp hB hk cmd (hn1.mono (by omega)) (fun y env env' l w' σ hs he hq => ?_) hs he (h B hB.has)
  have fin : (Ok (evs env (ownW B l) rs) fun vs => resV vs = x) → Ok (evs env' w' rs) fun vs => resV vs = x ∧ Kept none' w w' := by
    intro hq
    obtain ⟨vs, hv, hr⟩ := Ok_inv hq
    obtain ⟨vs', hv', hl, hp⟩ := hs.evs hB hk he rs (fun e he => (hn2 e he).mono (by omega)) hv
    rw [hv', Ok_some]
    refine ⟨?_, hs.kept⟩
    have h1 := resV_vr hl hp
    rw [hr] at h1
    exact VR.uniq h1 (hx.vr (by have := hB.le; omega) (fun b hb => hs.fix b (Nat.lt_of_lt_of_le hb hB.le)))
  cases y with
  | normal => exact fin hq
  | ret => exact fin hq
  | _ => exact hq.elim
/-- A calm function's contract: by another walk. -/
theorem T_of_ret {f : FuncId} {args : List Value} {x : Value} (hi : P.inits.idxOf? f = none) (ha : ∀ v ∈ args, Ext w0.heap.size v) (hx : Ext w0.heap.size x) (h : ∀ w, Kept none' w0 w → Ret P f args w fun v w' => v = x ∧ Kept none' w w') : T P w0 f args = some x :=
  T_eq ⟨hi, ha, hx, h⟩
/-- And back. -/
theorem ret_of_T {f : FuncId} {args : List Value} {x : Value} (h : T P w0 f args = some x) : Ret P f args w0 fun v w' => v = x ∧ Kept none' w0 w' := T_ret h (Kept.refl _ _)
end
end Go.Eng
