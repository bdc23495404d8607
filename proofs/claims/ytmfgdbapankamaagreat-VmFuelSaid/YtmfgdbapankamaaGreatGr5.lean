/- Engine, part L: a walk through a command, one item at a time. -/
import Derived.Test.YtmfgdbapankamaaGreatGr4
set_option linter.unusedSimpArgs false
set_option linter.unusedVariables false
namespace Go.Eng
inductive It where
  | c (c : Cmd)
  | blk (id : Nat)
  | post (K : Env → World → Prop)
def Wx (P : Program) (R : Env → World → Prop) : List It → Exit → Env → World → Prop
  | [], .normal => R
  | [], .ret => R
  | [], _ => fun _ _ => False
  | .c c :: k, .normal => c.wp P (Wx P R k)
  | .c _ :: k, x => Wx P R k x
  | .blk _ :: k, .normal => Wx P R k .normal
  | .blk id :: k, .exit id' => if id' = id then Wx P R k .normal else Wx P R k (.exit id')
  | .blk _ :: k, x => Wx P R k x
  | .post K :: k, .normal => K
  | .post _ :: k, x => Wx P R k x
def W (P : Program) (R : Env → World → Prop) (k : List It) (env : Env) (w : World) : Prop := Wx P R k .normal env w
section
variable {P : Program} {R : Env → World → Prop} {k : List It} {env : Env} {w : World}
theorem Wx_ret : ∀ (k : List It), Wx P R k .ret = R
  | [] => rfl
  | .c _ :: k => Wx_ret k
  | .blk _ :: k => Wx_ret k
  | .post _ :: k => Wx_ret k
theorem Wx_c (c : Cmd) (k : List It) : Wx P R (.c c :: k) = thenTo (c.wp P (Wx P R k)) (Wx P R k) := by
  funext x; cases x <;> rfl
theorem Wx_blk (id : Nat) (k : List It) : Wx P R (.blk id :: k) = blockTo id (Wx P R k) := by
  funext x; cases x <;> rfl
@[simp] theorem W_nil : W P R [] env w = R env w := hide rfl
@[simp] theorem W_blk (id : Nat) : W P R (.blk id :: k) env w = W P R k env w := hide rfl
@[simp] theorem W_post (K : Env → World → Prop) : W P R (.post K :: k) env w = K env w := hide rfl
@[simp] theorem W_skip : W P R (.c .skip :: k) env w = W P R k env w := hide rfl
@[simp] theorem W_seq (a b : Cmd) : W P R (.c (.seq a b) :: k) env w = W P R (.c a :: .c b :: k) env w := by
  show a.wp P (thenTo (b.wp P (Wx P R k)) (Wx P R k)) env w = a.wp P (Wx P R (.c b :: k)) env w
  rw [Wx_c]
@[simp] theorem W_block (id : Nat) (a : Cmd) : W P R (.c (.block id a) :: k) env w = W P R (.c a :: .blk id :: k) env w := by
  show a.wp P (blockTo id (Wx P R k)) env w = a.wp P (Wx P R (.blk id :: k)) env w
  rw [Wx_blk]
@[simp] theorem W_ret : W P R (.c .ret :: k) env w = R env w := by
  show Wx P R k .ret env w = _
  rw [Wx_ret]
@[simp] theorem W_exit (id : Nat) : W P R (.c (.exit id) :: k) env w = Wx P R k (.exit id) env w := hide rfl
@[simp] theorem Wx_exit_c (id : Nat) (c : Cmd) : Wx P R (.c c :: k) (.exit id) env w = Wx P R k (.exit id) env w := hide rfl
@[simp] theorem Wx_exit_post (id : Nat) (K : Env → World → Prop) : Wx P R (.post K :: k) (.exit id) env w = Wx P R k (.exit id) env w := hide rfl
@[simp] theorem Wx_exit_blk (id id' : Nat) : Wx P R (.blk id :: k) (.exit id') env w = if id' = id then W P R k env w else Wx P R k (.exit id') env w := by
  show (if id' = id then Wx P R k .normal else Wx P R k (.exit id')) env w = _
  split <;> rfl
@[simp] theorem W_set (i : Nat) (e : Ex) : W P R (.c (.set i e) :: k) env w = Ok (e.ev env w) fun v => W P R k (env.set i v) w := hide rfl
@[simp] theorem W_chk (es : List Ex) : W P R (.c (.chk es) :: k) env w = Ok (evs env w es) fun _ => W P R k env w := hide rfl
@[simp] theorem W_clr (l : List Nat) : W P R (.c (.clr l) :: k) env w = W P R k (l.foldl (fun env i => env.set i undef) env) w := hide rfl
@[simp] theorem W_draw : W P R (.c .draw :: k) env w = W P R k env w.drew := hide rfl
@[simp] theorem W_new (dst : Option Nat) (T : TypeId) (e : Ex) (st : List Ex) : W P R (.c (.new dst T e st) :: k) env w =
    Ok (e.ev env w) fun v => W P R k (setO dst env (.pointer (some ⟨w.heap.size, 0, none⟩))) (w.alloc (.cells v.cells T)) := hide rfl
@[simp] theorem W_row (dst : Option Nat) (T : TypeId) (n : Nat) (e : Ex) (st : List Ex) : W P R (.c (.row dst T n e st) :: k) env w =
    Ok (e.ev env w) fun v => W P R k (setO dst env (.slice (some ⟨w.heap.size, 0, none⟩) n n)) (w.alloc (.cells v.cells T)) := hide rfl
theorem W_cond_eq (e : Ex) (a b : Cmd) : W P R (.c (.cond e a b) :: k) env w = Ok (e.ev env w) fun v => condTo v (W P R (.c a :: k) env w) (W P R (.c b :: k) env w) := rfl
theorem W_alt (a b : Cmd) : W P R (.c (.alt a b) :: k) env w = (W P R (.c a :: k) env w ∧ W P R (.c b :: k) env w) := rfl
@[simp] theorem condTo_bool (b : Bool) (A B : Prop) : condTo (.bool b) A B = if b = true then A else B := hide rfl
theorem W_cond {e : Ex} {a b : Cmd} {t : Bool} (he : e.ev env w = some (.bool t)) (h1 : t = true → W P R (.c a :: k) env w) (h2 : t = false → W P R (.c b :: k) env w) :
    W P R (.c (.cond e a b) :: k) env w := by
  rw [W_cond_eq, he]
  cases t
  · simpa using h2 rfl
  · simpa using h1 rfl
theorem W_yes {e : Ex} {a b : Cmd} (he : e.ev env w = some (.bool true)) (h : W P R (.c a :: k) env w) : W P R (.c (.cond e a b) :: k) env w :=
  W_cond he (fun _ => h) (fun h => by cases h)
theorem W_no {e : Ex} {a b : Cmd} (he : e.ev env w = some (.bool false)) (h : W P R (.c b :: k) env w) : W P R (.c (.cond e a b) :: k) env w :=
  W_cond he (fun h => by cases h) (fun _ => h)
theorem W_store {n : Nat} {x v : Ex} {st : List Ex} {xv vv : Value} {w' : World} (hx : x.ev env w = some xv) (hv : v.ev env w = some vv) (hs : stv w n xv vv = some w')
    (hst : Stab st env w w') (h : W P R k env w') : W P R (.c (.store n x v st) :: k) env w := by
  show Ok (x.ev env w) _
  rw [hx, Ok_some, hv, Ok_some, hs, Ok_some]
  exact ⟨hst, h⟩
theorem stab_nil (env : Env) (w w' : World) : Stab [] env w w' := fun e he => by cases he
theorem W_call {dst : Option Nat} {f : FuncId} {args : List Ex} {st : List Ex} {vs : List Value} {F : Value → World → Prop} (ha : evs env w args = some vs) (hc : Ret P f vs w F)
    (h : ∀ v w', F v w' → Stab st env w w' ∧ W P R k (setO dst env v) w') : W P R (.c (.call dst f args st) :: k) env w := by
  show Ok (evs env w args) _
  rw [ha, Ok_some]
  exact hc.mono h
theorem W_call0 {dst : Option Nat} {f : FuncId} {args : List Ex} {vs : List Value} {F : Value → World → Prop} (ha : evs env w args = some vs) (hc : Ret P f vs w F)
    (h : ∀ v w', F v w' → W P R k (setO dst env v) w') : W P R (.c (.call dst f args []) :: k) env w :=
  W_call ha hc fun v w' hF => ⟨stab_nil _ _ _, h v w' hF⟩
theorem W_dyn {dst : Option Nat} {f : Ex} {args : List Ex} {st : List Ex} {g : FuncId} {first cap : Array Value} {vs : List Value} {F : Value → World → Prop} (hf : f.ev env w = some (.func (.func g) first cap))
    (ha : evs env w args = some vs) (hg : funOk P g = true) (hc : Ret P g (first.toList ++ vs ++ cap.toList) w F)
    (h : ∀ v w', F v w' → Stab st env w w' ∧ W P R k (setO dst env v) w') : W P R (.c (.dyn dst f args st) :: k) env w := by
  show Ok (f.ev env w) _
  rw [hf, Ok_some, ha, Ok_some]
  refine ⟨hg, ?_⟩
  have : (first ++ vs.toArray ++ cap) = (first.toList ++ vs ++ cap.toList).toArray := by simp
  rw [this]
  exact hc.mono h
theorem W_bi {dst : Option Nat} {b : Builtin} {ats : List TypeId} {ty : TypeId} {args : List Ex} {st : List Ex} {vs : List Value} {v : Value} {w' : World} (ha : evs env w args = some vs)
    (hr : (builtin b ats.toArray ty #[] vs.toArray).run P w = .ok (.value v) w') (hst : Stab st env w w') (h : W P R k (setO dst env v) w') : W P R (.c (.bi dst b ats ty args st) :: k) env w := by
  show Ok (evs env w args) _
  rw [ha, Ok_some, hr]
  exact ⟨hst, h⟩
theorem W_sem {dst : Option Nat} {g : Tag} {args : List Ex} {st : List Ex} {vs : List Value} {v : Value} {w' : World} (ha : evs env w args = some vs)
    (hr : (g.sem vs).run P w = .ok v w') (hst : Stab st env w w') (h : W P R k (setO dst env v) w') : W P R (.c (.sem dst g args st) :: k) env w := by
  show Ok (evs env w args) _
  rw [ha, Ok_some]
  unfold RunTo
  rw [hr]
  exact ⟨hst, h⟩
theorem W_loop {ks : List Nat} {a : Cmd} (I : Env → World → Prop) (m : Env → World → Nat) (h0 : I (mask ks env) w)
    (h : ∀ env w, I env w → W P R (.c a :: .post (fun env' w' => I (mask ks env') w' ∧ m (mask ks env') w' < m env w) :: k) env w) : W P R (.c (.loop ks a) :: k) env w := by
  refine ⟨I, m, h0, fun env w hI => ?_⟩
  have := h env w hI
  refine Cmd.wp_mono a (fun x env w h => ?_) this
  cases x <;> exact h
theorem W_cut {a : Cmd} (K : Env → World → Prop) (h : W P R (.c a :: .post K :: k) env w) (hk : ∀ env w, K env w → W P R k env w) : W P R (.c a :: k) env w := by
  refine Cmd.wp_mono a (fun x env w h => ?_) h
  cases x <;> first | exact hk _ _ h | exact h
def Fin (rs : List Ex) (F : Value → World → Prop) (env : Env) (w : World) : Prop := Ok (evs env w rs) fun vs => F (resV vs) w
@[simp] theorem Fin_eq (rs : List Ex) (F : Value → World → Prop) (env : Env) (w : World) : Fin rs F env w = Ok (evs env w rs) fun vs => F (resV vs) w := hide rfl
theorem ret_of_W {V : List Nat} {f : FuncId} {fn : Func} {ks : List (List Nat)} {cmd : Cmd} {rs : List Ex} {args : List Value} {F : Value → World → Prop}
    (hf : P.funcs[f]? = some fn) (hn : Nat.ble args.length fn.ntmps = true) (hc : compile P fn V ks = some (cmd, rs))
    (hw : W P (Fin rs F) [.c cmd] (env0 V args) w) : Ret P f args w F := by
  refine ret_of_cmd hf (Nat.le_of_ble_eq_true hn) hc (Cmd.wp_mono cmd (fun x env w h => ?_) hw)
  cases x <;> exact h
theorem Ret.mono {f : FuncId} {args : List Value} {F F' : Value → World → Prop} (h : Ret P f args w F) (hF : ∀ v w', F v w' → F' v w') : Ret P f args w F' := CallTo.mono h hF
theorem Ret.calls {f : FuncId} {args : List Value} {F : Value → World → Prop} (h : Ret P f args w F) : Calls P f args.toArray w fun e w' => ∃ v, e = .returned v ∧ F v w' := h
end
def maskFrom (ks : List Nat) : Nat → Env → Env
  | _, [] => []
  | i, v :: r => (if ks.contains i then v else undef) :: maskFrom ks (i + 1) r
theorem maskFrom_eq (ks : List Nat) : ∀ (env : Env) (i : Nat), maskFrom ks i env = env.mapIdx fun j v => if ks.contains (i + j) then v else undef
  | [], i => rfl
  | v :: r, i => by
    simp only [maskFrom, List.mapIdx_cons, Nat.add_zero, maskFrom_eq ks r (i + 1)]
    congr 1
    apply List.ext_getElem?
    intro j
    simp only [List.getElem?_mapIdx]
    congr 1
    funext v
    rw [show i + 1 + j = i + (j + 1) from by omega]
@[simp] theorem mask_from (ks : List Nat) (env : Env) : mask ks env = maskFrom ks 0 env := by
  rw [maskFrom_eq]; simp [mask]
@[simp] theorem maskFrom_nil (ks : List Nat) (i : Nat) : maskFrom ks i [] = [] := rfl
@[simp] theorem maskFrom_cons (ks : List Nat) (i : Nat) (v : Value) (r : Env) : maskFrom ks i (v :: r) = (if ks.contains i then v else undef) :: maskFrom ks (i + 1) r := rfl
def natAt (env : Env) (i : Nat) : Nat :=
  match env[i]? with
  | some (.int _ n) => n.toNat
  | _ => 0
@[simp] theorem natAt_eq (env : Env) (i : Nat) (k : IntKind) (n : Int) (h : env[i]? = some (.int k n)) : natAt env i = n.toNat := by simp [natAt, h]
attribute [simp] Ex.ev evs U1.ap U2.ap U3.ap setO env0
@[simp] theorem resV_one (v : Value) : resV [v] = v := rfl
@[simp] theorem resV_none : resV [] = .tuple #[] := rfl
@[simp] theorem resV_two (u v : Value) (r : List Value) : resV (u :: v :: r) = .tuple (u :: v :: r).toArray := rfl
@[simp] theorem binV_int (op : BinOp) (k k' : IntKind) (a b : Int) : binV op (.int k a) (.int k' b) = intBin op k a k' b := rfl
@[simp] theorem binV_string (op : BinOp) (a b : ByteArray) : binV op (.string a) (.string b) = strBin op a b := rfl
@[simp] theorem unV_neg (k : IntKind) (n : Int) : unV .neg (.int k n) = some (.int k (k.wrap (0 - n))) := rfl
@[simp] theorem unV_xor (k : IntKind) (n : Int) : unV .xor (.int k n) = some (.int k (k.wrap (BitVec.ofInt k.bits (if k.signed then -1 else k.max) ^^^ BitVec.ofInt k.bits n).toNat)) := rfl
@[simp] theorem unV_not (b : Bool) : unV .not (.bool b) = some (.bool !b) := rfl
@[simp] theorem convV_int (k k' : IntKind) (n : Int) : convV k (.int k' n) = some (.int k (k.wrap n)) := rfl
@[simp] theorem cstrV_string (s : ByteArray) : cstrV (.string s) = some (.string s) := rfl
@[simp] theorem projV_tuple (i : Nat) (vs : Array Value) : projV i (.tuple vs) = vs[i]? := rfl
@[simp] theorem partOf_agg (sz : Option Nat) (off : Nat) (cs : Array Value) : partOf sz off (.agg cs) = partV sz off cs := rfl
@[simp] theorem partV_none (off : Nat) (cs : Array Value) : partV none off cs = cs[off]? := rfl
@[simp] theorem partV_some (n off : Nat) (cs : Array Value) : partV (some n) off cs = some (.agg (cs.extract off (off + n))) := rfl
@[simp] theorem idxAggV_agg (sz : Option Nat) (esz n : Nat) (cs : Array Value) (k : IntKind) (i : Int) : idxAggV sz esz n (.agg cs) (.int k i) = if 0 ≤ i ∧ i < n then partV sz (i.toNat * esz) cs else none := rfl
@[simp] theorem idxStrV_string (s : ByteArray) (k : IntKind) (i : Int) : idxStrV (.string s) (.int k i) = if 0 ≤ i then (s.data[i.toNat]?).map fun b => .int .u8 b.toNat else none := rfl
@[simp] theorem offpV_some (k b off : Nat) : offpV k (.pointer (some ⟨b, off, none⟩)) = some (.pointer (some ⟨b, off + k, none⟩)) := rfl
@[simp] theorem nnV_some (a : Addr) : nnV (.pointer (some a)) = some (.pointer (some a)) := rfl
@[simp] theorem nnV_func (f : FuncId) (x y : Array Value) : nnV (.func (.func f) x y) = some (.func (.func f) x y) := rfl
@[simp] theorem ixArrV_some (n esz b off : Nat) (k : IntKind) (i : Int) : ixArrV n esz (.pointer (some ⟨b, off, none⟩)) (.int k i) = if 0 ≤ i ∧ i < n then some (.pointer (some ⟨b, off + i.toNat * esz, none⟩)) else none := rfl
@[simp] theorem ixSlV_some (esz b off n c : Nat) (k : IntKind) (i : Int) : ixSlV esz (.slice (some ⟨b, off, none⟩) n c) (.int k i) = if 0 ≤ i ∧ i < n then some (.pointer (some ⟨b, off + i.toNat * esz, none⟩)) else none := rfl
@[simp] theorem slArrV_some (n esz b off : Nat) (k k' : IntKind) (l h : Int) : slArrV n esz (.pointer (some ⟨b, off, none⟩)) (.int k l) (.int k' h) =
    if 0 ≤ l ∧ l ≤ h ∧ h ≤ n then some (.slice (some (if n = l.toNat then ⟨b, off, none⟩ else ⟨b, off + l.toNat * esz, none⟩)) (h.toNat - l.toNat) (n - l.toNat)) else none := rfl
@[simp] theorem slSlV_some (esz b off n cap : Nat) (k k' : IntKind) (l h : Int) : slSlV esz (.slice (some ⟨b, off, none⟩) n cap) (.int k l) (.int k' h) =
    if 0 ≤ l ∧ l ≤ h ∧ h ≤ cap then some (.slice (some (if cap = l.toNat then ⟨b, off, none⟩ else ⟨b, off + l.toNat * esz, none⟩)) (h.toNat - l.toNat) (cap - l.toNat)) else none := by
  simp only [slSlV, add_none]
@[simp] theorem slSlV_none (esz n cap : Nat) (k k' : IntKind) (l h : Int) : slSlV esz (.slice none n cap) (.int k l) (.int k' h) =
    if 0 ≤ l ∧ l ≤ h ∧ h ≤ cap then some (.slice none (h.toNat - l.toNat) (cap - l.toNat)) else none := rfl
@[simp] theorem slStrV_string (s : ByteArray) (k k' : IntKind) (l h : Int) : slStrV (.string s) (.int k l) (.int k' h) = if 0 ≤ l ∧ l ≤ h ∧ h ≤ s.size then some (.string (s.extract l.toNat h.toNat)) else none := rfl
@[simp] theorem lenV_string (s : ByteArray) : lenV true (.string s) = some (.int .i64 s.size) := rfl
@[simp] theorem lenV_slice (a : Option Addr) (n c : Nat) : lenV false (.slice a n c) = some (.int .i64 n) := rfl
@[simp] theorem updV_agg (off sz : Nat) (cs : Array Value) (v : Value) : updV off sz (.agg cs) v = if v.cells.size = sz ∧ off + v.cells.size ≤ cs.size then some (.agg (setRow cs off v.cells.toList)) else none := rfl
@[simp] theorem setRow_nil (cs : Array Value) (off : Nat) : setRow cs off [] = cs := rfl
@[simp] theorem setRow_cons (cs : Array Value) (off : Nat) (v : Value) (r : List Value) : setRow cs off (v :: r) = setRow (cs.setIfInBounds off v) (off + 1) r := rfl
@[simp] theorem fst1V_func (f : Fn) (x y : Array Value) (v : Value) : fst1V (.func f x y) v = some (.func f (x.push v) y) := rfl
@[simp] theorem cap1V_func (f : Fn) (x y : Array Value) (v : Value) : cap1V (.func f x y) v = some (.func f x (y.push v)) := rfl
@[simp] theorem mnV_int (k k' : IntKind) (x y : Int) : mnV (.int k x) (.int k' y) = some (.int k (if y < x then y else x)) := rfl
@[simp] theorem mxV_int (k k' : IntKind) (x y : Int) : mxV (.int k x) (.int k' y) = some (.int k (if y > x then y else x)) := rfl
@[simp] theorem nilV_p (ne : Bool) : nilV 0 ne (.pointer none) = some (.bool (!ne)) := by simp [nilV]
@[simp] theorem nilV_p' (ne : Bool) (a : Addr) : nilV 0 ne (.pointer (some a)) = some (.bool ne) := by simp [nilV]
@[simp] theorem nilV_s (ne : Bool) (n c : Nat) : nilV 1 ne (.slice none n c) = some (.bool (!ne)) := by simp [nilV]
@[simp] theorem nilV_s' (ne : Bool) (a : Addr) (n c : Nat) : nilV 1 ne (.slice (some a) n c) = some (.bool ne) := by simp [nilV]
@[simp] theorem nilV_f (ne : Bool) : nilV 2 ne .nilFunc = some (.bool (!ne)) := rfl
@[simp] theorem nilV_f' (ne : Bool) (f : Fn) (x y : Array Value) : nilV 2 ne (.func f x y) = some (.bool ne) := rfl
@[simp] theorem nilV_i (ne : Bool) : nilV 3 ne .nilIface = some (.bool (!ne)) := rfl
@[simp] theorem nilV_i' (ne : Bool) (t : TypeId) (v : Value) : nilV 3 ne (.iface t v) = some (.bool ne) := rfl
@[simp] theorem pickV_true (a b : Option Value) : pickV (.bool true) a b = a := rfl
@[simp] theorem pickV_false (a b : Option Value) : pickV (.bool false) a b = b := rfl
@[simp] theorem pickV_or (c y : Bool) : pickV (.bool c) (some (.bool true)) (some (.bool y)) = some (.bool (c || y)) := by cases c <;> rfl
@[simp] theorem pickV_and (c x : Bool) : pickV (.bool c) (some (.bool x)) (some (.bool false)) = some (.bool (c && x)) := by cases c <;> rfl
@[simp] theorem eqv_int (w : World) (k : IntKind) (a b : Int) : eqv w .int (.int k a) (.int k b) = some (a == b) := by simp [eqv]
@[simp] theorem eqv_bool (w : World) (a b : Bool) : eqv w .bool (.bool a) (.bool b) = some (a == b) := rfl
@[simp] theorem eqv_str (w : World) (a b : ByteArray) : eqv w .str (.string a) (.string b) = some (a.data.toList == b.data.toList) := rfl
@[simp] theorem eqv_ptr (w : World) (a b : Option Addr) : eqv w .ptr (.pointer a) (.pointer b) = peqV w a b := rfl
@[simp] theorem eqv_nil (w : World) (a b : Array Value) : eqv w .nil (.agg a) (.agg b) = some true := rfl
theorem eqv_cons (w : World) (off : Nat) (sz : Option Nat) (d r : EqD) (xs ys : Array Value) (u v : Value) (b c : Bool) (hu : partV sz off xs = some u) (hv : partV sz off ys = some v)
    (hb : eqv w d u v = some b) (hc : eqv w r (.agg xs) (.agg ys) = some c) : eqv w (.cons off sz d r) (.agg xs) (.agg ys) = some (b && c) := by
  simp only [eqv, hu, hv, hb]
  cases b <;> simp [hc]
@[simp] theorem varV_int (k : IntKind) (n : Int) : varV (.int k n) = some (.int k n) := rfl
@[simp] theorem varV_bool (b : Bool) : varV (.bool b) = some (.bool b) := rfl
@[simp] theorem varV_pointer (p : Option Addr) : varV (.pointer p) = some (.pointer p) := rfl
@[simp] theorem varV_slice (p : Option Addr) (n c : Nat) : varV (.slice p n c) = some (.slice p n c) := rfl
@[simp] theorem varV_string (s : ByteArray) : varV (.string s) = some (.string s) := rfl
@[simp] theorem varV_agg (c : Array Value) : varV (.agg c) = some (.agg c) := rfl
@[simp] theorem varV_func (f : Fn) (a b : Array Value) : varV (.func f a b) = some (.func f a b) := rfl
@[simp] theorem varV_nilFunc : varV .nilFunc = some .nilFunc := rfl
@[simp] theorem varV_map (r : Option Nat) : varV (.map r) = some (.map r) := rfl
@[simp] theorem varV_tuple (v : Value) (r : List Value) : varV (.tuple ⟨v :: r⟩) = some (.tuple ⟨v :: r⟩) := rfl
@[simp] theorem cells_agg (c : Array Value) : (Value.agg c).cells = c := rfl
@[simp] theorem cells_int (k : IntKind) (n : Int) : (Value.int k n).cells = #[.int k n] := rfl
@[simp] theorem cells_bool (b : Bool) : (Value.bool b).cells = #[.bool b] := rfl
@[simp] theorem cells_pointer (p : Option Addr) : (Value.pointer p).cells = #[.pointer p] := rfl
@[simp] theorem cells_slice (p : Option Addr) (n c : Nat) : (Value.slice p n c).cells = #[.slice p n c] := rfl
@[simp] theorem cells_string (s : ByteArray) : (Value.string s).cells = #[.string s] := rfl
@[simp] theorem intBin_add (k : IntKind) (a b : Int) : intBin .add k a k b = some (.int k (k.wrap (a + b))) := by simp [intBin]
@[simp] theorem intBin_sub (k : IntKind) (a b : Int) : intBin .sub k a k b = some (.int k (k.wrap (a - b))) := by simp [intBin]
@[simp] theorem intBin_mul (k : IntKind) (a b : Int) : intBin .mul k a k b = some (.int k (k.wrap (a * b))) := by simp [intBin]
@[simp] theorem intBin_eql (k : IntKind) (a b : Int) : intBin .eql k a k b = some (.bool (decide (a = b))) := by simp only [intBin, if_true]; rfl
@[simp] theorem intBin_neq (k : IntKind) (a b : Int) : intBin .neq k a k b = some (.bool (!decide (a = b))) := by simp only [intBin, if_true]; rfl
@[simp] theorem intBin_lss (k : IntKind) (a b : Int) : intBin .lss k a k b = some (.bool (decide (a < b))) := by simp [intBin]
@[simp] theorem intBin_leq (k : IntKind) (a b : Int) : intBin .leq k a k b = some (.bool (decide (a ≤ b))) := by simp [intBin]
@[simp] theorem intBin_gtr (k : IntKind) (a b : Int) : intBin .gtr k a k b = some (.bool (decide (b < a))) := by simp [intBin]
@[simp] theorem intBin_geq (k : IntKind) (a b : Int) : intBin .geq k a k b = some (.bool (decide (b ≤ a))) := by simp [intBin]
def bitAnd (k : IntKind) (a b : Int) : Int := k.wrap (BitVec.ofInt k.bits a &&& BitVec.ofInt k.bits b).toNat
@[simp] theorem intBin_and (k : IntKind) (a b : Int) : intBin .and k a k b = some (.int k (bitAnd k a b)) := by simp only [intBin, if_true]; rfl
def bitOr (k : IntKind) (a b : Int) : Int := k.wrap (BitVec.ofInt k.bits a ||| BitVec.ofInt k.bits b).toNat
@[simp] theorem intBin_or (k : IntKind) (a b : Int) : intBin .or k a k b = some (.int k (bitOr k a b)) := by simp only [intBin, if_true]; rfl
def bitXor (k : IntKind) (a b : Int) : Int := k.wrap (BitVec.ofInt k.bits a ^^^ BitVec.ofInt k.bits b).toNat
@[simp] theorem intBin_xor (k : IntKind) (a b : Int) : intBin .xor k a k b = some (.int k (bitXor k a b)) := by simp only [intBin, if_true]; rfl
def bitAndNot (k : IntKind) (a b : Int) : Int := k.wrap (BitVec.ofInt k.bits a &&& ~~~BitVec.ofInt k.bits b).toNat
@[simp] theorem intBin_andNot (k : IntKind) (a b : Int) : intBin .andNot k a k b = some (.int k (bitAndNot k a b)) := by simp only [intBin, if_true]; rfl
@[simp] theorem intBin_quo (k : IntKind) (a b : Int) (h : b ≠ 0) : intBin .quo k a k b = some (.int k (k.wrap (a.tdiv b))) := by simp [intBin, h]
@[simp] theorem intBin_rem (k : IntKind) (a b : Int) (h : b ≠ 0) : intBin .rem k a k b = some (.int k (a.tmod b)) := by simp [intBin, h]
@[simp] theorem intBin_shl (k k' : IntKind) (a b : Int) (h : 0 ≤ b) : intBin .shl k a k' b = some (.int k (k.wrap (a * 2 ^ (min b.toNat k.bits)))) := by simp [intBin]; omega
@[simp] theorem intBin_shr (k k' : IntKind) (a b : Int) (h : 0 ≤ b) : intBin .shr k a k' b = some (.int k (a.fdiv (2 ^ (min b.toNat k.bits)))) := by simp [intBin]; omega
theorem hp_old {w : World} {b : Nat} {o : Obj} (h : w.heap[b]? = some o) (x : Obj) : (w.alloc x).heap[b]? = some o := HeapLe.alloc w x b o h
theorem hp_new (w : World) (x : Obj) : (w.alloc x).heap[w.heap.size]? = some x := by show (w.heap.push x)[w.heap.size]? = some x; simp
@[simp] theorem alloc_size (w : World) (x : Obj) : (w.alloc x).heap.size = w.heap.size + 1 := by show (w.heap.push x).size = _; simp
@[simp] theorem drew_heap (w : World) : w.drew.heap = w.heap := rfl
theorem blk_lt {w : World} {b : Nat} {o : Obj} (h : w.heap[b]? = some o) : b < w.heap.size := (Array.getElem?_eq_some_iff.1 h).1
def put (w : World) (b : Nat) (o : Obj) : World := { w with heap := w.heap.setIfInBounds b o }
theorem put_same {w : World} {b : Nat} {o : Obj} (h : b < w.heap.size) : (put w b o).heap[b]? = some o := by simp [put, h]
theorem put_other {w : World} {b b' : Nat} {o : Obj} (h : b' ≠ b) : (put w b o).heap[b']? = w.heap[b']? := by
  simp only [put]; rw [Array.getElem?_setIfInBounds_ne (Ne.symm h)]
@[simp] theorem put_size (w : World) (b : Nat) (o : Obj) : (put w b o).heap.size = w.heap.size := by simp [put]
@[simp] theorem wcell_new (w : World) (c : Array Value) (T : TypeId) (fz : Nat × Nat) (off : Nat) : wcell (w.alloc (.cells c T fz)) w.heap.size off = c[off]? := by
  simp only [wcell, hp_new]
@[simp] theorem wcell_old {w : World} {b : Nat} (h : b < w.heap.size) (o : Obj) (off : Nat) : wcell (w.alloc o) b off = wcell w b off := by
  simp only [wcell, RowKit.Below.heap_alloc w o b h]
@[simp] theorem wcell_drew (w : World) (b off : Nat) : wcell w.drew b off = wcell w b off := rfl
theorem wrow_new (w : World) (c : Array Value) (T : TypeId) (fz : Nat × Nat) (off n : Nat) (h : off + n ≤ c.size) : wrow (w.alloc (.cells c T fz)) w.heap.size off n = some (c.extract off (off + n)) := by
  simp only [wrow, hp_new, h, if_true]
@[simp] theorem wrow_all (w : World) (c : Array Value) (T : TypeId) (fz : Nat × Nat) (n : Nat) (h : n = c.size) : wrow (w.alloc (.cells c T fz)) w.heap.size 0 n = some c := by
  subst h; rw [wrow_new _ _ _ _ _ _ (by simp)]; simp
@[simp] theorem wrow_old {w : World} {b : Nat} (h : b < w.heap.size) (o : Obj) (off n : Nat) : wrow (w.alloc o) b off n = wrow w b off n := by
  simp only [wrow, RowKit.Below.heap_alloc w o b h]
@[simp] theorem wrow_drew (w : World) (b off n : Nat) : wrow w.drew b off n = wrow w b off n := rfl
theorem wcell_of {w : World} {b off : Nat} {c : Array Value} {T : TypeId} {fz : Nat × Nat} (h : w.heap[b]? = some (.cells c T fz)) : wcell w b off = c[off]? := by simp [wcell, h]
theorem wrow_of {w : World} {b off n : Nat} {c : Array Value} {T : TypeId} {fz : Nat × Nat} (h : w.heap[b]? = some (.cells c T fz)) (hn : off + n ≤ c.size) : wrow w b off n = some (c.extract off (off + n)) := by simp [wrow, h, hn]
@[simp] theorem ldv_cell (w : World) (b off : Nat) : ldv w none (.pointer (some ⟨b, off, none⟩)) = wcell w b off := rfl
@[simp] theorem ldv_row (w : World) (b off n : Nat) : ldv w (some n) (.pointer (some ⟨b, off, none⟩)) = (wrow w b off n).map .agg := rfl
theorem stv_of {w : World} {n b off : Nat} {v : Value} {c : Array Value} {T : TypeId} {fz : Nat × Nat} (h : w.heap[b]? = some (.cells c T fz)) (h1 : v.cells.size = n) (h2 : off + n ≤ c.size) (h3 : fz.2 ≤ fz.1 ∨ off + n ≤ fz.1)
    (h4 : v.cells.all (·.oneCell') = true) : stv w n (.pointer (some ⟨b, off, none⟩)) v = some (put w b (.cells (setRow c off v.cells.toList) T fz)) := by
  subst h1
  simp only [stv, h, h2, h4, and_self, and_true, true_and, if_true, h3, put]
structure Kept (S : Nat → Prop) (w w' : World) : Prop where
  os : w'.os = w.os
  tape : w'.tape = w.tape
  output : w'.output = w.output
  size : w.heap.size ≤ w'.heap.size
  block : ∀ k, k < w.heap.size → ¬ S k → w'.heap[k]? = w.heap[k]?
def none' : Nat → Prop := fun _ => False
theorem Kept.refl (S : Nat → Prop) (w : World) : Kept S w w := ⟨rfl, rfl, rfl, Nat.le_refl _, fun _ _ _ => rfl⟩
theorem Kept.trans {S : Nat → Prop} {a b c : World} (h : Kept S a b) (k : Kept S b c) : Kept S a c :=
  ⟨k.os.trans h.os, k.tape.trans h.tape, k.output.trans h.output, Nat.le_trans h.size k.size, fun i hi hs => (k.block i (Nat.lt_of_lt_of_le hi h.size) hs).trans (h.block i hi hs)⟩
theorem Kept.then {S S' : Nat → Prop} {a b c : World} (h : Kept S a b) (k : Kept S' b c) (hs : ∀ i, i < a.heap.size → S' i → S i) : Kept S a c :=
  ⟨k.os.trans h.os, k.tape.trans h.tape, k.output.trans h.output, Nat.le_trans h.size k.size, fun i hi hn => (k.block i (Nat.lt_of_lt_of_le hi h.size) (fun h' => hn (hs i hi h'))).trans (h.block i hi hn)⟩
theorem Kept.mono {S S' : Nat → Prop} {a b : World} (h : Kept S a b) (hs : ∀ i, i < a.heap.size → S i → S' i) : Kept S' a b :=
  ⟨h.os, h.tape, h.output, h.size, fun i hi hn => h.block i hi fun h' => hn (hs i hi h')⟩
theorem Kept.drew {S : Nat → Prop} {a w : World} (h : Kept S a w) : Kept S a w.drew := ⟨h.os, h.tape, h.output, h.size, h.block⟩
theorem Kept.alloc {S : Nat → Prop} {a w : World} (h : Kept S a w) (o : Obj) : Kept S a (w.alloc o) :=
  ⟨h.os, h.tape, h.output, by rw [alloc_size]; exact Nat.le_succ_of_le h.size, fun i hi hs => by
    rw [← h.block i hi hs]
    simp only [World.alloc, Array.getElem?_push]
    rw [if_neg (by have := h.size; omega)]⟩
theorem Kept.put {S : Nat → Prop} {a w : World} (h : Kept S a w) {b : Nat} (hb : b < a.heap.size → S b) (o : Obj) : Kept S a (put w b o) :=
  ⟨h.os, h.tape, h.output, by rw [put_size]; exact h.size, fun i hi hs => by
    rw [put_other (fun e => hs (by subst e; exact hb hi)), h.block i hi hs]⟩
theorem Kept.has {S : Nat → Prop} {w w' : World} (h : Kept S w w') {b : Nat} {o : Obj} (hb : w.heap[b]? = some o) (hs : ¬ S b) : w'.heap[b]? = some o := by
  rw [h.block b (blk_lt hb) hs]; exact hb
theorem Kept.below {S : Nat → Prop} {w w' : World} (h : Kept S w w') (hs : ∀ i, i < w.heap.size → ¬ S i) : RowKit.Below w.heap.size w w' :=
  ⟨h.os, h.tape, h.output, h.size, fun k hk => h.block k hk (hs k hk)⟩
end Go.Eng
