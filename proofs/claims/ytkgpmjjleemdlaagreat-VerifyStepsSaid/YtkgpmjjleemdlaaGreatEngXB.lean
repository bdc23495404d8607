/- Engine, part XB: commands, and how they are run. -/
import Derived.Test.YtkgpmjjleemdlaaGreatEngXA
set_option linter.unusedSimpArgs false
set_option linter.unusedVariables false
set_option linter.unusedSectionVars false
namespace Go.Eng

inductive XC where
  | skip
  | chk (es : List Ex)
  | set (i : Nat) (e : Ex)
  | clr (l : List Nat)
  | call (dst : Option Nat) (f : FuncId) (args st : List Ex)
  | dyn (dst : Option Nat) (f : Ex) (args st : List Ex)
  | app (dst : Option Nat) (T : TypeId) (sz : Nat) (x y : Ex) (st : List Ex)
  | copy (dst : Option Nat) (sz : Nat) (x y : Ex) (st : List Ex)
  | clear (z : List Value) (x : Ex) (st : List Ex)
  | mk (dst : Option Nat) (T : TypeId) (z : List Value) (n c : Ex) (st : List Ex)
  | bytes (dst : Option Nat) (T : TypeId) (x : Ex)
  | mkR (j : Nat) (dst : Nat) (T : TypeId) (z : List Value) (l c : Ex)
  | mkmap (dst : Option Nat) (k : IntKind) (st : List Ex)
  | cvs (dst : Option Nat) (x : Ex) (st : List Ex)
  | look (dst : Option Nat) (z : Value) (ok : Bool) (k : IntKind) (x i : Ex) (st : List Ex)
  | add64 (dst : Option Nat) (x y c : Ex) (st : List Ex)
  | upd (k : IntKind) (x i v : Ex) (st : List Ex)
  | mlen (dst : Option Nat) (x : Ex) (st : List Ex)
  | mdel (k : IntKind) (x i : Ex) (st : List Ex)
  | keys (dst : Option Nat) (x : Ex) (st : List Ex)
  | sl3n (x l h m : Ex) (st : List Ex)
  | store (n : Nat) (x v : Ex) (st : List Ex)
  | new (dst : Option Nat) (T : TypeId) (e : Ex)
  | row (dst : Option Nat) (T : TypeId) (n : Nat) (e : Ex)
  | resv (n : Nat)
  | newR (j : Nat) (dst : Nat) (T : TypeId) (e : Ex)
  | rowR (j : Nat) (dst : Nat) (T : TypeId) (n : Nat) (e : Ex)
  | seq (a b : XC)
  | cond (e : Ex) (a b : XC)
  | block (id : Nat) (a : XC)
  | loop (ks : List Nat) (a : XC)
  | exit (id : Nat)
  | ret

structure XF where
  np : Nat
  V : List Nat
  c : XC
  rs : List Ex
/-- The functions, by their numbers. -/
inductive XT where
  | nil
  | node (k : FuncId) (f : XF) (l r : XT)

noncomputable section
variable [Sy]
def XT.get (t : XT) (x : FuncId) : Option XF := XT.rec none (fun k f _ _ l r => Bool.rec (Bool.rec r l (Nat.ble x k)) (some f) (Nat.beq x k)) t

/-- What is left of a run. m: the next block's number; s: the next stamp; r: where the reserved blocks begin. -/
inductive XS where
  | bad
  | st (x : Exit) (env : Env) (h : HT) (m s r : Nat)
/-- What a call tells. -/
inductive XR where
  | bad
  | ok (v : Value) (h : HT) (m s : Nat)
abbrev SH := Env → HT → Nat → Nat → Nat → XS
abbrev CH := XF → List Value → HT → Nat → Nat → XR

/-- A slot is set. -/
def xset (d : Option Nat) (v : Value) (env : Env) (h : HT) (m s r : Nat) : XS := Option.rec (.st .normal env h m s r) (fun i => setK env i v fun env => .st .normal env h m s r) d
def hBad : SH := fun _ _ _ _ _ => .bad
def hSkip : SH := fun env h m s r => .st .normal env h m s r
def hChk (es : List Ex) : SH := fun env h m s r => Option.rec .bad (fun _ => .st .normal env h m s r) (xes h env es)
def hSet (i : Nat) (e : Ex) : SH := fun env h m s r => Option.rec .bad (fun v => setK env i v fun env => .st .normal env h m s r) (xe h env e)
def xclr (l : List Nat) : Env → (Env → XS) → XS := List.rec (fun env k => k env) (fun i _ ih env k => setK env i undef fun env => ih env k) l
def hClr (l : List Nat) : SH := fun env h m s r => xclr l env fun env => .st .normal env h m s r
/-- A block that was not written to keeps its stamp. -/
def stampOf (h : HT) (b : Nat) : Option Nat := match h.get b with
  | some (.cells _ _ s) => some s
  | _ => none
def eqN (a b : Option Nat) : Bool := Option.rec false (fun a => Option.rec false (fun b => Nat.beq a b) b) a
def isCh (v : Value) : Bool := match v with
  | .chan (some _) => true
  | _ => false
def stable1 (h h' : HT) (env : Env) (e : Ex) : Bool := match e with
  | .ld _ a => Option.rec false (fun v => vPtr v (fun b _ => eqN (stampOf h b) (stampOf h' b)) (isCh v)) (xe h env a)
  | _ => true
def stable (st : List Ex) (h h' : HT) (env : Env) : Bool := List.rec true (fun e _ ih => Bool.rec false ih (stable1 h h' env e)) st
def xarg (args : List Value) (V : List Nat) (k : Env → XR) : XR :=
  (List.rec (fun k => k []) (fun t _ ih k => Option.rec (ih fun env => k (undef :: env)) (fun v => ih fun env => k (v :: env)) (nth args t)) V : (Env → XR) → XR) k
def xres (vs : List Value) : Value := match vs with
  | [v] => v
  | vs => .tuple ⟨vs⟩
def hRes (rs : List Ex) (x : Exit) (env : Env) (h : HT) (m s r : Nat) : XR := match x with
  | .normal => Option.rec .bad (fun vs => .ok (xres vs) h m s) (xes h env rs)
  | .ret => Option.rec .bad (fun vs => .ok (xres vs) h m s) (xes h env rs)
  | _ => .bad
def afterCall (dst : Option Nat) (st : List Ex) (env : Env) (h : HT) (r : Nat) (x : XR) : XS := XR.rec .bad (fun v h' m s => Bool.rec .bad (xset dst v env h' m s r) (stable st h h' env)) x
def hCall (tab : XT) (R : CH) (dst : Option Nat) (f : FuncId) (args st : List Ex) : SH := fun env h m s r =>
  Option.rec .bad (fun vs => Option.rec .bad (fun F => afterCall dst st env h r (R F vs h m s)) (tab.get f)) (xes h env args)
def vFun {α : Type} (v : Value) (f : FuncId → List Value → List Value → α) (d : α) : α := match v with
  | .func (.func g) ⟨xs⟩ ⟨ys⟩ => f g xs ys
  | _ => d
def hDyn (tab : XT) (R : CH) (dst : Option Nat) (f : Ex) (args st : List Ex) : SH := fun env h m s r =>
  Option.rec .bad (fun fv => vFun fv (fun g xs ys => Option.rec .bad (fun vs => Option.rec .bad (fun F => appK vs ys fun vs => appK xs vs fun vs => afterCall dst st env h r (R F vs h m s)) (tab.get g)) (xes h env args)) .bad) (xe h env f)

/-- The cells of the first n elements. -/
def xfirst {α : Type} (h : HT) (sz n : Nat) (v : Value) (k : List Value → Option α) : Option α := vSl v
  (fun b o _ _ => Nat.rec (k []) (fun p _ => hCells h b (fun c _ _ => takeK (Nat.mul (Nat.succ p) sz) (dropL o c) k) none) n)
  none
def xlen (v : Value) : Option Nat := match v with
  | .slice _ n _ => some n
  | _ => none
/-- The same of all elements, of a row that the run didn't make, too. -/
def xlenY (v : Value) : Option Nat := Option.rec (xlen v) (fun l => some (lenL l)) (Sy.fr v)
def xrowY {α : Type} (h : HT) (sz n : Nat) (v : Value) (k : List Value → Option α) : Option α := Option.rec (xfirst h sz n v k) (fun l => Bool.rec none (k l) (Nat.beq sz (nat_lit 1))) (Sy.fr v)
/-- A block that may be written to (stamp 0: it may not). -/
def hWrite {α : Type} (h : HT) (b : Nat) (f : List Value → TypeId → α) (d : α) : α := hCells h b (fun c T s => Nat.rec d (fun _ _ => f c T) s) d
/-- append's outcome: a value, the memory, the next block and the next stamp. -/
structure XA where
  v : Value
  h : HT
  m : Nat
  s : Nat
def XA.out (dst : Option Nat) (st : List Ex) (env : Env) (h : HT) (r : Nat) (a : XA) : XS := XA.rec (fun v h' m s => Bool.rec .bad (xset dst v env h' m s r) (stable st h h' env)) a
/-- A new block behind an append. -/
def appNew (h : HT) (m s T sz n : Nat) (old new : List Value) : Option XA := Bool.rec none (Bool.rec none (appK old new fun cs => HT.setK h m (some (.cells cs T s)) fun h' => fN n fun n => fN (Nat.succ m) fun m' => fN (Nat.succ s) fun s' => fN (Nat.add capU sz) fun c => some ⟨.slice (some ⟨m, 0, none⟩) n c, h', m', s'⟩) (Nat.blt sz (nat_lit 1099511627776))) (Nat.ble n (nat_lit 1000000000))
/-- Cells that may be stored. -/
def oneL (l : List Value) : Bool := List.rec true (fun v _ ih => Bool.rec false ih v.oneCell') l
/-- Cells that may be stored, so many. -/
def oneIs (l : List Value) : Nat → Bool := List.rec (fun n => Nat.beq n (nat_lit 0)) (fun v _ ih n => Nat.rec false (fun p _ => Bool.rec false (ih p) v.oneCell') n) l
def app0 (x : Value) (h : HT) (m s : Nat) : Option XA := match x with
  | .slice _ n c => Bool.rec none (some ⟨x, h, m, s⟩) (Nat.ble n c)
  | _ => none
/-- The capacity isn't known: where so many cells are known there is room; else the old block is gone. -/
def appU (h : HT) (m s T sz b o n c k : Nat) (new : List Value) : Option XA := Bool.rec none
  (Nat.rec (motive := fun _ => Option XA) (hWrite h b (fun cs T' => fN (Nat.div (lenL cs) sz) fun B => Bool.rec (takeK (Nat.mul n sz) cs fun old => HT.setK h b none fun h => appNew h m s T sz (Nat.add n k) old new)
    (putK (Nat.mul n sz) new cs fun cs' => HT.setK h b (some (.cells cs' T' s)) fun h' => fN (Nat.add n k) fun n => fN (Nat.succ s) fun s' => fN (capN sz B) fun c => some ⟨.slice (some ⟨b, 0, none⟩) n c, h', m, s'⟩) (Nat.ble (Nat.add n k) B)) none) (fun _ _ => none) o) (Nat.beq (capS c) sz)
def appI (h : HT) (m s sz b o n c k : Nat) (new : List Value) : Option XA :=
  hWrite h b (fun cs T' => putK (Nat.add o (Nat.mul n sz)) new cs fun cs' => HT.setK h b (some (.cells cs' T' s)) fun h' => fN (Nat.add n k) fun n => fN (Nat.succ s) fun s' => some ⟨.slice (some ⟨b, o, none⟩) n c, h', m, s'⟩) none
def appMore (h : HT) (m s T sz k : Nat) (x : Value) (new : List Value) : Option XA :=
  vSl x (fun b o n c => Bool.rec (appU h m s T sz b o n c k new) (Bool.rec (xfirst h sz n x fun old => appNew h m s T sz (Nat.add n k) old new) (appI h m s sz b o n c k new) (Nat.ble (Nat.add n k) c)) (Nat.blt c capU))
    (match x with
      | .slice none 0 0 => appNew h m s T sz k [] new
      | _ => none)
def xapp (h : HT) (m s T sz : Nat) (x y : Value) : Option XA :=
  Option.rec none (fun k => Nat.rec (motive := fun _ => Option XA) (app0 x h m s) (fun p _ => fN (Nat.succ p) fun k => xrowY h sz k y fun new => Bool.rec none (appMore h m s T sz k x new) (oneL new)) k) (xlenY y)
def hApp (dst : Option Nat) (T : TypeId) (sz : Nat) (x y : Ex) (st : List Ex) : SH := fun env h m s r =>
  Option.rec .bad (fun u => Option.rec .bad (fun v => Option.rec .bad (XA.out dst st env h r) (xapp h m s T sz u v)) (xe h env y)) (xe h env x)
def repK (z : List Value) (n : Nat) : (List Value → Option XA) → Option XA := Nat.rec (fun k => k []) (fun _ ih k => ih fun l => appK z l k) n
def xclear (h : HT) (m s : Nat) (z : List Value) (x : Value) : Option XA := vSl x
  (fun b o n _ => Nat.rec (motive := fun _ => Option XA) (some ⟨undef, h, m, s⟩) (fun p _ => repK z (Nat.succ p) fun new => hWrite h b (fun cs T => putK o new cs fun cs' => HT.setK h b (some (.cells cs' T s)) fun h' => fN (Nat.succ s) fun s' => some ⟨undef, h', m, s'⟩) none) n) none
def hClear (z : List Value) (x : Ex) (st : List Ex) : SH := fun env h m s r =>
  Option.rec .bad (fun u => Option.rec .bad (XA.out none st env h r) (xclear h m s z u)) (xe h env x)
/-- copy, where elements have one cell each. -/
def xcopy (h : HT) (m s : Nat) (x y : Value) : Option XA := vSl x
  (fun b o l _ => vSl y (fun b2 o2 l2 _ => Nat.rec (motive := fun _ => Option XA) (some ⟨.int .i64 (.ofNat (nat_lit 0)), h, m, s⟩)
    (fun p _ => hCells h b2 (fun c2 _ _ => takeK (Nat.succ p) (dropL o2 c2) fun new => Bool.rec none (hWrite h b (fun cs T => putK o new cs fun cs' => HT.setK h b (some (.cells cs' T s)) fun h' => fN (Nat.succ s) fun s' => fN (Nat.succ p) fun n => some ⟨.int .i64 (.ofNat n), h', m, s'⟩) none) (oneL new)) none)
    (Bool.rec l l2 (Nat.ble l2 l))) none) none
def hCopy (dst : Option Nat) (x y : Ex) (st : List Ex) : SH := fun env h m s r =>
  Option.rec .bad (fun u => Option.rec .bad (fun v => Option.rec .bad (XA.out dst st env h r) (xcopy h m s u v)) (xe h env y)) (xe h env x)
def xmk (h : HT) (m s T : Nat) (z : List Value) (l c : Value) : Option XA := vNat l (fun l => vNat c (fun c => Bool.rec none (Bool.rec none (repK z c fun cs => HT.setK h m (some (.cells cs T s)) fun h' => fN (Nat.succ m) fun m' => fN (Nat.succ s) fun s' => some ⟨.slice (some ⟨m, 0, none⟩) l c, h', m', s'⟩) (Nat.ble c (nat_lit 100000))) (Nat.ble l c)) none) none
def hMk (dst : Option Nat) (T : TypeId) (z : List Value) (l c : Ex) (st : List Ex) : SH := fun env h m s r =>
  Option.rec .bad (fun u => Option.rec .bad (fun v => Option.rec .bad (XA.out dst st env h r) (xmk h m s T z u v)) (xe h env c)) (xe h env l)
def xstore (h : HT) (s n : Nat) (x v : Value) (k : HT → Nat → XS) : XS :=
  vPtr x (fun b o => hWrite h b (fun c T => Bool.rec .bad (Option.rec .bad (fun h' => fN (Nat.succ s) fun s' => k h' s') (putK o (xcells v) c fun c' => HT.setK h b (some (.cells c' T s)) some)) (oneIs (xcells v) n)) .bad) .bad
def hStore (n : Nat) (x v : Ex) (st : List Ex) : SH := fun env h m s r =>
  Option.rec .bad (fun u => Option.rec .bad (fun v => xstore h s n u v fun h' s' => Bool.rec .bad (.st .normal env h' m s' r) (stable st h h' env)) (xe h env v)) (xe h env x)
def hNew (dst : Option Nat) (T : TypeId) (e : Ex) : SH := fun env h m s r =>
  Option.rec .bad (fun v => HT.setK h m (some (.cells (xcells v) T s)) fun h' => fN (Nat.succ m) fun m' => fN (Nat.succ s) fun s' => xset dst (.pointer (some ⟨m, 0, none⟩)) env h' m' s' r) (xe h env e)
def hRow (dst : Option Nat) (T : TypeId) (n : Nat) (e : Ex) : SH := fun env h m s r =>
  Option.rec .bad (fun v => Bool.rec .bad (HT.setK h m (some (.cells (xcells v) T s)) fun h' => fN (Nat.succ m) fun m' => fN (Nat.succ s) fun s' => xset dst (.slice (some ⟨m, 0, none⟩) n n) env h' m' s' r) (Nat.blt n capU)) (xe h env e)
def xmkR (h : HT) (m s b T : Nat) (z : List Value) (l c : Value) : Option XA := vNat l (fun l => vNat c (fun c => Bool.rec none (Bool.rec none (repK z c fun cs => Option.rec (HT.setK h b (some (.cells cs T s)) fun h' => fN (Nat.succ s) fun s' => some ⟨.slice (some ⟨b, 0, none⟩) l c, h', m, s'⟩) (fun _ => none) (h.get b)) (Nat.ble c (nat_lit 100000))) (Nat.ble l c)) none) none
def hMkR (j dst : Nat) (T : TypeId) (z : List Value) (l c : Ex) : SH := fun env h m s r =>
  Option.rec .bad (fun u => Option.rec .bad (fun v => fN (Nat.add r j) fun b => Option.rec .bad (XA.out (some dst) [] env h r) (xmkR h m s b T z u v)) (xe h env c)) (xe h env l)
def hResv (n : Nat) : SH := fun env h m s _ => fN (Nat.add m n) fun m' => .st .normal env h m' s m
def hNewR (j dst : Nat) (T : TypeId) (e : Ex) : SH := fun env h m s r =>
  Option.rec .bad (fun v => fN (Nat.add r j) fun b => Option.rec (HT.setK h b (some (.cells (xcells v) T s)) fun h' => fN (Nat.succ s) fun s' => xset (some dst) (.pointer (some ⟨b, 0, none⟩)) env h' m s' r) (fun _ => .bad) (h.get b)) (xe h env e)
def hRowR (j dst : Nat) (T : TypeId) (n : Nat) (e : Ex) : SH := fun env h m s r =>
  Option.rec .bad (fun v => fN (Nat.add r j) fun b => Bool.rec .bad (Option.rec (HT.setK h b (some (.cells (xcells v) T s)) fun h' => fN (Nat.succ s) fun s' => xset (some dst) (.slice (some ⟨b, 0, none⟩) n n) env h' m s' r) (fun _ => .bad) (h.get b)) (Nat.blt n capU)) (xe h env e)
/-! Maps whose keys are numbers. -/
def vMap {α : Type} (v : Value) (f : Option Nat → α) (d : α) : α := match v with
  | .map r => f r
  | _ => d
def hMap {α : Type} (h : HT) (b : Nat) (f : IntKind → List (Int × Value) → Nat → α) (d : α) : α := match h.get b with
  | some (.map k es s) => f k es s
  | _ => d
def findI (k : Int) (es : List (Int × Value)) : Option Value := List.rec none (fun e _ ih => Bool.rec ih (some e.2) (ieq k e.1)) es
def updI (k : Int) (v : Value) (es : List (Int × Value)) (f : List (Int × Value) → Option XA) : Option XA :=
  (List.rec (fun f => f [(k, v)]) (fun e r ih f => Bool.rec (ih fun l => f (e :: l)) (f ((e.1, v) :: r)) (ieq k e.1)) es : (List (Int × Value) → Option XA) → Option XA) f
def xmkmap (h : HT) (m s : Nat) (k : IntKind) : Option XA := HT.setK h m (some (.map k [] s)) fun h' => fN (Nat.succ m) fun m' => fN (Nat.succ s) fun s' => some ⟨.map (some m), h', m', s'⟩
def lookV (z : Value) (ok : Bool) (o : Option Value) : Value := Bool.rec (Option.rec z (fun v => v) o) (Option.rec (.tuple ⟨[z, .bool false]⟩) (fun v => .tuple ⟨[v, .bool true]⟩) o) ok
def xlook (h : HT) (m s : Nat) (z : Value) (ok : Bool) (kt : IntKind) (x i : Value) : Option XA :=
  vInt i (fun kk n => Bool.rec none (vMap x (fun b => Option.rec (some ⟨lookV z ok none, h, m, s⟩) (fun b => hMap h b (fun k es _ => Bool.rec none (some ⟨lookV z ok (findI n es), h, m, s⟩) (Nat.beq (kix k) (kix kt))) none) b) none) (Nat.beq (kix kk) (kix kt))) none
def xupdm (h : HT) (m s : Nat) (kt : IntKind) (x i v : Value) : Option XA :=
  vInt i (fun kk n => Bool.rec none (vMap x (fun b => Option.rec none (fun b => hMap h b (fun k es t => Nat.rec (motive := fun _ => Option XA) none (fun _ _ => Bool.rec none (updI n v es fun es' => HT.setK h b (some (.map k es' s)) fun h' => fN (Nat.succ s) fun s' => some ⟨undef, h', m, s'⟩) (Nat.beq (kix k) (kix kt))) t) none) b) none) (Nat.beq (kix kk) (kix kt))) none
def lenE (es : List (Int × Value)) : Nat := List.rec (nat_lit 0) (fun _ _ ih => Nat.succ ih) es
def delI (k : Int) (es : List (Int × Value)) (f : List (Int × Value) → Option XA) : Option XA :=
  (List.rec (fun f => f []) (fun e r ih f => Bool.rec (ih fun l => f (e :: l)) (f r) (ieq k e.1)) es : (List (Int × Value) → Option XA) → Option XA) f
def xmlen (h : HT) (m s : Nat) (x : Value) : Option XA :=
  vMap x (fun b => Option.rec (some ⟨.int .i64 (.ofNat (nat_lit 0)), h, m, s⟩) (fun b => hMap h b (fun _ es _ => fN (lenE es) fun n => some ⟨.int .i64 (.ofNat n), h, m, s⟩) none) b) none
def xmdel (h : HT) (m s : Nat) (kt : IntKind) (x i : Value) : Option XA :=
  vInt i (fun kk n => Bool.rec none (vMap x (fun b => Option.rec none (fun b => hMap h b (fun k es t => Nat.rec (motive := fun _ => Option XA) none (fun _ _ => Bool.rec none (delI n es fun es' => HT.setK h b (some (.map k es' s)) fun h' => fN (Nat.succ s) fun s' => some ⟨undef, h', m, s'⟩) (Nat.beq (kix k) (kix kt))) t) none) b) none) (Nat.beq (kix kk) (kix kt))) none
/-- The keys of a map, sorted, in a new slice. -/
def insI (n : Int) (l : List Int) (k : List Int → Option XA) : Option XA := (List.rec (fun k => k [n]) (fun a r ih k => Bool.rec (ih fun s => k (a :: s)) (k (n :: a :: r)) (ile n a)) l : (List Int → Option XA) → Option XA) k
def sortI (es : List (Int × Value)) (k : List Int → Option XA) : Option XA := (List.rec (fun k => k []) (fun e _ ih k => ih fun s => insI e.1 s k) es : (List Int → Option XA) → Option XA) k
def intsK (l : List Int) (k : List Value → Option XA) : Option XA := (List.rec (fun k => k []) (fun n _ ih k => ih fun s => k (.int .i64 n :: s)) l : (List Value → Option XA) → Option XA) k
def i64ok (n : Int) : Bool := Bool.rec false (ile n (.ofNat (nat_lit 9223372036854775807))) (ile (.negSucc (nat_lit 9223372036854775807)) n)
def allI (l : List Int) : Bool := List.rec true (fun n _ ih => Bool.rec false ih (i64ok n)) l
def xkeys (h : HT) (m s : Nat) (x : Value) : Option XA :=
  vMap x (fun b => Option.rec none (fun b => hMap h b (fun k es _ => Bool.rec none (sortI es fun l => Bool.rec none (intsK l fun cs => List.rec (motive := fun _ => Option XA) (some ⟨.slice none 0 0, h, m, s⟩) (fun _ _ _ => appNew h m s (nat_lit 0) (nat_lit 1) (lenL cs) [] cs) cs) (allI l)) (Nat.beq (kix k) (nat_lit 3))) none) b) none
def xadd (h : HT) (m s : Nat) (x y c : Value) : Option XA :=
  vInt x (fun k x => vInt y (fun k' y => vInt c (fun k'' c => Bool.rec none (Bool.rec none (Bool.rec none
    (Int.rec (fun x => Int.rec (fun y => Int.rec (fun c => Bool.rec none (fN (Nat.add (Nat.add x y) c) fun n => fN (Nat.mod n (nat_lit 18446744073709551616)) fun a => fN (Nat.div n (nat_lit 18446744073709551616)) fun b => some ⟨.tuple ⟨[.int .u64 (.ofNat a), .int .u64 (.ofNat b)]⟩, h, m, s⟩) (Nat.ble c (nat_lit 1))) (fun _ => none) c) (fun _ => none) y) (fun _ => none) x)
    (Nat.beq (kix k) (nat_lit 7))) (Nat.beq (kix k') (nat_lit 7))) (Nat.beq (kix k'') (nat_lit 7))) none) none) none
/-- A string's bytes, in a new block that is not written to. -/
def bytesK (l : List UInt8) (k : List Value → Option XA) : Option XA := (List.rec (fun k => k []) (fun b _ ih k => fN b.toNat fun n => ih fun s => k (.int .u8 (.ofNat n) :: s)) l : (List Value → Option XA) → Option XA) k
def xcvs (h : HT) (m s : Nat) (v : Value) : Option XA := match v with
  | .string ⟨⟨l⟩⟩ => bytesK l fun cs => fN (lenL cs) fun n => Bool.rec none (HT.setK h m (some (.cells cs 0 0)) fun h' => fN (Nat.succ m) fun m' => fN (Nat.succ s) fun s' => fN (Nat.add capU (nat_lit 1)) fun c => some ⟨.slice (some ⟨m, 0, none⟩) n c, h', m', s'⟩) (Nat.ble n (nat_lit 1000000000))
  | _ => none
def hCvs (dst : Option Nat) (x : Ex) (st : List Ex) : SH := fun env h m s r => Option.rec .bad (fun u => Option.rec .bad (XA.out dst st env h r) (xcvs h m s u)) (xe h env x)
def hMkmap (dst : Option Nat) (k : IntKind) (st : List Ex) : SH := fun env h m s r => Option.rec .bad (XA.out dst st env h r) (xmkmap h m s k)
def hLook (dst : Option Nat) (z : Value) (ok : Bool) (kt : IntKind) (x i : Ex) (st : List Ex) : SH := fun env h m s r =>
  Option.rec .bad (fun u => Option.rec .bad (fun v => Option.rec .bad (XA.out dst st env h r) (xlook h m s z ok kt u v)) (xe h env i)) (xe h env x)
def hUpd (kt : IntKind) (x i v : Ex) (st : List Ex) : SH := fun env h m s r =>
  Option.rec .bad (fun u => Option.rec .bad (fun k => Option.rec .bad (fun v => Option.rec .bad (XA.out none st env h r) (xupdm h m s kt u k v)) (xe h env v)) (xe h env i)) (xe h env x)
def hMlen (dst : Option Nat) (x : Ex) (st : List Ex) : SH := fun env h m s r => Option.rec .bad (fun u => Option.rec .bad (XA.out dst st env h r) (xmlen h m s u)) (xe h env x)
def hMdel (kt : IntKind) (x i : Ex) (st : List Ex) : SH := fun env h m s r =>
  Option.rec .bad (fun u => Option.rec .bad (fun k => Option.rec .bad (XA.out none st env h r) (xmdel h m s kt u k)) (xe h env i)) (xe h env x)
def hKeys (dst : Option Nat) (x : Ex) (st : List Ex) : SH := fun env h m s r => Option.rec .bad (fun u => Option.rec .bad (XA.out dst st env h r) (xkeys h m s u)) (xe h env x)
/-- A slice of three bounds of which nothing is kept: are the bounds in order? -/
def xsl3 (h : HT) (m s : Nat) (u l hh mm : Value) : Option XA := vNat l (fun l => vNat hh (fun hh => vNat mm (fun mm => Bool.rec none (Bool.rec none
  (vSl u (fun _ _ n c => Bool.rec none (some ⟨undef, h, m, s⟩) (Bool.rec (Nat.ble mm n) (Nat.ble mm c) (Nat.blt c capU))) none) (Nat.ble hh mm)) (Nat.ble l hh)) none) none) none
def hSl3 (x l hh mm : Ex) (st : List Ex) : SH := fun env h m s r =>
  Option.rec .bad (fun u => Option.rec .bad (fun a => Option.rec .bad (fun b => Option.rec .bad (fun c => Option.rec .bad (XA.out none st env h r) (xsl3 h m s u a b c)) (xe h env mm)) (xe h env hh)) (xe h env l)) (xe h env x)
def hAdd (dst : Option Nat) (x y c : Ex) (st : List Ex) : SH := fun env h m s r =>
  Option.rec .bad (fun u => Option.rec .bad (fun k => Option.rec .bad (fun v => Option.rec .bad (XA.out dst st env h r) (xadd h m s u k v)) (xe h env c)) (xe h env y)) (xe h env x)

def hNext (b : SH) (x : Exit) (env : Env) (h : HT) (m s r : Nat) : XS := match x with
  | .normal => b env h m s r
  | x => .st x env h m s r
def hSeq (a b : SH) : SH := fun env h m s r => XS.rec .bad (hNext b) (a env h m s r)
def hCond (e : Ex) (a b : SH) : SH := fun env h m s r => Option.rec .bad (fun v => vBool v (fun t => Bool.rec (b env h m s r) (a env h m s r) t) .bad) (xe h env e)
def hEnd (id : Nat) (x : Exit) (env : Env) (h : HT) (m s r : Nat) : XS := match x with
  | .exit id' => Bool.rec (.st (.exit id') env h m s r) (.st .normal env h m s r) (Nat.beq id' id)
  | x => .st x env h m s r
def hBlock (id : Nat) (a : SH) : SH := fun env h m s r => XS.rec .bad (hEnd id) (a env h m s r)
/-- What isn't kept at a loop's head is cleared. -/
def maskK (ks : List Nat) (env : Env) (k : Env → XS) : XS :=
  (List.rec (fun _ _ k => k []) (fun v _ ih ks i k => List.rec (motive := fun _ => XS) (ih [] (Nat.succ i) fun env => k (undef :: env)) (fun j ks' _ => Bool.rec (ih ks (Nat.succ i) fun env => k (undef :: env)) (ih ks' (Nat.succ i) fun env => k (v :: env)) (Nat.beq j i)) ks) env : List Nat → Nat → (Env → XS) → XS) ks 0 k
def loopF (ks : List Nat) (a : SH) (n : Nat) : SH :=
  Nat.rec (motive := fun _ => SH) hBad (fun _ go env h m s r => maskK ks env fun env => XS.rec .bad (hNext go) (a env h m s r)) n
def hLoop (ks : List Nat) (a : SH) : SH := loopF ks a (nat_lit 1000000)
def hExit (id : Nat) : SH := fun env h m s r => .st (.exit id) env h m s r
def hRet : SH := fun env h m s r => .st .ret env h m s r

def xcmd (tab : XT) (R : CH) (c : XC) : SH :=
  XC.rec (motive := fun _ => SH) hSkip hChk hSet hClr (hCall tab R) (hDyn tab R) hApp (fun dst _ x y st => hCopy dst x y st) hClear hMk (fun _ _ _ => hBad) hMkR hMkmap hCvs hLook hAdd hUpd hMlen hMdel hKeys hSl3 hStore hNew hRow hResv hNewR hRowR
    (fun _ _ a b => hSeq a b) (fun e _ _ a b => hCond e a b) (fun id _ a => hBlock id a) (fun ks _ a => hLoop ks a) hExit hRet c
def xcall (tab : XT) (n : Nat) : CH :=
  Nat.rec (motive := fun _ => CH) (fun _ _ _ _ _ => .bad) (fun _ R F vs h m s => Bool.rec .bad (xarg vs F.V fun env => XS.rec .bad (hRes F.rs) (xcmd tab R F.c env h m s 0)) (lenIs vs F.np)) n
end
end Go.Eng
