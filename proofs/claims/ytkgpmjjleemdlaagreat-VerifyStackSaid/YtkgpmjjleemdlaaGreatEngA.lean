/- Engine, part A: expressions over slots, their values, and that an operation of a region which is pure or only reads yields its expression's value. -/
import Derived.WalkKit
namespace Go.Eng

/-- How two values are held against each other. -/
inductive EqD where
  | int | bool | str | ptr | nil
  | cons (off : Nat) (sz : Option Nat) (d rest : EqD)
  deriving DecidableEq

/-- What is done to one value, to two, to three. -/
inductive U1 where
  | isnil (k : Nat) (ne : Bool)
  | un (op : UnOp)
  | conv (k : IntKind)
  | cstr
  | proj (i : Nat)
  | part (sz : Option Nat) (off : Nat)
  | offp (k : Nat)
  | nn
  | len (str : Bool)
  | mkif (t : TypeId)
  | s2a (n : Nat)
  deriving DecidableEq
inductive U2 where
  | bin (op : BinOp)
  | idxAgg (sz : Option Nat) (esz n : Nat)
  | idxStr
  | ixArr (n esz : Nat)
  | ixSl (esz : Nat)
  | upd (off sz : Nat)
  | fst1
  | cap1
  | mn
  | mx
  deriving DecidableEq
inductive U3 where
  | slArr (n esz : Nat)
  | slSl (esz : Nat)
  | slStr
  deriving DecidableEq

inductive Ex where
  | var (i : Nat)
  | const (v : Value)
  | op1 (o : U1) (x : Ex)
  | op2 (o : U2) (x y : Ex)
  | op3 (o : U3) (x y z : Ex)
  | eqx (ne : Bool) (d : EqD) (x y : Ex)
  | pick (c a b : Ex)
  | ld (sz : Option Nat) (x : Ex)
  | bstr (x : Ex)

abbrev Ex.bin (op : BinOp) (x y : Ex) : Ex := .op2 (.bin op) x y
abbrev Ex.isnil (k : Nat) (ne : Bool) (x : Ex) : Ex := .op1 (.isnil k ne) x
abbrev Ex.un (op : UnOp) (x : Ex) : Ex := .op1 (.un op) x
abbrev Ex.conv (k : IntKind) (x : Ex) : Ex := .op1 (.conv k) x
abbrev Ex.cstr (x : Ex) : Ex := .op1 .cstr x
abbrev Ex.proj (i : Nat) (x : Ex) : Ex := .op1 (.proj i) x
abbrev Ex.part (sz : Option Nat) (off : Nat) (x : Ex) : Ex := .op1 (.part sz off) x
abbrev Ex.idxAgg (sz : Option Nat) (esz n : Nat) (x i : Ex) : Ex := .op2 (.idxAgg sz esz n) x i
abbrev Ex.idxStr (x i : Ex) : Ex := .op2 .idxStr x i
abbrev Ex.offp (k : Nat) (x : Ex) : Ex := .op1 (.offp k) x
abbrev Ex.nn (x : Ex) : Ex := .op1 .nn x
abbrev Ex.s2a (n : Nat) (x : Ex) : Ex := .op1 (.s2a n) x
abbrev Ex.ixArr (n esz : Nat) (x i : Ex) : Ex := .op2 (.ixArr n esz) x i
abbrev Ex.ixSl (esz : Nat) (x i : Ex) : Ex := .op2 (.ixSl esz) x i
abbrev Ex.slArr (n esz : Nat) (x lo hi : Ex) : Ex := .op3 (.slArr n esz) x lo hi
abbrev Ex.slSl (esz : Nat) (x lo hi : Ex) : Ex := .op3 (.slSl esz) x lo hi
abbrev Ex.slStr (x lo hi : Ex) : Ex := .op3 .slStr x lo hi
abbrev Ex.len (str : Bool) (x : Ex) : Ex := .op1 (.len str) x
abbrev Ex.upd (off sz : Nat) (b e : Ex) : Ex := .op2 (.upd off sz) b e
abbrev Ex.fst1 (b e : Ex) : Ex := .op2 .fst1 b e
abbrev Ex.cap1 (b e : Ex) : Ex := .op2 .cap1 b e
abbrev Ex.mkif (t : TypeId) (x : Ex) : Ex := .op1 (.mkif t) x
abbrev Ex.mn (x y : Ex) : Ex := .op2 .mn x y
abbrev Ex.mx (x y : Ex) : Ex := .op2 .mx x y

abbrev Env := List Value

/-- What stands for 'unknown' in a slot. -/
def isUndef : Value → Bool
  | .tuple vs => vs.isEmpty
  | _ => false

def wcell (w : World) (b off : Nat) : Option Value :=
  match w.heap[b]? with
  | some (.cells c _ _) => c[off]?
  | _ => none

def wrow (w : World) (b off n : Nat) : Option (Array Value) :=
  match w.heap[b]? with
  | some (.cells c _ _) => if off + n ≤ c.size then some (c.extract off (off + n)) else none
  | _ => none

def plainB (w : World) (b : Nat) : Bool :=
  match w.heap[b]? with
  | some (.cells _ _ (0, 0)) => true
  | _ => false

def ldv (w : World) (sz : Option Nat) : Value → Option Value
  | .pointer (some ⟨b, off, none⟩) =>
    match sz with
    | none => wcell w b off
    | some n => (wrow w b off n).map .agg
  | _ => none

def bytesIn : List Value → Option (List UInt8)
  | [] => some []
  | .int .u8 n :: r => (bytesIn r).map (UInt8.ofNat n.toNat :: ·)
  | _ :: _ => none

def bstrv (w : World) : Value → Option Value
  | .slice none _ _ => some (.string .empty)
  | .slice (some ⟨b, off, none⟩) n _ => (wrow w b off n).bind fun r => (bytesIn r.toList).map fun l => .string ⟨l.toArray⟩
  | _ => none

def intBin (op : BinOp) (k : IntKind) (a : Int) (k' : IntKind) (b : Int) : Option Value :=
  match op with
  | .shl => if b < 0 then none else some (.int k (k.wrap (a * 2 ^ (min b.toNat k.bits))))
  | .shr => if b < 0 then none else some (.int k (a.fdiv (2 ^ (min b.toNat k.bits))))
  | .quo => if k = k' ∧ b ≠ 0 then some (.int k (k.wrap (a.tdiv b))) else none
  | .rem => if k = k' ∧ b ≠ 0 then some (.int k (a.tmod b)) else none
  | .add => if k = k' then some (.int k (k.wrap (a + b))) else none
  | .sub => if k = k' then some (.int k (k.wrap (a - b))) else none
  | .mul => if k = k' then some (.int k (k.wrap (a * b))) else none
  | .and => if k = k' then some (.int k (k.wrap (BitVec.ofInt k.bits a &&& BitVec.ofInt k.bits b).toNat)) else none
  | .or => if k = k' then some (.int k (k.wrap (BitVec.ofInt k.bits a ||| BitVec.ofInt k.bits b).toNat)) else none
  | .xor => if k = k' then some (.int k (k.wrap (BitVec.ofInt k.bits a ^^^ BitVec.ofInt k.bits b).toNat)) else none
  | .andNot => if k = k' then some (.int k (k.wrap (BitVec.ofInt k.bits a &&& ~~~BitVec.ofInt k.bits b).toNat)) else none
  | .eql => if k = k' then some (.bool (a == b)) else none
  | .neq => if k = k' then some (.bool (a != b)) else none
  | .lss => if k = k' then some (.bool (a < b)) else none
  | .leq => if k = k' then some (.bool (a ≤ b)) else none
  | .gtr => if k = k' then some (.bool (a > b)) else none
  | .geq => if k = k' then some (.bool (a ≥ b)) else none

def strBin (op : BinOp) (a b : ByteArray) : Option Value :=
  match op with
  | .add => if ((a.size + b.size : Nat) : Int) > IntKind.i64.max then none else some (.string (a ++ b))
  | .eql => some (.bool (a.data.toList == b.data.toList))
  | .neq => some (.bool !(a.data.toList == b.data.toList))
  | .lss => some (.bool (Op.bytesLess a.data.toList b.data.toList))
  | .leq => some (.bool (Op.bytesLess a.data.toList b.data.toList || a.data.toList == b.data.toList))
  | .gtr => some (.bool !(Op.bytesLess a.data.toList b.data.toList || a.data.toList == b.data.toList))
  | .geq => some (.bool !(Op.bytesLess a.data.toList b.data.toList))
  | _ => none

def binV (op : BinOp) : Value → Value → Option Value
  | .int k a, .int k' b => intBin op k a k' b
  | .string a, .string b => strBin op a b
  | _, _ => none

/-- x held against nil: of kind 0 a pointer, 1 a slice, 2 a function, 3 an interface, 4 a map. -/
def nilV (k : Nat) (ne : Bool) : Value → Option Value
  | .pointer p => if k = 0 then some (.bool (ne != p.isNone)) else none
  | .slice p _ _ => if k = 1 then some (.bool (ne != p.isNone)) else none
  | .nilFunc => if k = 2 then some (.bool (!ne)) else none
  | .func _ _ _ => if k = 2 then some (.bool ne) else none
  | .nilIface => if k = 3 then some (.bool (!ne)) else none
  | .iface _ _ => if k = 3 then some (.bool ne) else none
  | .map p => if k = 4 then some (.bool (ne != p.isNone)) else none
  | _ => none

def unV (op : UnOp) : Value → Option Value
  | .int k n => match op with
    | .neg => some (.int k (k.wrap (0 - n)))
    | .xor => some (.int k (k.wrap (BitVec.ofInt k.bits (if k.signed then -1 else k.max) ^^^ BitVec.ofInt k.bits n).toNat))
    | _ => none
  | .bool b => match op with
    | .not => some (.bool !b)
    | _ => none
  | _ => none

def partV (sz : Option Nat) (off : Nat) (cs : Array Value) : Option Value :=
  match sz with
  | none => cs[off]?
  | some n => some (.agg (cs.extract off (off + n)))

def peqV (w : World) : Option Addr → Option Addr → Option Bool
  | none, b => some b.isNone
  | some _, none => some false
  | some a, some b => if a.block = b.block then some (a == b) else if plainB w a.block && plainB w b.block then some false else none

def eqv (w : World) : EqD → Value → Value → Option Bool
  | .int, .int k a, .int k' b => if k = k' then some (a == b) else none
  | .bool, .bool a, .bool b => some (a == b)
  | .str, .string a, .string b => some (a.data.toList == b.data.toList)
  | .ptr, .pointer a, .pointer b => peqV w a b
  | .nil, .agg _, .agg _ => some true
  | .cons off sz d rest, .agg xs, .agg ys =>
    match partV sz off xs, partV sz off ys with
    | some u, some v => match eqv w d u v with
      | some true => eqv w rest (.agg xs) (.agg ys)
      | some false => some false
      | none => none
    | _, _ => none
  | _, _, _ => none

def convV (k : IntKind) : Value → Option Value
  | .int _ n => some (.int k (k.wrap n))
  | _ => none

def cstrV : Value → Option Value
  | .string s => some (.string s)
  | _ => none

def projV (i : Nat) : Value → Option Value
  | .tuple vs => vs[i]?
  | _ => none

def partOf (sz : Option Nat) (off : Nat) : Value → Option Value
  | .agg cs => partV sz off cs
  | _ => none

def idxAggV (sz : Option Nat) (esz n : Nat) : Value → Value → Option Value
  | .agg cs, .int _ i => if 0 ≤ i ∧ i < n then partV sz (i.toNat * esz) cs else none
  | _, _ => none

def idxStrV : Value → Value → Option Value
  | .string s, .int _ i => if 0 ≤ i then (s.data[i.toNat]?).map fun b => .int .u8 b.toNat else none
  | _, _ => none

def offpV (k : Nat) : Value → Option Value
  | .pointer (some ⟨b, off, none⟩) => some (.pointer (some ⟨b, off + k, none⟩))
  | _ => none

def nnV : Value → Option Value
  | .pointer (some a) => some (.pointer (some a))
  | .func (.func f) first captured => some (.func (.func f) first captured)
  | _ => none

/-- A slice that is long enough, as an array's place. -/
def s2aV (n : Nat) : Value → Option Value
  | .slice (some a) len _ => if 0 < n ∧ n ≤ len then some (.pointer (some a)) else none
  | _ => none

def ixArrV (n esz : Nat) : Value → Value → Option Value
  | .pointer (some ⟨b, off, none⟩), .int _ i => if 0 ≤ i ∧ i < n then some (.pointer (some ⟨b, off + i.toNat * esz, none⟩)) else none
  | _, _ => none

def ixSlV (esz : Nat) : Value → Value → Option Value
  | .slice (some ⟨b, off, none⟩) n _, .int _ i => if 0 ≤ i ∧ i < n then some (.pointer (some ⟨b, off + i.toNat * esz, none⟩)) else none
  | _, _ => none

def slArrV (n esz : Nat) : Value → Value → Value → Option Value
  | .pointer (some ⟨b, off, none⟩), .int _ l, .int _ h =>
    if 0 ≤ l ∧ l ≤ h ∧ h ≤ n then some (.slice (some (if n = l.toNat then ⟨b, off, none⟩ else ⟨b, off + l.toNat * esz, none⟩)) (h.toNat - l.toNat) (n - l.toNat)) else none
  | _, _, _ => none

def slSlV (esz : Nat) : Value → Value → Value → Option Value
  | .slice (some a) _ cap, .int _ l, .int _ h =>
    if 0 ≤ l ∧ l ≤ h ∧ h ≤ cap then some (.slice (some (if cap = l.toNat then a else a.add (l.toNat * esz))) (h.toNat - l.toNat) (cap - l.toNat)) else none
  | .slice none _ cap, .int _ l, .int _ h =>
    if 0 ≤ l ∧ l ≤ h ∧ h ≤ cap then some (.slice none (h.toNat - l.toNat) (cap - l.toNat)) else none
  | _, _, _ => none

def slStrV : Value → Value → Value → Option Value
  | .string s, .int _ l, .int _ h => if 0 ≤ l ∧ l ≤ h ∧ h ≤ s.size then some (.string (s.extract l.toNat h.toNat)) else none
  | _, _, _ => none

def lenV (str : Bool) : Value → Option Value
  | .string s => if str then some (.int .i64 s.size) else none
  | .slice _ n _ => if str then none else some (.int .i64 n)
  | _ => none

/-- Cells written over a row from a place on. -/
def setRow (cs : Array Value) (off : Nat) : List Value → Array Value
  | [] => cs
  | v :: r => setRow (cs.setIfInBounds off v) (off + 1) r

def updV (off sz : Nat) : Value → Value → Option Value
  | .agg cs, v => if v.cells.size = sz ∧ off + v.cells.size ≤ cs.size then some (.agg (setRow cs off v.cells.toList)) else none
  | _, _ => none

def fst1V : Value → Value → Option Value
  | .func fn f c, v => some (.func fn (f.push v) c)
  | _, _ => none

def cap1V : Value → Value → Option Value
  | .func fn f c, v => some (.func fn f (c.push v))
  | _, _ => none

def mnV : Value → Value → Option Value
  | .int k x, .int _ y => some (.int k (if y < x then y else x))
  | _, _ => none

def mxV : Value → Value → Option Value
  | .int k x, .int _ y => some (.int k (if y > x then y else x))
  | _, _ => none

def varV (v : Value) : Option Value := if isUndef v then none else some v

def pickV (c : Value) (a b : Option Value) : Option Value :=
  match c with
  | .bool c => if c then a else b
  | _ => none

def U1.ap : U1 → Value → Option Value
  | .isnil k ne => nilV k ne
  | .un op => unV op
  | .conv k => convV k
  | .cstr => cstrV
  | .proj i => projV i
  | .part sz off => partOf sz off
  | .offp k => offpV k
  | .nn => nnV
  | .len str => lenV str
  | .mkif t => fun v => some (.iface t v)
  | .s2a n => s2aV n
def U2.ap : U2 → Value → Value → Option Value
  | .bin op => binV op
  | .idxAgg sz esz n => idxAggV sz esz n
  | .idxStr => idxStrV
  | .ixArr n esz => ixArrV n esz
  | .ixSl esz => ixSlV esz
  | .upd off sz => updV off sz
  | .fst1 => fst1V
  | .cap1 => cap1V
  | .mn => mnV
  | .mx => mxV
def U3.ap : U3 → Value → Value → Value → Option Value
  | .slArr n esz => slArrV n esz
  | .slSl esz => slSlV esz
  | .slStr => slStrV

def Ex.ev (env : Env) (w : World) : Ex → Option Value
  | .var i => (env[i]?).bind varV
  | .const v => some v
  | .op1 o x => (x.ev env w).bind o.ap
  | .op2 o x y => (x.ev env w).bind fun u => (y.ev env w).bind fun v => o.ap u v
  | .op3 o x y z => (x.ev env w).bind fun u => (y.ev env w).bind fun v => (z.ev env w).bind fun r => o.ap u v r
  | .eqx ne d x y => (x.ev env w).bind fun u => (y.ev env w).bind fun v => (eqv w d u v).map fun r => .bool (ne != r)
  | .pick c a b => (c.ev env w).bind fun c => pickV c (a.ev env w) (b.ev env w)
  | .ld sz x => (x.ev env w).bind (ldv w sz)
  | .bstr x => (x.ev env w).bind (bstrv w)

/-! Small programs' runs. -/
section
variable {P : Program}

theorem run_info {t : TypeId} {i : TypeInfo} (h : P.info? t = some i) (w : World) : (typeInfo t).run P w = .ok i w := by
  simp [typeInfo, h]

def szOf (P : Program) (t : TypeId) : Option Nat := (P.info? t).map (·.size)
def aggOf (P : Program) (t : TypeId) : Option (Option Nat) :=
  match P.underlying t, P.info? t with
  | some (.struct _), some i => some (some i.size)
  | some (.array _ _), some i => some (some i.size)
  | some _, some _ => some none
  | _, _ => none

theorem run_size {t : TypeId} {n : Nat} (h : szOf P t = some n) (w : World) : (sizeOf t).run P w = .ok n w := by
  unfold szOf at h
  cases hi : P.info? t with
  | none => simp [hi] at h
  | some i => simp [hi] at h; subst h; simp [sizeOf, run_info hi]

theorem run_isAgg_some {t : TypeId} {n : Nat} (h : aggOf P t = some (some n)) (w : World) : (isAgg t).run P w = .ok true w ∧ szOf P t = some n := by
  unfold aggOf at h
  split at h <;> simp at h
  · rename_i hu hi; subst h; exact ⟨by simp [isAgg, run_underlying hu], by simp [szOf, hi]⟩
  · rename_i hu hi; subst h; exact ⟨by simp [isAgg, run_underlying hu], by simp [szOf, hi]⟩

theorem run_isAgg_none {t : TypeId} (h : aggOf P t = some none) (w : World) : (isAgg t).run P w = .ok false w := by
  unfold aggOf at h
  split at h <;> simp at h
  rename_i d i hs ha hu hi
  cases d <;> simp [isAgg, run_underlying hu] <;> simp_all

theorem cell?_of_cellAt {w : World} {b off : Nat} {v : Value} (h : wcell w b off = some v) : w.cell? ⟨b, off, none⟩ = some v := by
  unfold wcell at h
  unfold World.cell?
  split at h <;> simp_all

theorem run_loadCellsFrom' {w : World} {b : Nat} {c : Array Value} {T : TypeId} {fz : Nat × Nat} (hb : w.heap[b]? = some (.cells c T fz)) (off : Nat) :
    ∀ (n i : Nat) (acc : Array Value), off + i + n ≤ c.size →
      (loadCellsFrom ⟨b, off, none⟩ i n acc).run P w = .ok (acc ++ c.extract (off + i) (off + i + n)) w
  | 0, i, acc, _ => by simp [loadCellsFrom]; omega
  | n + 1, i, acc, h => by
    have hc : w.cell? (Addr.add ⟨b, off, none⟩ i) = some (c[off + i]'(by omega)) := by
      have ha : Addr.add ⟨b, off, none⟩ i = ⟨b, off + i, none⟩ := by
        unfold Addr.add; split <;> simp_all
      rw [ha]
      simp only [World.cell?, hb]
      simp
    simp only [loadCellsFrom, Sem.run_bind, run_load, hc, Result.andThen_ok]
    rw [run_loadCellsFrom' hb off n (i + 1) _ (by omega)]
    congr 1
    rw [Array.push_eq_append, Array.append_assoc]
    congr 1
    apply Array.ext
    · simp; omega
    · intro j h1 h2
      simp [Array.getElem_append]
      split
      · rename_i h0
        have : j = 0 := by omega
        subst this; simp
      · congr 1; omega

theorem run_loadCells' {w : World} {b off n : Nat} {r : Array Value} (h : wrow w b off n = some r) :
    (loadCells ⟨b, off, none⟩ n).run P w = .ok r w := by
  unfold wrow at h
  split at h <;> simp at h
  rename_i c T fz hb
  obtain ⟨h1, rfl⟩ := h
  simpa [loadCells] using run_loadCellsFrom' (P := P) hb off n 0 #[] (by omega)

theorem run_loadAt {t : TypeId} {sz : Option Nat} (ht : aggOf P t = some sz) {w : World} {a v : Value} (h : ldv w sz a = some v) :
    (Instr.loadAt t a).run P w = .ok v w := by
  unfold ldv at h
  split at h
  · rename_i b off
    cases sz with
    | none =>
      simp only at h
      simp [Instr.loadAt, Instr.sureAddr, loadVar, run_isAgg_none ht, cell?_of_cellAt h]
    | some n =>
      simp only [Option.map_eq_some_iff] at h
      obtain ⟨r, hr, rfl⟩ := h
      obtain ⟨h1, h2⟩ := run_isAgg_some ht w
      simp [Instr.loadAt, Instr.sureAddr, loadVar, h1, run_size h2, run_loadCells' hr]
  · cases h

theorem run_part {t : TypeId} {sz : Option Nat} (ht : aggOf P t = some sz) {w : World} {cs : Array Value} {off : Nat} {v : Value} (h : partV sz off cs = some v) :
    (part t cs off).run P w = .ok v w := by
  cases sz with
  | none =>
    simp only [partV] at h
    simp [part, run_isAgg_none ht, h]
  | some n =>
    simp only [partV, Option.some.injEq] at h
    subst h
    obtain ⟨h1, h2⟩ := run_isAgg_some ht w
    simp [part, h1, run_size h2]

theorem cells_map_u8 : ∀ {l : List Value} {bs : List UInt8}, bytesIn l = some bs →
    ∃ ns : List Int, l = ns.map (Value.int .u8) ∧ bs = ns.map fun n => UInt8.ofNat n.toNat
  | [], bs, h => by simp [bytesIn] at h; exact ⟨[], rfl, by simp [h]⟩
  | x :: r, bs, h => by
    cases x <;> try (simp [bytesIn] at h; done)
    rename_i k n
    cases k <;> simp [bytesIn] at h
    obtain ⟨bs', h1, rfl⟩ := h
    obtain ⟨ns, rfl, rfl⟩ := cells_map_u8 h1
    exact ⟨n :: ns, rfl, rfl⟩

theorem foldl_push (ns : List Int) : ∀ s : ByteArray, ns.foldl (fun r n => r.push (UInt8.ofNat n.toNat)) s = ⟨s.data ++ (ns.map fun n => UInt8.ofNat n.toNat).toArray⟩ := by
  induction ns with
  | nil => intro s; simp
  | cons n ns ih =>
    intro s
    simp only [List.foldl_cons, ih]
    congr 1
    simp [ByteArray.push]

theorem run_bstr {w : World} {x v : Value} (h : bstrv w x = some v) : (Conv.bytesToString x).run P w = .ok v w := by
  unfold bstrv at h
  split at h
  · simp at h; subst h; simp [Conv.bytesToString]
  · simp only [Option.bind_eq_some_iff, Option.map_eq_some_iff] at h
    obtain ⟨r, hr, l, hl, rfl⟩ := h
    obtain ⟨ns, h1, rfl⟩ := cells_map_u8 hl
    have hr' := run_loadCells' (P := P) hr
    have : r = (ns.map (Value.int .u8)).toArray := by rw [← h1]
    rw [this] at hr'
    rw [run_bytesToString w _ _ _ ns hr', foldl_push]
    simp [ByteArray.empty, ByteArray.emptyWithCapacity]
    rfl
  · cases h
end
end Go.Eng
