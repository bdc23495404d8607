/- Engine, part A: expressions over slots, their values, and that an operation of a region which is pure or only reads yields its expression's value. -/
import Derived.WalkKit
namespace Go.Eng
inductive EqD where
  | int | bool | str | ptr | nil
  | cons (off : Nat) (sz : Option Nat) (d rest : EqD)
  deriving DecidableEq
inductive U1 where
  | isnil (k : Nat) (ne : Bool)
  | un (op : UnOp)
  | conv (k : IntKind)
  | cstr
  | proj (i : Nat)
  | part (sz : Option Nat) (off : Nat)
  | offp (k : Nat)
  | nn
  | len (str : Bool)
  | mkif (t : TypeId)
  | s2a (n : Nat)
  deriving DecidableEq
inductive U2 where
  | bin (op : BinOp)
  | idxAgg (sz : Option Nat) (esz n : Nat)
  | idxStr
  | ixArr (n esz : Nat)
  | ixSl (esz : Nat)
  | upd (off sz : Nat)
  | fst1
  | cap1
  | mn
  | mx
  deriving DecidableEq
inductive U3 where
  | slArr (n esz : Nat)
  | slSl (esz : Nat)
  | slStr
  deriving DecidableEq
inductive Ex where
  | var (i : Nat)
  | const (v : Value)
  | op1 (o : U1) (x : Ex)
  | op2 (o : U2) (x y : Ex)
  | op3 (o : U3) (x y z : Ex)
  | eqx (ne : Bool) (d : EqD) (x y : Ex)
  | pick (c a b : Ex)
  | ld (sz : Option Nat) (x : Ex)
  | bstr (x : Ex)
abbrev Ex.bin (op : BinOp) (x y : Ex) : Ex := .op2 (.bin op) x y
abbrev Ex.isnil (k : Nat) (ne : Bool) (x : Ex) : Ex := .op1 (.isnil k ne) x
abbrev Ex.un (op : UnOp) (x : Ex) : Ex := .op1 (.un op) x
abbrev Ex.conv (k : IntKind) (x : Ex) : Ex := .op1 (.conv k) x
abbrev Ex.cstr (x : Ex) : Ex := .op1 .cstr x
abbrev Ex.proj (i : Nat) (x : Ex) : Ex := .op1 (.proj i) x
abbrev Ex.part (sz : Option Nat) (off : Nat) (x : Ex) : Ex := .op1 (.part sz off) x
abbrev Ex.idxAgg (sz : Option Nat) (esz n : Nat) (x i : Ex) : Ex := .op2 (.idxAgg sz esz n) x i
abbrev Ex.idxStr (x i : Ex) : Ex := .op2 .idxStr x i
abbrev Ex.offp (k : Nat) (x : Ex) : Ex := .op1 (.offp k) x
abbrev Ex.nn (x : Ex) : Ex := .op1 .nn x
abbrev Ex.s2a (n : Nat) (x : Ex) : Ex := .op1 (.s2a n) x
abbrev Ex.ixArr (n esz : Nat) (x i : Ex) : Ex := .op2 (.ixArr n esz) x i
abbrev Ex.ixSl (esz : Nat) (x i : Ex) : Ex := .op2 (.ixSl esz) x i
abbrev Ex.slArr (n esz : Nat) (x lo hi : Ex) : Ex := .op3 (.slArr n esz) x lo hi
abbrev Ex.slSl (esz : Nat) (x lo hi : Ex) : Ex := .op3 (.slSl esz) x lo hi
abbrev Ex.slStr (x lo hi : Ex) : Ex := .op3 .slStr x lo hi
abbrev Ex.len (str : Bool) (x : Ex) : Ex := .op1 (.len str) x
abbrev Ex.upd (off sz : Nat) (b e : Ex) : Ex := .op2 (.upd off sz) b e
abbrev Ex.fst1 (b e : Ex) : Ex := .op2 .fst1 b e
abbrev Ex.cap1 (b e : Ex) : Ex := .op2 .cap1 b e
abbrev Ex.mkif (t : TypeId) (x : Ex) : Ex := .op1 (.mkif t) x
abbrev Ex.mn (x y : Ex) : Ex := .op2 .mn x y
abbrev Ex.mx (x y : Ex) : Ex := .op2 .mx x y
abbrev Env := List Value
def isUndef : Value → Bool
  | .tuple vs => vs.isEmpty
  | _ => false
def wcell (w : World) (b off : Nat) : Option Value :=
  match w.heap[b]? with
  | some (.cells c _ _) => c[off]?
  | _ => none
def wrow (w : World) (b off n : Nat) : Option (Array Value) :=
  match w.heap[b]? with
  | some (.cells c _ _) => if off + n ≤ c.size then some (c.extract off (off + n)) else none
  | _ => none
def plainB (w : World) (b : Nat) : Bool :=
  match w.heap[b]? with
  | some (.cells _ _ (0, 0)) => true
  | _ => false
def ldv (w : World) (sz : Option Nat) : Value → Option Value
  | .pointer (some ⟨b, off, none⟩) =>
    match sz with
    | none => wcell w b off
    | some n => (wrow w b off n).map .agg
  | _ => none
def bytesIn : List Value → Option (List UInt8)
  | [] => some []
  | .int .u8 n :: r => (bytesIn r).map (UInt8.ofNat n.toNat :: ·)
  | _ :: _ => none
def bstrv (w : World) : Value → Option Value
  | .slice none _ _ => some (.string .empty)
  | .slice (some ⟨b, off, none⟩) n _ => (wrow w b off n).bind fun r => (bytesIn r.toList).map fun l => .string ⟨l.toArray⟩
  | _ => none
def intBin (op : BinOp) (k : IntKind) (a : Int) (k' : IntKind) (b : Int) : Option Value :=
  match op with
  | .shl => if b < 0 then none else some (.int k (k.wrap (a * 2 ^ (min b.toNat k.bits))))
  | .shr => if b < 0 then none else some (.int k (a.fdiv (2 ^ (min b.toNat k.bits))))
  | .quo => if k = k' ∧ b ≠ 0 then some (.int k (k.wrap (a.tdiv b))) else none
  | .rem => if k = k' ∧ b ≠ 0 then some (.int k (a.tmod b)) else none
  | .add => if k = k' then some (.int k (k.wrap (a + b))) else none
  | .sub => if k = k' then some (.int k (k.wrap (a - b))) else none
  | .mul => if k = k' then some (.int k (k.wrap (a * b))) else none
  | .and => if k = k' then some (.int k (k.wrap (BitVec.ofInt k.bits a &&& BitVec.ofInt k.bits b).toNat)) else none
  | .or => if k = k' then some (.int k (k.wrap (BitVec.ofInt k.bits a ||| BitVec.ofInt k.bits b).toNat)) else none
  | .xor => if k = k' then some (.int k (k.wrap (BitVec.ofInt k.bits a ^^^ BitVec.ofInt k.bits b).toNat)) else none
  | .andNot => if k = k' then some (.int k (k.wrap (BitVec.ofInt k.bits a &&& ~~~BitVec.ofInt k.bits b).toNat)) else none
  | .eql => if k = k' then some (.bool (a == b)) else none
  | .neq => if k = k' then some (.bool (a != b)) else none
  | .lss => if k = k' then some (.bool (a < b)) else none
  | .leq => if k = k' then some (.bool (a ≤ b)) else none
  | .gtr => if k = k' then some (.bool (a > b)) else none
  | .geq => if k = k' then some (.bool (a ≥ b)) else none
def strBin (op : BinOp) (a b : ByteArray) : Option Value :=
  match op with
  | .add => if ((a.size + b.size : Nat) : Int) > IntKind.i64.max then none else some (.string (a ++ b))
  | .eql => some (.bool (a.data.toList == b.data.toList))
  | .neq => some (.bool !(a.data.toList == b.data.toList))
  | .lss => some (.bool (Op.bytesLess a.data.toList b.data.toList))
  | .leq => some (.bool (Op.bytesLess a.data.toList b.data.toList || a.data.toList == b.data.toList))
  | .gtr => some (.bool !(Op.bytesLess a.data.toList b.data.toList || a.data.toList == b.data.toList))
  | .geq => some (.bool !(Op.bytesLess a.data.toList b.data.toList))
  | _ => none
def binV (op : BinOp) : Value → Value → Option Value
  | .int k a, .int k' b => intBin op k a k' b
  | .string a, .string b => strBin op a b
  | _, _ => none
def nilV (k : Nat) (ne : Bool) : Value → Option Value
  | .pointer p => if k = 0 then some (.bool (ne != p.isNone)) else none
  | .slice p _ _ => if k = 1 then some (.bool (ne != p.isNone)) else none
  | .nilFunc => if k = 2 then some (.bool (!ne)) else none
  | .func _ _ _ => if k = 2 then some (.bool ne) else none
  | .nilIface => if k = 3 then some (.bool (!ne)) else none
  | .iface _ _ => if k = 3 then some (.bool ne) else none
  | .map p => if k = 4 then some (.bool (ne != p.isNone)) else none
  | _ => none
def unV (op : UnOp) : Value → Option Value
  | .int k n => match op with
    | .neg => some (.int k (k.wrap (0 - n)))
    | .xor => some (.int k (k.wrap (BitVec.ofInt k.bits (if k.signed then -1 else k.max) ^^^ BitVec.ofInt k.bits n).toNat))
    | _ => none
  | .bool b => match op with
    | .not => some (.bool !b)
    | _ => none
  | _ => none
def partV (sz : Option Nat) (off : Nat) (cs : Array Value) : Option Value :=
  match sz with
  | none => cs[off]?
  | some n => some (.agg (cs.extract off (off + n)))
def peqV (w : World) : Option Addr → Option Addr → Option Bool
  | none, b => some b.isNone
  | some _, none => some false
  | some a, some b => if a.block = b.block then some (a == b) else if plainB w a.block && plainB w b.block then some false else none
def eqv (w : World) : EqD → Value → Value → Option Bool
  | .int, .int k a, .int k' b => if k = k' then some (a == b) else none
  | .bool, .bool a, .bool b => some (a == b)
  | .str, .string a, .string b => some (a.data.toList == b.data.toList)
  | .ptr, .pointer a, .pointer b => peqV w a b
  | .nil, .agg _, .agg _ => some true
  | .cons off sz d rest, .agg xs, .agg ys =>
    match partV sz off xs, partV sz off ys with
    | some u, some v => match eqv w d u v with
      | some true => eqv w rest (.agg xs) (.agg ys)
      | some false => some false
      | none => none
    | _, _ => none
  | _, _, _ => none
def convV (k : IntKind) : Value → Option Value
  | .int _ n => some (.int k (k.wrap n))
  | _ => none
def cstrV : Value → Option Value
  | .string s => some (.string s)
  | _ => none
def projV (i : Nat) : Value → Option Value
  | .tuple vs => vs[i]?
  | _ => none
def partOf (sz : Option Nat) (off : Nat) : Value → Option Value
  | .agg cs => partV sz off cs
  | _ => none
def idxAggV (sz : Option Nat) (esz n : Nat) : Value → Value → Option Value
  | .agg cs, .int _ i => if 0 ≤ i ∧ i < n then partV sz (i.toNat * esz) cs else none
  | _, _ => none
def idxStrV : Value → Value → Option Value
  | .string s, .int _ i => if 0 ≤ i then (s.data[i.toNat]?).map fun b => .int .u8 b.toNat else none
  | _, _ => none
def offpV (k : Nat) : Value → Option Value
  | .pointer (some ⟨b, off, none⟩) => some (.pointer (some ⟨b, off + k, none⟩))
  | _ => none
def nnV : Value → Option Value
  | .pointer (some a) => some (.pointer (some a))
  | .func (.func f) first captured => some (.func (.func f) first captured)
  | _ => none
def s2aV (n : Nat) : Value → Option Value
  | .slice (some a) len _ => if 0 < n ∧ n ≤ len then some (.pointer (some a)) else none
  | _ => none
def ixArrV (n esz : Nat) : Value → Value → Option Value
  | .pointer (some ⟨b, off, none⟩), .int _ i => if 0 ≤ i ∧ i < n then some (.pointer (some ⟨b, off + i.toNat * esz, none⟩)) else none
  | _, _ => none
def ixSlV (esz : Nat) : Value → Value → Option Value
  | .slice (some ⟨b, off, none⟩) n _, .int _ i => if 0 ≤ i ∧ i < n then some (.pointer (some ⟨b, off + i.toNat * esz, none⟩)) else none
  | _, _ => none
def slArrV (n esz : Nat) : Value → Value → Value → Option Value
  | .pointer (some ⟨b, off, none⟩), .int _ l, .int _ h =>
    if 0 ≤ l ∧ l ≤ h ∧ h ≤ n then some (.slice (some (if n = l.toNat then ⟨b, off, none⟩ else ⟨b, off + l.toNat * esz, none⟩)) (h.toNat - l.toNat) (n - l.toNat)) else none
  | _, _, _ => none
def slSlV (esz : Nat) : Value → Value → Value → Option Value
  | .slice (some a) _ cap, .int _ l, .int _ h =>
    if 0 ≤ l ∧ l ≤ h ∧ h ≤ cap then some (.slice (some (if cap = l.toNat then a else a.add (l.toNat * esz))) (h.toNat - l.toNat) (cap - l.toNat)) else none
  | .slice none _ cap, .int _ l, .int _ h =>
    if 0 ≤ l ∧ l ≤ h ∧ h ≤ cap then some (.slice none (h.toNat - l.toNat) (cap - l.toNat)) else none
  | _, _, _ => none
def slStrV : Value → Value → Value → Option Value
  | .string s, .int _ l, .int _ h => if 0 ≤ l ∧ l ≤ h ∧ h ≤ s.size then some (.string (s.extract l.toNat h.toNat)) else none
  | _, _, _ => none
def lenV (str : Bool) : Value → Option Value
  | .string s => if str then some (.int .i64 s.size) else none
  | .slice _ n _ => if str then none else some (.int .i64 n)
  | _ => none
def setRow (cs : Array Value) (off : Nat) : List Value → Array Value
  | [] => cs
  | v :: r => setRow (cs.setIfInBounds off v) (off + 1) r
def updV (off sz : Nat) : Value → Value → Option Value
  | .agg cs, v => if v.cells.size = sz ∧ off + v.cells.size ≤ cs.size then some (.agg (setRow cs off v.cells.toList)) else none
  | _, _ => none
def fst1V : Value → Value → Option Value
  | .func fn f c, v => some (.func fn (f.push v) c)
  | _, _ => none
def cap1V : Value → Value → Option Value
  | .func fn f c, v => some (.func fn f (c.push v))
  | _, _ => none
def mnV : Value → Value → Option Value
  | .int k x, .int _ y => some (.int k (if y < x then y else x))
  | _, _ => none
def mxV : Value → Value → Option Value
  | .int k x, .int _ y => some (.int k (if y > x then y else x))
  | _, _ => none
def varV (v : Value) : Option Value := if isUndef v then none else some v
def pickV (c : Value) (a b : Option Value) : Option Value :=
  match c with
  | .bool c => if c then a else b
  | _ => none
def U1.ap : U1 → Value → Option Value
  | .isnil k ne => nilV k ne
  | .un op => unV op
  | .conv k => convV k
  | .cstr => cstrV
  | .proj i => projV i
  | .part sz off => partOf sz off
  | .offp k => offpV k
  | .nn => nnV
  | .len str => lenV str
  | .mkif t => fun v => some (.iface t v)
  | .s2a n => s2aV n
def U2.ap : U2 → Value → Value → Option Value
  | .bin op => binV op
  | .idxAgg sz esz n => idxAggV sz esz n
  | .idxStr => idxStrV
  | .ixArr n esz => ixArrV n esz
  | .ixSl esz => ixSlV esz
  | .upd off sz => updV off sz
  | .fst1 => fst1V
  | .cap1 => cap1V
  | .mn => mnV
  | .mx => mxV
def U3.ap : U3 → Value → Value → Value → Option Value
  | .slArr n esz => slArrV n esz
  | .slSl esz => slSlV esz
  | .slStr => slStrV
def Ex.ev (env : Env) (w : World) : Ex → Option Value
  | .var i => (env[i]?).bind varV
  | .const v => some v
  | .op1 o x => (x.ev env w).bind o.ap
  | .op2 o x y => (x.ev env w).bind fun u => (y.ev env w).bind fun v => o.ap u v
  | .op3 o x y z => (x.ev env w).bind fun u => (y.ev env w).bind fun v => (z.ev env w).bind fun r => o.ap u v r
  | .eqx ne d x y => (x.ev env w).bind fun u => (y.ev env w).bind fun v => (eqv w d u v).map fun r => .bool (ne != r)
  | .pick c a b => (c.ev env w).bind fun c => pickV c (a.ev env w) (b.ev env w)
  | .ld sz x => (x.ev env w).bind (ldv w sz)
  | .bstr x => (x.ev env w).bind (bstrv w)
section
variable {P : Program}
theorem run_info {t : TypeId} {i : TypeInfo} (h : P.info? t = some i) (w : World) : (typeInfo t).run P w = .ok i w := by
  simp [typeInfo, h]
def szOf (P : Program) (t : TypeId) : Option Nat := (P.info? t).map (·.size)
def aggOf (P : Program) (t : TypeId) : Option (Option Nat) :=
  match P.underlying t, P.info? t with
  | some (.struct _), some i => some (some i.size)
  | some (.array _ _), some i => some (some i.size)
  | some _, some _ => some none
  | _, _ => none
theorem run_size {t : TypeId} {n : Nat} (h : szOf P t = some n) (w : World) : (sizeOf t).run P w = .ok n w := by
  unfold szOf at h
  cases hi : P.info? t with
  | none => simp [hi] at h
  | some i => simp [hi] at h; subst h; simp [sizeOf, run_info hi]
theorem run_isAgg_some {t : TypeId} {n : Nat} (h : aggOf P t = some (some n)) (w : World) : (isAgg t).run P w = .ok true w ∧ szOf P t = some n := by
  unfold aggOf at h
  split at h <;> simp at h
  · rename_i hu hi; subst h; exact ⟨by simp [isAgg, run_underlying hu], by simp [szOf, hi]⟩
  · rename_i hu hi; subst h; exact ⟨by simp [isAgg, run_underlying hu], by simp [szOf, hi]⟩
theorem run_isAgg_none {t : TypeId} (h : aggOf P t = some none) (w : World) : (isAgg t).run P w = .ok false w := by
  unfold aggOf at h
  split at h <;> simp at h
  rename_i d i hs ha hu hi
  cases d <;> simp [isAgg, run_underlying hu] <;> simp_all
theorem cell?_of_cellAt {w : World} {b off : Nat} {v : Value} (h : wcell w b off = some v) : w.cell? ⟨b, off, none⟩ = some v := by
  unfold wcell at h
  unfold World.cell?
  split at h <;> simp_all
theorem run_loadCellsFrom' {w : World} {b : Nat} {c : Array Value} {T : TypeId} {fz : Nat × Nat} (hb : w.heap[b]? = some (.cells c T fz)) (off : Nat) :
    ∀ (n i : Nat) (acc : Array Value), off + i + n ≤ c.size →
      (loadCellsFrom ⟨b, off, none⟩ i n acc).run P w = .ok (acc ++ c.extract (off + i) (off + i + n)) w
  | 0, i, acc, _ => by simp [loadCellsFrom]; omega
  | n + 1, i, acc, h => by
    have hc : w.cell? (Addr.add ⟨b, off, none⟩ i) = some (c[off + i]'(by omega)) := by
      have ha : Addr.add ⟨b, off, none⟩ i = ⟨b, off + i, none⟩ := by
        unfold Addr.add; split <;> simp_all
      rw [ha]
      simp only [World.cell?, hb]
      simp
    simp only [loadCellsFrom, Sem.run_bind, run_load, hc, Result.andThen_ok]
    rw [run_loadCellsFrom' hb off n (i + 1) _ (by omega)]
    congr 1
    rw [Array.push_eq_append, Array.append_assoc]
    congr 1
    apply Array.ext
    · simp; omega
    · intro j h1 h2
      simp [Array.getElem_append]
      split
      · rename_i h0
        have : j = 0 := by omega
        subst this; simp
      · congr 1; omega
theorem run_loadCells' {w : World} {b off n : Nat} {r : Array Value} (h : wrow w b off n = some r) :
    (loadCells ⟨b, off, none⟩ n).run P w = .ok r w := by
  unfold wrow at h
  split at h <;> simp at h
  rename_i c T fz hb
  obtain ⟨h1, rfl⟩ := h
  simpa [loadCells] using run_loadCellsFrom' (P := P) hb off n 0 #[] (by omega)
theorem run_loadAt {t : TypeId} {sz : Option Nat} (ht : aggOf P t = some sz) {w : World} {a v : Value} (h : ldv w sz a = some v) :
    (Instr.loadAt t a).run P w = .ok v w := by
  unfold ldv at h
  split at h
  · rename_i b off
    cases sz with
    | none =>
      simp only at h
      simp [Instr.loadAt, Instr.sureAddr, loadVar, run_isAgg_none ht, cell?_of_cellAt h]
    | some n =>
      simp only [Option.map_eq_some_iff] at h
      obtain ⟨r, hr, rfl⟩ := h
      obtain ⟨h1, h2⟩ := run_isAgg_some ht w
      simp [Instr.loadAt, Instr.sureAddr, loadVar, h1, run_size h2, run_loadCells' hr]
  · cases h
theorem run_part {t : TypeId} {sz : Option Nat} (ht : aggOf P t = some sz) {w : World} {cs : Array Value} {off : Nat} {v : Value} (h : partV sz off cs = some v) :
    (part t cs off).run P w = .ok v w := by
  cases sz with
  | none =>
    simp only [partV] at h
    simp [part, run_isAgg_none ht, h]
  | some n =>
    simp only [partV, Option.some.injEq] at h
    subst h
    obtain ⟨h1, h2⟩ := run_isAgg_some ht w
    simp [part, h1, run_size h2]
theorem cells_map_u8 : ∀ {l : List Value} {bs : List UInt8}, bytesIn l = some bs →
    ∃ ns : List Int, l = ns.map (Value.int .u8) ∧ bs = ns.map fun n => UInt8.ofNat n.toNat
  | [], bs, h => by simp [bytesIn] at h; exact ⟨[], rfl, by simp [h]⟩
  | x :: r, bs, h => by
    cases x <;> try (simp [bytesIn] at h; done)
    rename_i k n
    cases k <;> simp [bytesIn] at h
    obtain ⟨bs', h1, rfl⟩ := h
    obtain ⟨ns, rfl, rfl⟩ := cells_map_u8 h1
    exact ⟨n :: ns, rfl, rfl⟩
theorem foldl_push (ns : List Int) : ∀ s : ByteArray, ns.foldl (fun r n => r.push (UInt8.ofNat n.toNat)) s = ⟨s.data ++ (ns.map fun n => UInt8.ofNat n.toNat).toArray⟩ := by
  induction ns with
  | nil => intro s; simp
  | cons n ns ih =>
    intro s
    simp only [List.foldl_cons, ih]
    congr 1
    simp [ByteArray.push]
theorem run_bstr {w : World} {x v : Value} (h : bstrv w x = some v) : (Conv.bytesToString x).run P w = .ok v w := by
  unfold bstrv at h
  split at h
  · simp at h; subst h; simp [Conv.bytesToString]
  · simp only [Option.bind_eq_some_iff, Option.map_eq_some_iff] at h
    obtain ⟨r, hr, l, hl, rfl⟩ := h
    obtain ⟨ns, h1, rfl⟩ := cells_map_u8 hl
    have hr' := run_loadCells' (P := P) hr
    have : r = (ns.map (Value.int .u8)).toArray := by rw [← h1]
    rw [this] at hr'
    rw [run_bytesToString w _ _ _ ns hr', foldl_push]
    simp [ByteArray.empty, ByteArray.emptyWithCapacity]
    rfl
  · cases h
end
end Go.Eng
set_option linter.unusedSimpArgs false
set_option linter.unusedVariables false
namespace Go.Eng
def isNilC : Operand → Option Nat
  | .const (.pointer none) => some 0
  | .const (.slice none _ _) => some 1
  | .const .nilFunc => some 2
  | .const .nilIface => some 3
  | .const (.map none) => some 4
  | _ => none
def nilTy (P : Program) (t : TypeId) : Option Nat :=
  match P.underlying t with
  | some (.pointer _) => some 0
  | some (.slice _) => some 1
  | some (.func _ _ _) => some 2
  | some (.interface _) => some 3
  | some (.map _ _) => some 4
  | _ => none
def eqParts (F : Field → Option EqD) (A : TypeId → Option (Option Nat)) : List Field → Option EqD
  | [] => some .nil
  | f :: r =>
    if f.name == "_" then none else
    match A f.type, F f, eqParts F A r with
    | some sz, some d, some e => some (.cons f.offset sz d e)
    | _, _, _ => none
def eqRow (sz : Option Nat) (n : Nat) (d : EqD) : (count i : Nat) → EqD
  | 0, _ => .nil
  | k + 1, i => .cons (i * n) sz d (eqRow sz n d k (i + 1))
def eqD (P : Program) : Nat → TypeId → Option EqD
  | 0, _ => none
  | n + 1, t =>
    match P.underlying t with
    | some .bool => some .bool
    | some (.int _) => some .int
    | some .string => some .str
    | some (.pointer e) => match szOf P e with
      | some (_ + 1) => some .ptr
      | _ => none
    | some (.struct fs) => if P.stoodInHeld t then none else eqParts (fun f => eqD P n f.type) (aggOf P) fs.toList
    | some (.array len e) => match szOf P e, aggOf P e, eqD P n e with
      | some m, some sz, some d => some (eqRow sz m d len 0)
      | _, _, _ => none
    | _ => none
def isNe : BinOp → Bool
  | .neq => true
  | _ => false
def isEq : BinOp → Bool
  | .eql | .neq => true
  | _ => false
def bin2 (look : Operand → Option Ex) (f : Ex → Ex → Ex) (x y : Operand) : Option Ex :=
  match look x, look y with
  | some x, some y => some (f x y)
  | _, _ => none
def eqEx (P : Program) (look : Operand → Option Ex) (op : BinOp) (t : TypeId) (x y : Operand) : Option Ex :=
  match P.underlying t with
  | some (.int _) | some .string => bin2 look (.bin op) x y
  | _ => if P.eqGuardType P.depth t then none else
    match eqD P 20 t with
    | some d => bin2 look (.eqx (isNe op) d) x y
    | none => none
def binEx (P : Program) (look : Operand → Option Ex) (op : BinOp) (t : TypeId) (x y : Operand) : Option Ex :=
  if isEq op then
    match isNilC y, nilTy P t with
    | some k, some k' => if k = k' then (look x).map (.isnil k (isNe op)) else none
    | _, _ => match isNilC x, nilTy P t with
      | some k, some k' => if k = k' then (look y).map (.isnil k (isNe op)) else none
      | _, _ => eqEx P look op t x y
  else bin2 look (.bin op) x y
def foldEx (f : Ex → Ex → Ex) (look : Operand → Option Ex) : Ex → List Operand → Option Ex
  | b, [] => some b
  | b, x :: r => match look x with
    | some e => foldEx f look (f b e) r
    | none => none
def buildEx (place : Nat → Option (Nat × Nat)) (look : Operand → Option Ex) : Ex → List (Nat × Operand) → Option Ex
  | b, [] => some b
  | b, (i, x) :: r => match place i, look x with
    | some (off, sz), some e => buildEx place look (.upd off sz b e) r
    | _, _ => none
def zeroOf (P : Program) (t : TypeId) : Option (Array Value) :=
  match (P.info? t).bind (·.zero) with
  | some (.agg z) => some z
  | _ => none
def places (P : Program) (fs : List Field) : Option (List (Nat × Nat)) := fs.mapM fun f => (szOf P f.type).map fun n => (f.offset, n)
def optEx (look : Operand → Option Ex) (d : Ex) : Option Operand → Option Ex
  | none => some d
  | some x => look x
def sliceEx (P : Program) (look : Operand → Option Ex) (t : TypeId) (x : Operand) (lo hi : Option Operand) : Option Ex :=
  match look x, optEx look (.const (.int .i64 0)) lo, P.underlying t with
  | some x, some lo, some (.array n e) => match szOf P e, optEx look (.const (.int .i64 n)) hi with
    | some sz, some hi => some (.slArr n sz x lo hi)
    | _, _ => none
  | some x, some lo, some (.slice e) => match szOf P e, optEx look (.len false x) hi with
    | some sz, some hi => some (.slSl sz x lo hi)
    | _, _ => none
  | some x, some lo, some .string => match optEx look (.len true x) hi with
    | some hi => some (.slStr x lo hi)
    | _ => none
  | _, _, _ => none
def opEx (P : Program) (look : Operand → Option Ex) : Op → Option Ex
  | .move x | .assign x => look x
  | .nilCheck x => (look x).map .nn
  | .sliceToArrayPointer arr x => match P.underlying arr with
    | some (.array n _) => (look x).map (.s2a n)
    | _ => none
  | .binOp op t x y _ => binEx P look op t x y
  | .unOp op _ x => (look x).map (.un op)
  | .convert s d x =>
    match P.underlying s, P.underlying d with
    | some (.int _), some (.int k) => (look x).map (.conv k)
    | some .string, some .string => (look x).map .cstr
    | some (.slice e), some .string => match P.underlying e with
      | some (.int .u8) => (look x).map .bstr
      | _ => none
    | _, _ => none
  | .makeInterface t x =>
    match P.underlying t with
    | some (.interface _) => none
    | some _ => (look x).map (.mkif t)
    | none => none
  | .makeFunc fn first captured => (foldEx .fst1 look (.const (.func fn #[] #[])) first.toList).bind fun b => foldEx .cap1 look b captured.toList
  | .slice t x lo hi none => sliceEx P look t x lo hi
  | .fieldAddr s x f =>
    match P.underlying s with
    | some (.struct fs) => match fs[f]? with
      | some g => match szOf P g.type with
        | some (_ + 1) => (look x).map (.offp g.offset)
        | _ => none
      | none => none
    | _ => none
  | .field t x f =>
    match P.underlying t with
    | some (.struct fs) => match fs[f]? with
      | some g => match aggOf P g.type with
        | some sz => (look x).map (.part sz g.offset)
        | none => none
      | none => none
    | _ => none
  | .indexAddr t x i =>
    match look x, look i with
    | some x, some i =>
      match P.underlying t with
      | some (.array n e) => (szOf P e).map fun sz => .ixArr n sz x i
      | some (.slice e) => (szOf P e).map fun sz => .ixSl sz x i
      | _ => none
    | _, _ => none
  | .index t x i =>
    match look x, look i with
    | some x, some i =>
      match P.underlying t with
      | some (.array n e) => match szOf P e, aggOf P e with
        | some m, some sz => some (.idxAgg sz m n x i)
        | _, _ => none
      | some .string => some (.idxStr x i)
      | _ => none
    | _, _ => none
  | .extract x i => (look x).map (.proj i)
  | .load t a => match aggOf P t with
    | some sz => (look a).map (.ld sz)
    | none => none
  | .build t parts =>
    match zeroOf P t with
    | some z =>
      match P.underlying t with
      | some (.struct fs) => (places P fs.toList).bind fun ps => buildEx (ps[·]?) look (.const (.agg z)) parts.toList
      | some (.array _ e) => (szOf P e).bind fun m => buildEx (fun i => some (i * m, m)) look (.const (.agg z)) parts.toList
      | _ => none
    | none => none
  | .call { callee := .builtin .len, args, argTypes } =>
    match args.toList, argTypes.toList with
    | [x], [t] => match P.underlying t with
      | some (.slice _) => (look x).map (.len false)
      | some .string => (look x).map (.len true)
      | _ => none
    | _, _ => none
  | .call { callee := .builtin .min, args, .. } =>
    match args.toList with
    | [x, y] => match look x, look y with
      | some x, some y => some (.mn x y)
      | _, _ => none
    | _ => none
  | .call { callee := .builtin .max, args, .. } =>
    match args.toList with
    | [x, y] => match look x, look y with
      | some x, some y => some (.mx x y)
      | _, _ => none
    | _ => none
  | _ => none
def Rel (look : Operand → Option Ex) (ρ : Operand → Value) (env : Env) (w : World) : Prop :=
  ∀ x e v, look x = some e → e.ev env w = some v → ρ x = v
section
variable {P : Program} {look : Operand → Option Ex} {ρ : Operand → Value} {env : Env} {w : World}
theorem run_intBin {op : BinOp} {k k' : IntKind} {a b : Int} {v : Value} (t : TypeId) (h : intBin op k a k' b = some v) :
    (binOp op t (.int k a) (.int k' b)).run P w = .ok v w := by
  cases op <;> simp only [intBin] at h <;> (try split at h) <;> simp only [Option.some.injEq, reduceCtorEq] at h <;> (try subst h) <;>
    simp_all [binOp, Op.intArith, Op.intDiv, Op.intBits, Op.intCmp, Op.shift] <;> (try omega)
theorem run_strBin {op : BinOp} {a b : ByteArray} {v : Value} (t : TypeId) (h : strBin op a b = some v) :
    (binOp op t (.string a) (.string b)).run P w = .ok v w := by
  cases op <;> simp only [strBin] at h <;> (try split at h) <;> simp only [Option.some.injEq, reduceCtorEq] at h <;> (try subst h) <;>
    simp_all [binOp, Op.stringOp, ByteArray.toList_eq] <;> (try omega)
theorem run_binV {op : BinOp} {x y v : Value} (t : TypeId) (h : binV op x y = some v) : (binOp op t x y).run P w = .ok v w := by
  unfold binV at h
  split at h
  · exact run_intBin t h
  · exact run_strBin t h
  · cases h
theorem eqGuard_binV {op : BinOp} {x y v : Value} (t : TypeId) (a b : Operand) (h : binV op x y = some v) : (eqGuard op t a b x y).run P w = .ok () w := by
  unfold binV at h
  split at h
  · cases op <;> simp [eqGuard]
  · cases op <;> simp [eqGuard]
  · cases h
theorem map_inv {α β : Type} {f : α → β} {o : Option α} {b : β} (h : o.map f = some b) : ∃ a, o = some a ∧ f a = b := by
  cases o <;> simp_all
theorem bind_inv {α β : Type} {f : α → Option β} {o : Option α} {b : β} (h : o.bind f = some b) : ∃ a, o = some a ∧ f a = some b := by
  cases o <;> simp_all
theorem szOf_info {t : TypeId} {n : Nat} (h : szOf P t = some n) : ∃ i, P.info? t = some i ∧ i.size = n := by
  unfold szOf at h; exact map_inv h
theorem add_none (b off k : Nat) : Addr.add ⟨b, off, none⟩ k = ⟨b, off + k, none⟩ := by
  unfold Addr.add; split <;> simp_all
theorem run_offp {s : TypeId} {fs : Array Field} {f n : Nat} {g : Field} (hs : P.underlying s = some (.struct fs)) (hf : fs[f]? = some g) (hz : szOf P g.type = some (n + 1))
    {x v : Value} (h : offpV g.offset x = some v) : (Instr.fieldAt s x f).run P w = .ok v w := by
  unfold offpV at h
  split at h <;> simp at h
  subst h
  simp [Instr.fieldAt, run_underlying hs, hf, Instr.sureAddr, fieldPlace, run_size hz, add_none]
theorem run_ixArr {t e : TypeId} {n sz : Nat} (ht : P.underlying t = some (.array n e)) (hz : szOf P e = some sz) {x i v : Value} (h : ixArrV n sz x i = some v) :
    (Instr.indexAt t x i).run P w = .ok v w := by
  unfold ixArrV at h
  split at h <;> simp at h
  obtain ⟨⟨h0, h1⟩, rfl⟩ := h
  simp [Instr.indexAt, asIntOf, run_underlying ht, Instr.sureAddr, h0, h1, run_size hz, add_none]
theorem run_ixSl {t e : TypeId} {sz : Nat} (ht : P.underlying t = some (.slice e)) (hz : szOf P e = some sz) {x i v : Value} (h : ixSlV sz x i = some v) :
    (Instr.indexAt t x i).run P w = .ok v w := by
  unfold ixSlV at h
  split at h <;> simp at h
  obtain ⟨⟨h0, h1⟩, rfl⟩ := h
  simp [Instr.indexAt, asIntOf, run_underlying ht, h0, h1, run_size hz, add_none]
theorem run_idxAgg {t e : TypeId} {n m : Nat} {sz : Option Nat} (ht : P.underlying t = some (.array n e)) (hz : szOf P e = some m) (ha : aggOf P e = some sz) {x i v : Value}
    (h : idxAggV sz m n x i = some v) : (Instr.index t x i).run P w = .ok v w := by
  unfold idxAggV at h
  split at h <;> simp at h
  obtain ⟨⟨h0, h1⟩, h2⟩ := h
  simp [Instr.index, asIntOf, run_underlying ht, h0, h1, run_size hz, run_part ha h2]
theorem run_idxStr {t : TypeId} (ht : P.underlying t = some .string) {x i v : Value} (h : idxStrV x i = some v) : (Instr.index t x i).run P w = .ok v w := by
  unfold idxStrV at h
  split at h <;> simp at h
  obtain ⟨h0, b, hb, rfl⟩ := h
  rename_i s k i
  have : s[i.toNat]? = some b := by
    rw [← hb]; rfl
  simp [Instr.index, asIntOf, run_underlying ht, h0, this]
theorem run_bounds {b : Bool} {n cap : Nat} {kl kh : IntKind} {l h : Int} (h0 : 0 ≤ l) (h1 : l ≤ h) (h2 : h ≤ cap) (lo hi : Option Value)
    (hlo : lo = some (.int kl l) ∨ (lo = none ∧ l = 0)) (hhi : hi = some (.int kh h) ∨ (hi = none ∧ h = n)) :
    (Instr.sliceBounds b n cap lo hi none).run P w = .ok (l.toNat, h.toNat, cap) w := by
  have e1 : h.toNat ≤ cap := by omega
  have e2 : 0 ≤ h := by omega
  have e3 : l ≤ (h.toNat : Int) := by omega
  rcases hlo with rfl | ⟨rfl, rfl⟩ <;> rcases hhi with rfl | ⟨rfl, rfl⟩ <;>
    simp [Instr.sliceBounds, Instr.sliceBound, asIntOf, h0, h1, h2, e1, e2, e3]
  all_goals (try omega)
def OptRel (lo : Option Value) (d v : Value) : Prop := lo = some v ∨ (lo = none ∧ v = d)
theorem optRel_lo {lo : Option Value} {kl : IntKind} {l : Int} (h : OptRel lo (.int .i64 0) (.int kl l)) : lo = some (.int kl l) ∨ (lo = none ∧ l = 0) := by
  rcases h with h | ⟨h1, h2⟩
  · exact .inl h
  · simp at h2; exact .inr ⟨h1, h2.2⟩
theorem optRel_hi {hi : Option Value} {kh : IntKind} {h : Int} {n : Nat} (hh : OptRel hi (.int .i64 n) (.int kh h)) : hi = some (.int kh h) ∨ (hi = none ∧ h = n) := by
  rcases hh with h | ⟨h1, h2⟩
  · exact .inl h
  · simp at h2; exact .inr ⟨h1, h2.2⟩
theorem run_slArr {t e : TypeId} {n sz : Nat} (ht : P.underlying t = some (.array n e)) (hz : szOf P e = some sz) {x l h v : Value} {lo hi : Option Value}
    (hv : slArrV n sz x l h = some v) (hl : OptRel lo (.int .i64 0) l) (hh : OptRel hi (.int .i64 n) h) : (Instr.sliceAt t x lo hi none).run P w = .ok v w := by
  unfold slArrV at hv
  split at hv <;> simp at hv
  obtain ⟨⟨h0, h1, h2⟩, rfl⟩ := hv
  simp only [Instr.sliceAt, Sem.run_bind, run_underlying ht, Result.andThen_ok, Instr.sureAddr, Sem.run_pure,
    run_bounds (b := false) (n := n) (cap := n) h0 h1 h2 lo hi (optRel_lo hl) (optRel_hi hh), run_size hz, add_none]
theorem run_slSl {t e : TypeId} {sz : Nat} (ht : P.underlying t = some (.slice e)) (hz : szOf P e = some sz) {x l h v d : Value} {lo hi : Option Value}
    (hv : slSlV sz x l h = some v) (hl : OptRel lo (.int .i64 0) l) (hd : lenV false x = some d) (hh : OptRel hi d h) : (Instr.sliceAt t x lo hi none).run P w = .ok v w := by
  unfold slSlV at hv
  split at hv <;> simp at hv
  · obtain ⟨⟨h0, h1, h2⟩, rfl⟩ := hv
    simp [lenV] at hd; subst hd
    simp [Instr.sliceAt, Instr.slice, run_underlying ht,
      run_bounds (b := true) h0 h1 h2 lo hi (optRel_lo hl) (optRel_hi hh), run_size hz, add_none]
    split <;> rfl
  · obtain ⟨⟨h0, h1, h2⟩, rfl⟩ := hv
    simp [lenV] at hd; subst hd
    simp [Instr.sliceAt, Instr.slice, run_underlying ht,
      run_bounds (b := true) h0 h1 h2 lo hi (optRel_lo hl) (optRel_hi hh), run_size hz, add_none]
theorem run_slStr {t : TypeId} (ht : P.underlying t = some .string) {x l h v d : Value} {lo hi : Option Value}
    (hv : slStrV x l h = some v) (hl : OptRel lo (.int .i64 0) l) (hd : lenV true x = some d) (hh : OptRel hi d h) : (Instr.sliceAt t x lo hi none).run P w = .ok v w := by
  unfold slStrV at hv
  split at hv <;> simp at hv
  obtain ⟨⟨h0, h1, h2⟩, rfl⟩ := hv
  simp [lenV] at hd; subst hd
  simp [Instr.sliceAt, Instr.slice, run_underlying ht,
    run_bounds (b := false) h0 h1 h2 lo hi (optRel_lo hl) (optRel_hi hh)]
theorem isNilC_spec {y : Operand} {k : Nat} (hy : isNilC y = some k) :
    ∃ c, y = .const c ∧ ((k = 0 ∧ c = .pointer none) ∨ (k = 1 ∧ ∃ l m, c = .slice none l m) ∨ (k = 2 ∧ c = .nilFunc) ∨ (k = 3 ∧ c = .nilIface) ∨ (k = 4 ∧ c = .map none)) := by
  unfold isNilC at hy
  split at hy <;> simp at hy <;> subst hy
  · exact ⟨_, rfl, .inl ⟨rfl, rfl⟩⟩
  · exact ⟨_, rfl, .inr (.inl ⟨rfl, _, _, rfl⟩)⟩
  · exact ⟨_, rfl, .inr (.inr (.inl ⟨rfl, rfl⟩))⟩
  · exact ⟨_, rfl, .inr (.inr (.inr (.inl ⟨rfl, rfl⟩)))⟩
  · exact ⟨_, rfl, .inr (.inr (.inr (.inr ⟨rfl, rfl⟩)))⟩
theorem nilTy_spec {t : TypeId} {k : Nat} (h : nilTy P t = some k) :
    (k = 0 ∧ ∃ e, P.underlying t = some (.pointer e)) ∨ (k = 1 ∧ ∃ e, P.underlying t = some (.slice e)) ∨
    (k = 2 ∧ ∃ a b c, P.underlying t = some (.func a b c)) ∨ (k = 3 ∧ ∃ m, P.underlying t = some (.interface m)) ∨ (k = 4 ∧ ∃ a b, P.underlying t = some (.map a b)) := by
  unfold nilTy at h
  split at h <;> simp at h <;> subst h
  · exact .inl ⟨rfl, _, ‹_›⟩
  · exact .inr (.inl ⟨rfl, _, ‹_›⟩)
  · exact .inr (.inr (.inl ⟨rfl, _, _, _, ‹_›⟩))
  · exact .inr (.inr (.inr (.inl ⟨rfl, _, ‹_›⟩)))
  · exact .inr (.inr (.inr (.inr ⟨rfl, _, _, ‹_›⟩)))
theorem equalIn_nil (d : Nat) {t : TypeId} {y : Operand} {k : Nat} (hy : isNilC y = some k) (ht : nilTy P t = some k) {ne : Bool} {u v : Value} (hv : nilV k ne u = some v) :
    ∃ c r, y = .const c ∧ v = .bool (ne != r) ∧ (Op.equalIn (d + 1) t u c).run P w = .ok r w ∧ (Op.equalIn (d + 1) t c u).run P w = .ok r w := by
  obtain ⟨c, rfl, hc⟩ := isNilC_spec hy
  have ht' := nilTy_spec ht
  rcases ht' with ⟨h, e, he⟩ | ⟨h, e, he⟩ | ⟨h, e, e1, e2, he⟩ | ⟨h, e, he⟩ | ⟨h, e, e1, he⟩ <;> subst h <;> simp at hc <;> (first | subst hc | (obtain ⟨l, m, hc⟩ := hc; subst hc))
  · cases u <;> simp [nilV] at hv
    rename_i p
    subst hv
    refine ⟨_, p.isNone, rfl, rfl, ?_, ?_⟩ <;> cases p <;> simp only [Op.equalIn, Sem.run_bind, run_underlying he, Result.andThen_ok, Sem.run_pure, Option.isNone]
  · cases u <;> simp [nilV] at hv
    rename_i p _ _
    subst hv
    refine ⟨_, p.isNone, rfl, rfl, ?_, ?_⟩ <;> cases p <;> simp only [Op.equalIn, Sem.run_bind, run_underlying he, Result.andThen_ok, Sem.run_pure, Option.isNone]
  · cases u <;> simp [nilV] at hv <;> subst hv
    · refine ⟨_, false, rfl, by simp, ?_, ?_⟩ <;> simp only [Op.equalIn, Sem.run_bind, run_underlying he, Result.andThen_ok, Sem.run_pure]
    · refine ⟨_, true, rfl, by simp, ?_, ?_⟩ <;> simp only [Op.equalIn, Sem.run_bind, run_underlying he, Result.andThen_ok, Sem.run_pure]
  · cases u <;> simp [nilV] at hv <;> subst hv
    · refine ⟨_, false, rfl, by simp, ?_, ?_⟩ <;> simp only [Op.equalIn, Sem.run_bind, run_underlying he, Result.andThen_ok, Sem.run_pure]
    · refine ⟨_, true, rfl, by simp, ?_, ?_⟩ <;> simp only [Op.equalIn, Sem.run_bind, run_underlying he, Result.andThen_ok, Sem.run_pure]
  · cases u <;> simp [nilV] at hv
    rename_i p
    subst hv
    refine ⟨_, p.isNone, rfl, rfl, ?_, ?_⟩ <;> cases p <;> simp only [Op.equalIn, Sem.run_bind, run_underlying he, Result.andThen_ok, Sem.run_pure, Option.isNone]
def odd : Value → Bool
  | .int _ _ | .float _ _ | .complex _ _ _ | .string _ => false
  | _ => true
theorem run_eq_odd {op : BinOp} {t : TypeId} {u c : Value} {r : Bool} (he : isEq op = true) (hu : odd u = true) (h : (Op.equal t u c).run P w = .ok r w) :
    (binOp op t u c).run P w = .ok (.bool (isNe op != r)) w := by
  cases op <;> simp [isEq] at he <;> cases u <;> simp [odd] at hu <;>
    simp only [binOp, Sem.run_bind, h, Result.andThen_ok, Sem.run_pure, isNe, Bool.false_bne, Bool.true_bne]
end
end Go.Eng
