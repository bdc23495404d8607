/- Engine, part XY, tables: each operation on words of 32 bits makes a symbol of its own (from 100000 on), which a packed table names. -/
import Derived.Test.YtipfkfecelkhnaaGreatDoorEngXY
set_option linter.unusedSimpArgs false
set_option linter.unusedVariables false
set_option linter.unusedSectionVars false
namespace Go.Eng
noncomputable section
inductive PkT where
  | leaf (n : Nat)
  | node (l r : PkT)
def PkT.get (t : PkT) : Nat → Nat := PkT.rec (fun n _ => n) (fun _ _ gl gr k => Bool.rec (gr (Nat.div k (nat_lit 2))) (gl (Nat.div k (nat_lit 2))) (Nat.beq (Nat.mod k (nat_lit 2)) (nat_lit 0))) t
theorem bltT {a b : Nat} (h : Nat.blt a b = true) : a < b := Nat.le_of_ble_eq_true h
/-- Entries (16 a leaf, 56 bits each; from 8192 on in a second tree), places of them by a sum (64 a leaf, 16 bits each; two such), how many places, how many numbers are given. -/
structure Tab where
  E : PkT
  E2 : PkT
  H : PkT
  S : Nat
  H2 : PkT
  S2 : Nat
  np : Nat
def Tab.ent (t : Tab) (j : Nat) : Nat := Nat.mod (Nat.shiftRight (Bool.rec (t.E2.get (Nat.div (Nat.mod j 8192) 16)) (t.E.get (Nat.div j 16)) (Nat.blt j 8192) : Nat) (Nat.mul 56 (Nat.mod j 16))) 72057594037927936
def slotT (H : PkT) (h : Nat) : Nat := Nat.mod (Nat.shiftRight (H.get (Nat.div h 64)) (Nat.mul 16 (Nat.mod h 64))) 65536
def pk (c u v : Nat) : Nat := Nat.add c (Nat.mul 16 (Nat.add u (Nat.mul 65536 v)))
def Tab.probe (t : Tab) (H : PkT) (S e : Nat) (f : Nat) : Nat → Option Nat := Nat.rec (fun _ => none) (fun _ ih h => (Nat.rec none (fun j _ => Bool.rec (ih (Nat.mod (Nat.succ h) S)) (some j) (Nat.beq (t.ent j) e)) (slotT H h) : Option Nat)) f
theorem probe_some {t : Tab} {H : PkT} {S e : Nat} : ∀ {f h j : Nat}, t.probe H S e f h = some j → t.ent j = e
  | 0, h, j, hh => by cases hh
  | f + 1, h, j, hh => by
    have h' : (Nat.rec none (fun j _ => Bool.rec (t.probe H S e f (Nat.mod (Nat.succ h) S)) (some j) (Nat.beq (t.ent j) e)) (slotT H h) : Option Nat) = some j := hh
    cases hs : slotT H h with
    | zero => rw [hs] at h'; cases h'
    | succ i =>
      rw [hs] at h'
      have h2 : (Bool.rec (t.probe H S e f (Nat.mod (Nat.succ h) S)) (some i) (Nat.beq (t.ent i) e) : Option Nat) = some j := h'
      cases hb : Nat.beq (t.ent i) e with
      | false => rw [hb] at h2; exact probe_some h2
      | true => rw [hb] at h2; obtain rfl := Option.some.inj h2; exact Nat.eq_of_beq_eq_true hb
def Tab.look (t : Tab) (e : Nat) : Option Nat := match t.probe t.H t.S e 400 (Nat.mod (Nat.mod e 1000003) t.S) with
  | some j => some j
  | none => t.probe t.H2 t.S2 e 400 (Nat.mod (Nat.mod e 1000003) t.S2)
theorem look_some {t : Tab} {e j : Nat} (h : t.look e = some j) : t.ent j = e := by
  unfold Tab.look at h
  split at h
  · rename_i i hi
    obtain rfl := Option.some.inj h
    exact probe_some hi
  · exact probe_some h
/-! What the symbols stand for. -/
def opI (c : Nat) (a b : Int) : Int := match c with
  | 0 => IntKind.u32.wrap (a + b)
  | 1 => IntKind.u32.wrap (BitVec.ofInt 32 a ^^^ BitVec.ofInt 32 b).toNat
  | 2 => IntKind.u32.wrap (BitVec.ofInt 32 a &&& BitVec.ofInt 32 b).toNat
  | 3 => IntKind.u32.wrap (BitVec.ofInt 32 a ||| BitVec.ofInt 32 b).toNat
  | 4 => IntKind.u32.wrap (a * 2 ^ (min b.toNat 32))
  | 5 => a.fdiv (2 ^ (min b.toNat 32))
  | 8 => match unV .xor (.int .u32 a) with
    | some (.int _ r) => r
    | _ => 0
  | 9 => IntKind.u8.wrap a
  | 10 => IntKind.u32.wrap a
  | _ => 0
def Tab.val (t : Tab) (p : Nat → Int) : Nat → Nat → Int
  | 0, _ => 0
  | f + 1, j => if j < t.np then p j else
      opI (t.ent j % 16) (if t.ent j / 16 % 65536 < j then t.val p f (t.ent j / 16 % 65536) else 0)
        (if t.ent j / 1048576 % 2 = 0 then (if t.ent j / 1048576 / 2 < j then t.val p f (t.ent j / 1048576 / 2) else 0) else ((t.ent j / 1048576 / 2 : Nat) : Int))
theorem val_fuel (t : Tab) (p : Nat → Int) : ∀ (j f : Nat), j < f → t.val p f j = t.val p (j + 1) j := by
  intro j
  induction j using Nat.strongRecOn with
  | _ j ih =>
    intro f hf
    obtain ⟨f, rfl⟩ : ∃ g, f = g + 1 := ⟨f - 1, by omega⟩
    have key : ∀ u, u < j → t.val p f u = t.val p j u := fun u hu => by rw [ih u hu f (by omega), ih u hu j hu]
    simp only [Tab.val]
    split
    · rfl
    · congr 1
      · split
        · rename_i h; exact key _ h
        · rfl
      · split
        · split
          · rename_i h; exact key _ h
          · rfl
        · rfl
def Tab.isW (t : Tab) (j : Nat) : Bool := match Nat.blt j t.np with
  | true => false
  | false => match Nat.beq (Nat.mod (t.ent j) 16) 9 with
    | true => false
    | false => true
def Tab.kind (t : Tab) (j : Nat) : IntKind := match t.isW j with
  | true => .u32
  | false => .u8
def Tab.th (t : Tab) (p : Nat → Int) (j : Nat) : Value := .int (t.kind j) (t.val p (j + 1) j)
theorem pk_c (c u v : Nat) (hc : c < 16) : pk c u v % 16 = c := by
  show (c + 16 * (u + 65536 * v)) % 16 = c
  omega
theorem pk_u (c u v : Nat) (hc : c < 16) (hu : u < 65536) : pk c u v / 16 % 65536 = u := by
  show (c + 16 * (u + 65536 * v)) / 16 % 65536 = u
  omega
theorem pk_v (c u v : Nat) (hc : c < 16) (hu : u < 65536) : pk c u v / 1048576 = v := by
  show (c + 16 * (u + 65536 * v)) / 1048576 = v
  omega
/-- The entry's value. -/
theorem val_at {t : Tab} {p : Nat → Int} {j c u v : Nat} (he : t.ent j = pk c u v) (hj : ¬ j < t.np) (hc : c < 16) (hu : u < 65536) (huj : u < j) (hv : v % 2 = 0 → v / 2 < j) :
    t.val p (j + 1) j = opI c (t.val p (u + 1) u) (if v % 2 = 0 then t.val p (v / 2 + 1) (v / 2) else ((v / 2 : Nat) : Int)) := by
  simp only [Tab.val]
  rw [if_neg hj, he, pk_c c u v hc, pk_u c u v hc hu, pk_v c u v hc hu, if_pos huj, val_fuel t p u j huj]
  simp only [Tab.val]
  congr 1
  split
  · rename_i h
    rw [if_pos (hv h), val_fuel t p _ j (hv h)]
    simp only [Tab.val]
  · rfl
/-! Rules. -/
def symT (j : Nat) : Value := .chan (some (Nat.add 100000 j))
/-- An entry of these operands (v: twice a symbol's number, or twice a number and one). -/
def Tab.find (t : Tab) (c u v : Nat) : Option Value := match t.look (pk c u v) with
  | none => none
  | some j => match Nat.blt j t.np with
    | true => none
    | false => match Nat.blt u j && (Nat.blt u 65536 && (Nat.beq (Nat.mod v 2) 1 || Nat.blt (Nat.div v 2) j)) with
      | true => some (symT j)
      | false => none
def isB (j : Nat) : Bool := Nat.beq (Nat.div j 100000) 1
theorem isB_eq {a : Nat} (h : isB a = true) : 100000 + Nat.mod a 100000 = a := by
  have h1 : a / 100000 = 1 := Nat.eq_of_beq_eq_true h
  show 100000 + a % 100000 = a
  omega
def Tab.arith (t : Tab) (c : Nat) (u v : Value) : Option Value := match u, v with
  | .chan (some a), .chan (some b) => match isB a && (isB b && (t.isW (Nat.mod a 100000) && t.isW (Nat.mod b 100000))) with
    | true => t.find c (Nat.mod a 100000) (Nat.mul 2 (Nat.mod b 100000))
    | false => none
  | .chan (some a), .int .u32 (.ofNat n) => match isB a && t.isW (Nat.mod a 100000) with
    | true => t.find c (Nat.mod a 100000) (Nat.succ (Nat.mul 2 n))
    | false => none
  | .int .u32 (.ofNat n), .chan (some a) => match isB a && t.isW (Nat.mod a 100000) with
    | true => t.find c (Nat.mod a 100000) (Nat.succ (Nat.mul 2 n))
    | false => none
  | _, _ => none
def Tab.shft (t : Tab) (c : Nat) (u v : Value) : Option Value := match u, v with
  | .chan (some a), .int _ (.ofNat n) => match isB a && t.isW (Nat.mod a 100000) with
    | true => t.find c (Nat.mod a 100000) (Nat.succ (Nat.mul 2 n))
    | false => none
  | _, _ => none
def Tab.f2 (t : Tab) (o : U2) (u v : Value) : Option Value := match o with
  | .bin .add => t.arith 0 u v
  | .bin .xor => t.arith 1 u v
  | .bin .and => t.arith 2 u v
  | .bin .or => t.arith 3 u v
  | .bin .shl => t.shft 4 u v
  | .bin .shr => t.shft 5 u v
  | _ => none
def Tab.f1 (t : Tab) (o : U1) (u : Value) : Option Value := match u with
  | .chan (some a) => match isB a with
    | false => none
    | true => match o with
      | .un .xor => match t.isW (Nat.mod a 100000) with
        | true => t.find 8 (Nat.mod a 100000) 1
        | false => none
      | .conv .u8 => match t.isW (Nat.mod a 100000) with
        | true => t.find 9 (Nat.mod a 100000) 1
        | false => none
      | .conv .u32 => match t.isW (Nat.mod a 100000) with
        | true => none
        | false => t.find 10 (Nat.mod a 100000) 1
      | _ => none
  | _ => none
theorem find_some {t : Tab} {p : Nat → Int} {c u v : Nat} {r : Value} (hc : c < 16) (h : t.find c u v = some r) : ∃ j, r = symT j ∧ ¬ j < t.np ∧ t.ent j % 16 = c ∧ t.val p (j + 1) j = opI c (t.val p (u + 1) u) (if v % 2 = 0 then t.val p (v / 2 + 1) (v / 2) else ((v / 2 : Nat) : Int)) := by
  unfold Tab.find at h
  split at h
  · cases h
  · rename_i j hj
    split at h
    · cases h
    · rename_i hb
      split at h
      · rename_i hh
        obtain rfl := Option.some.inj h
        simp only [Bool.and_eq_true, Bool.or_eq_true] at hh
        obtain ⟨h1, h2, h3⟩ := hh
        have he : t.ent j = pk c u v := look_some hj
        have hnp : ¬ j < t.np := fun hlt => by
          rw [show Nat.blt j t.np = true from Nat.ble_eq_true_of_le hlt] at hb
          cases hb
        have hu := bltT h2
        refine ⟨j, rfl, hnp, by rw [he]; exact pk_c c u v hc, val_at he hnp hc hu (bltT h1) fun hv => ?_⟩
        rcases h3 with h3 | h3
        · have : v % 2 = 1 := Nat.eq_of_beq_eq_true h3
          omega
        · exact bltT h3
      · cases h
theorem isW_kind {t : Tab} {j : Nat} (h : t.isW j = true) : t.kind j = .u32 := by unfold Tab.kind; rw [h]
theorem kind_of {t : Tab} {j c : Nat} (hj : ¬ j < t.np) (he : t.ent j % 16 = c) : t.kind j = if c = 9 then .u8 else .u32 := by
  have h1 : Nat.blt j t.np = false := by
    cases e : Nat.blt j t.np with
    | false => rfl
    | true => exact absurd (bltT e) hj
  unfold Tab.kind Tab.isW
  rw [h1]
  simp only
  by_cases hc : c = 9
  · rw [if_pos hc, show Nat.beq (Nat.mod (t.ent j) 16) 9 = true from by rw [show Nat.mod (t.ent j) 16 = c from he, hc]; rfl]
  · rw [if_neg hc]
    have : Nat.beq (Nat.mod (t.ent j) 16) 9 = false := by
      cases e : Nat.beq (Nat.mod (t.ent j) 16) 9 with
      | false => rfl
      | true => exact absurd (he.symm.trans (Nat.eq_of_beq_eq_true e)) hc
    rw [this]
theorem lowB {a : Nat} (h : isB a = true) : lowS (.chan (some a)) = true := low_big (by have := isB_eq h; omega)
theorem lowT (j : Nat) : lowS (symT j) = true := low_big (Nat.le_add_right 100000 j)
theorem arith_ok {t : Tab} {p : Nat → Int} {θ : Nat → Value} (hθ : ∀ j, θ (100000 + j) = t.th p j) {c : Nat} {op : BinOp} (hc : c < 9)
    (hop : ∀ a b : Int, U2.ap (.bin op) (.int .u32 a) (.int .u32 b) = some (.int .u32 (opI c a b))) (hcomm : ∀ a b : Int, opI c a b = opI c b a) {u v r : Value} (h : t.arith c u v = some r) :
    lowS u = true ∧ lowS v = true ∧ lowS r = true ∧ U2.ap (.bin op) (syV θ u) (syV θ v) = some (syV θ r) := by
  have hb : ∀ {a : Nat}, isB a = true → θ a = t.th p (Nat.mod a 100000) := fun {a} ha => by
    rw [← hθ, show 100000 + Nat.mod a 100000 = a from isB_eq ha]
  have hw : ∀ {a : Nat}, isB a = true → t.isW (Nat.mod a 100000) = true → θ a = .int .u32 (t.val p (Nat.mod a 100000 + 1) (Nat.mod a 100000)) := fun {a} ha hw => by
    rw [hb ha]; unfold Tab.th; rw [isW_kind hw]
  have hr : ∀ {j : Nat}, ¬ j < t.np → t.ent j % 16 = c → θ (100000 + j) = .int .u32 (t.val p (j + 1) j) := fun {j} h1 h2 => by
    rw [hθ]; unfold Tab.th; rw [kind_of h1 h2, if_neg (by omega)]
  unfold Tab.arith at h
  split at h
  · rename_i a b
    split at h
    · rename_i hh
      simp only [Bool.and_eq_true] at hh
      obtain ⟨h1, h2, h3, h4⟩ := hh
      obtain ⟨j, rfl, g1, g2, g3⟩ := find_some (p := p) (by omega) h
      refine ⟨lowB h1, lowB h2, lowT j, ?_⟩
      show U2.ap (.bin op) (θ a) (θ b) = some (θ (100000 + j))
      rw [hw h1 h3, hw h2 h4, hr g1 g2, hop, g3]
      have e1 : Nat.mul 2 (Nat.mod b 100000) % 2 = 0 := Nat.mul_mod_right 2 _
      have e2 : Nat.mul 2 (Nat.mod b 100000) / 2 = Nat.mod b 100000 := Nat.mul_div_cancel_left _ (by decide)
      rw [if_pos e1, e2]
    · cases h
  · rename_i a n
    split at h
    · rename_i hh
      simp only [Bool.and_eq_true] at hh
      obtain ⟨j, rfl, g1, g2, g3⟩ := find_some (p := p) (by omega) h
      refine ⟨lowB hh.1, rfl, lowT j, ?_⟩
      show U2.ap (.bin op) (θ a) (.int .u32 (.ofNat n)) = some (θ (100000 + j))
      rw [hw hh.1 hh.2, hr g1 g2, hop, g3]
      have e1 : ¬ (Nat.succ (Nat.mul 2 n) % 2 = 0) := by show ¬ ((2 * n + 1) % 2 = 0); omega
      have e2 : Nat.succ (Nat.mul 2 n) / 2 = n := by show (2 * n + 1) / 2 = n; omega
      rw [if_neg e1, e2]; rfl
    · cases h
  · rename_i n a
    split at h
    · rename_i hh
      simp only [Bool.and_eq_true] at hh
      obtain ⟨j, rfl, g1, g2, g3⟩ := find_some (p := p) (by omega) h
      refine ⟨rfl, lowB hh.1, lowT j, ?_⟩
      show U2.ap (.bin op) (.int .u32 (.ofNat n)) (θ a) = some (θ (100000 + j))
      rw [hw hh.1 hh.2, hr g1 g2, hop, g3, hcomm]
      have e1 : ¬ (Nat.succ (Nat.mul 2 n) % 2 = 0) := by show ¬ ((2 * n + 1) % 2 = 0); omega
      have e2 : Nat.succ (Nat.mul 2 n) / 2 = n := by show (2 * n + 1) / 2 = n; omega
      rw [if_neg e1, e2]; rfl
    · cases h
  · cases h
theorem shft_ok {t : Tab} {p : Nat → Int} {θ : Nat → Value} (hθ : ∀ j, θ (100000 + j) = t.th p j) {c : Nat} {op : BinOp} (hc : c < 9)
    (hop : ∀ (a : Int) (k : IntKind) (n : Nat), U2.ap (.bin op) (.int .u32 a) (.int k (.ofNat n)) = some (.int .u32 (opI c a n))) {u v r : Value} (h : t.shft c u v = some r) :
    lowS u = true ∧ lowS v = true ∧ lowS r = true ∧ U2.ap (.bin op) (syV θ u) (syV θ v) = some (syV θ r) := by
  unfold Tab.shft at h
  split at h
  · rename_i a k n
    split at h
    · rename_i hh
      simp only [Bool.and_eq_true] at hh
      obtain ⟨j, rfl, g1, g2, g3⟩ := find_some (p := p) (by omega) h
      refine ⟨lowB hh.1, rfl, lowT j, ?_⟩
      show U2.ap (.bin op) (θ a) (.int k (.ofNat n)) = some (θ (100000 + j))
      have e0 : θ a = .int .u32 (t.val p (Nat.mod a 100000 + 1) (Nat.mod a 100000)) := by
        have e := hθ (Nat.mod a 100000)
        rw [isB_eq hh.1] at e
        rw [e]
        unfold Tab.th
        rw [isW_kind hh.2]
      rw [e0, hop, hθ]
      unfold Tab.th
      rw [kind_of g1 g2, if_neg (by omega), g3]
      have e1 : ¬ (Nat.succ (Nat.mul 2 n) % 2 = 0) := by show ¬ ((2 * n + 1) % 2 = 0); omega
      have e2 : Nat.succ (Nat.mul 2 n) / 2 = n := by show (2 * n + 1) / 2 = n; omega
      rw [if_neg e1, e2]
    · cases h
  · cases h
theorem f2T_ok {t : Tab} {p : Nat → Int} {θ : Nat → Value} (hθ : ∀ j, θ (100000 + j) = t.th p j) (o : U2) (u v r : Value) (h : t.f2 o u v = some r) : lowS u = true ∧ lowS v = true ∧ lowS r = true ∧ o.ap (syV θ u) (syV θ v) = some (syV θ r) := by
  unfold Tab.f2 at h
  split at h
  · exact arith_ok hθ (by decide) (fun _ _ => rfl) (fun a b => by show IntKind.u32.wrap (a + b) = IntKind.u32.wrap (b + a); rw [Int.add_comm]) h
  · exact arith_ok hθ (by decide) (fun _ _ => rfl) (fun a b => by show IntKind.u32.wrap (BitVec.ofInt 32 a ^^^ BitVec.ofInt 32 b).toNat = IntKind.u32.wrap (BitVec.ofInt 32 b ^^^ BitVec.ofInt 32 a).toNat; rw [BitVec.xor_comm]) h
  · exact arith_ok hθ (by decide) (fun _ _ => rfl) (fun a b => by show IntKind.u32.wrap (BitVec.ofInt 32 a &&& BitVec.ofInt 32 b).toNat = IntKind.u32.wrap (BitVec.ofInt 32 b &&& BitVec.ofInt 32 a).toNat; rw [BitVec.and_comm]) h
  · exact arith_ok hθ (by decide) (fun _ _ => rfl) (fun a b => by show IntKind.u32.wrap (BitVec.ofInt 32 a ||| BitVec.ofInt 32 b).toNat = IntKind.u32.wrap (BitVec.ofInt 32 b ||| BitVec.ofInt 32 a).toNat; rw [BitVec.or_comm]) h
  · exact shft_ok hθ (by decide) (fun a k n => by
      show (if ((n : Nat) : Int) < 0 then none else some (Value.int .u32 (IntKind.u32.wrap (a * 2 ^ (min ((n : Nat) : Int).toNat 32))))) = _
      rw [if_neg (by omega)]; rfl) h
  · exact shft_ok hθ (by decide) (fun a k n => by
      show (if ((n : Nat) : Int) < 0 then none else some (Value.int .u32 (a.fdiv (2 ^ (min ((n : Nat) : Int).toNat 32))))) = _
      rw [if_neg (by omega)]; rfl) h
  · cases h
theorem xor_ap (a b : Int) : U1.ap (.un .xor) (.int .u32 a) = some (.int .u32 (opI 8 a b)) := rfl
theorem f1T_ok {t : Tab} {p : Nat → Int} {θ : Nat → Value} (hθ : ∀ j, θ (100000 + j) = t.th p j) (o : U1) (u r : Value) (h : t.f1 o u = some r) : lowS u = true ∧ lowS r = true ∧ o.ap (syV θ u) = some (syV θ r) := by
  have hb : ∀ {a : Nat}, isB a = true → θ a = t.th p (Nat.mod a 100000) := fun {a} ha => by
    rw [← hθ, show 100000 + Nat.mod a 100000 = a from isB_eq ha]
  unfold Tab.f1 at h
  split at h
  · rename_i a
    split at h
    · cases h
    · rename_i ha
      split at h
      · split at h
        · rename_i hw
          obtain ⟨j, rfl, g1, g2, g3⟩ := find_some (p := p) (by decide) h
          refine ⟨lowB (a := a) (by simpa using ha), lowT j, ?_⟩
          show U1.ap (.un .xor) (θ a) = some (θ (100000 + j))
          rw [hb ha, hθ]
          unfold Tab.th
          rw [isW_kind hw, kind_of g1 g2, if_neg (by decide), g3]
          exact xor_ap _ _
        · cases h
      · split at h
        · rename_i hw
          obtain ⟨j, rfl, g1, g2, g3⟩ := find_some (p := p) (by decide) h
          refine ⟨lowB (a := a) (by simpa using ha), lowT j, ?_⟩
          show U1.ap (.conv .u8) (θ a) = some (θ (100000 + j))
          rw [hb ha, hθ]
          unfold Tab.th
          rw [isW_kind hw, kind_of g1 g2, if_pos rfl, g3]
          rfl
        · cases h
      · split at h
        · cases h
        · obtain ⟨j, rfl, g1, g2, g3⟩ := find_some (p := p) (by decide) h
          refine ⟨lowB (a := a) (by simpa using ha), lowT j, ?_⟩
          show U1.ap (.conv .u32) (θ a) = some (θ (100000 + j))
          rw [hb ha, hθ]
          unfold Tab.th
          rw [kind_of g1 g2, if_neg (by decide), g3]
          rfl
      · cases h
  · cases h
/-- What they all stand for. -/
def thTab (t : Tab) (p : Nat → Int) (θe : Nat → Value) (j : Nat) : Value := match Nat.ble 100000 j with
  | true => t.th p (Nat.sub j 100000)
  | false => θe j
theorem thTab_at (t : Tab) (p : Nat → Int) (θe : Nat → Value) (j : Nat) : thTab t p θe (100000 + j) = t.th p j := by
  unfold thTab
  rw [Nat.ble_eq_true_of_le (Nat.le_add_right 100000 j)]
  show t.th p (100000 + j - 100000) = _
  rw [Nat.add_sub_cancel_left]
theorem thTab_plain {t : Tab} {p : Nat → Int} {θe : Nat → Value} (h : ∀ j, plainV (θe j) = true) (j : Nat) : plainV (thTab t p θe j) = true := by
  unfold thTab
  split
  · rfl
  · exact h j
def f1X (t : Tab) (e : List (U1 × Value × Value)) (o : U1) (u : Value) : Option Value := match t.f1 o u with
  | some r => some r
  | none => find1 e o u
def f2X (t : Tab) (e : List (U2 × Value × Value × Value)) (o : U2) (u v : Value) : Option Value := match t.f2 o u v with
  | some r => some r
  | none => find2 e o u v
/-- The same symbol twice. -/
def fqX (e : List (Value × Value × Bool)) (u v : Value) : Option Bool := match u, v with
  | .chan (some a), .chan (some b) => match isB a && Nat.beq a b with
    | true => some true
    | false => findQ e u v
  | _, _ => findQ e u v
section
variable {t : Tab} {p : Nat → Int} {θe : Nat → Value}
theorem f1X_ok {e : List (U1 × Value × Value)} (he : ∀ x ∈ e, Rule1 (thTab t p θe) x) (le : low1 e = true) (o : U1) (u r : Value) (h : f1X t e o u = some r) : lowS u = true ∧ lowS r = true ∧ o.ap (syV (thTab t p θe) u) = some (syV (thTab t p θe) r) := by
  unfold f1X at h
  split at h
  · rename_i r0 hr
    obtain rfl := Option.some.inj h
    exact f1T_ok (thTab_at t p θe) o u _ hr
  · obtain ⟨h1, h2⟩ := find1_low le h
    exact ⟨h1, h2, (find1_ok he h).2.2⟩
theorem f2X_ok {e : List (U2 × Value × Value × Value)} (he : ∀ x ∈ e, Rule2 (thTab t p θe) x) (le : low2 e = true) (o : U2) (u v r : Value) (h : f2X t e o u v = some r) : lowS u = true ∧ lowS v = true ∧ lowS r = true ∧ o.ap (syV (thTab t p θe) u) (syV (thTab t p θe) v) = some (syV (thTab t p θe) r) := by
  unfold f2X at h
  split at h
  · rename_i r0 hr
    obtain rfl := Option.some.inj h
    exact f2T_ok (thTab_at t p θe) o u v _ hr
  · obtain ⟨h1, h2, h3⟩ := find2_low le h
    exact ⟨h1, h2, h3, (find2_ok he h).2.2.2⟩
theorem fqX_ok {e : List (Value × Value × Bool)} (he : ∀ x ∈ e, RuleE (thTab t p θe) x) (le : lowE e = true) (u v : Value) (b : Bool) (h : fqX e u v = some b) : lowS u = true ∧ lowS v = true ∧ ∃ k x y, syV (thTab t p θe) u = .int k x ∧ syV (thTab t p θe) v = .int k y ∧ b = (x == y) := by
  have hext : findQ e u v = some b → lowS u = true ∧ lowS v = true ∧ ∃ k x y, syV (thTab t p θe) u = .int k x ∧ syV (thTab t p θe) v = .int k y ∧ b = (x == y) := fun h => by
    obtain ⟨h1, h2⟩ := findQ_low le h
    exact ⟨h1, h2, (findQ_ok he h).2.2⟩
  unfold fqX at h
  split at h
  · rename_i a c
    split at h
    · rename_i hh
      simp only [Bool.and_eq_true] at hh
      obtain rfl := Option.some.inj h
      obtain rfl := Nat.eq_of_beq_eq_true hh.2
      have e := thTab_at t p θe (Nat.mod a 100000)
      rw [isB_eq hh.1] at e
      exact ⟨lowB hh.1, lowB hh.1, _, _, _, e, e, by simp⟩
    · exact hext h
  · exact hext h
end
/-- Symbols by a table, and rows. -/
abbrev syRowsT (t : Tab) (p : Nat → Int) (θe : Nat → Value) (hq : ∀ j, plainV (θe j) = true) (e1 : List (U1 × Value × Value)) (e2 : List (U2 × Value × Value × Value)) (eq : List (Value × Value × Bool))
    (g1 : ∀ x ∈ e1, Rule1 (thTab t p θe) x) (l1 : low1 e1 = true) (g2 : ∀ x ∈ e2, Rule2 (thTab t p θe) x) (l2 : low2 e2 = true) (g3 : ∀ x ∈ eq, RuleE (thTab t p θe) x) (l3 : lowE eq = true)
    (R : List RowS) (D : List RowD) (hf : Fits (thTab t p θe) R D) : Sy where
  θ := thX (thTab t p θe) D
  plain := thX_plain fun j => plainT_of (thTab_plain hq j)
  f1 := fX1 (f1X t e1) R
  f2 := fX2 (f2X t e2) R
  f3 := fX3 R
  fe := fqX eq
  fl := fXl R
  fr := fXr R
  K := RowsIn (thTab t p θe) R D
  kk := fun _ _ h hk => h.keep hk
  ok1 := fX1_ok hf (f1X_ok g1 l1)
  ok2 := fX2_ok hf (f2X_ok g2 l2)
  ok3 := fX3_ok hf
  okl := fXl_ok hf
  okr := fXr_ok hf
  okp := thX_ptr hf (thTab_plain hq)
  oke := fun u v b h => by
    obtain ⟨q1, q2, q3⟩ := fqX_ok g3 l3 u v b h
    rw [low_syV q1, low_syV q2]
    exact ⟨low_isSy q1, low_isSy q2, q3⟩
end
end Go.Eng
