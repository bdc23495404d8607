/- Layer 11, part A: rights; what is common; helpers. -/
import Derived.Test.YtaaicadjoghbcaaDoorCmdsRt
import Derived.Test.YtaaicadjoghbcaaDoorBase
set_option linter.unusedSimpArgs false
set_option linter.unusedVariables false
set_option maxRecDepth 8000
namespace Go.Proofs.YtaaicadjoghbcaaDoor
open Go.Eng

structure Rt where
  c : Nat
  p : Nat
  m : Nat
  h : Nat
  v : Bool
  s : Bool
deriving DecidableEq

def Rt.arr (r : Rt) : Array Value := #[.int .u16 r.c, .int .u16 r.p, .int .u16 r.m, .int .u16 r.h, .bool r.v, .bool r.s]
def Rt.val (r : Rt) : Value := .agg r.arr
attribute [simp] Rt.val
structure Rt.wf (r : Rt) : Prop where
  c : r.c < 65536
  p : r.p < 65536
  m : r.m < 65536
  h : r.h < 65536
@[simp] theorem rt_0 (v : Rt) : v.arr[0]? = some (.int .u16 v.c) := rfl
@[simp] theorem rt_1 (v : Rt) : v.arr[1]? = some (.int .u16 v.p) := rfl
@[simp] theorem rt_2 (v : Rt) : v.arr[2]? = some (.int .u16 v.m) := rfl
@[simp] theorem rt_3 (v : Rt) : v.arr[3]? = some (.int .u16 v.h) := rfl
@[simp] theorem rt_4 (v : Rt) : v.arr[4]? = some (.bool v.v) := rfl
@[simp] theorem rt_5 (v : Rt) : v.arr[5]? = some (.bool v.s) := rfl
@[simp] theorem rt_g0 (v : Rt) (h : 0 < v.arr.size) : v.arr[0]'h = .int .u16 v.c := rfl
@[simp] theorem rt_g1 (v : Rt) (h : 1 < v.arr.size) : v.arr[1]'h = .int .u16 v.p := rfl
@[simp] theorem rt_g2 (v : Rt) (h : 2 < v.arr.size) : v.arr[2]'h = .int .u16 v.m := rfl
@[simp] theorem rt_g3 (v : Rt) (h : 3 < v.arr.size) : v.arr[3]'h = .int .u16 v.h := rfl
@[simp] theorem rt_g4 (v : Rt) (h : 4 < v.arr.size) : v.arr[4]'h = .bool v.v := rfl
@[simp] theorem rt_g5 (v : Rt) (h : 5 < v.arr.size) : v.arr[5]'h = .bool v.s := rfl
@[simp] theorem rt_size (v : Rt) : v.arr.size = 6 := by simp [Rt.arr]
theorem rt_one (v : Rt) : v.arr.all (·.oneCell') = true := by simp [Rt.arr, Value.oneCell']
@[simp] theorem wrow_rt (w : World) (v : Rt) (T : TypeId) (fz : Nat × Nat) : wrow (w.alloc (.cells v.arr T fz)) w.heap.size 0 6 = some v.arr := wrow_all _ _ _ _ _ (by simp)

def Rt.zero : Rt := ⟨0, 0, 0, 0, false, false⟩
def Rt.all : Rt := ⟨255, 15, 63, 255, true, false⟩
def common (a b : Rt) : Rt := ⟨a.c &&& b.c, a.p &&& b.p, a.m &&& b.m, a.h &&& b.h, a.v && b.v, a.s || b.s⟩
theorem common_wf {a b : Rt} (ha : a.wf) : (common a b).wf :=
  ⟨Nat.lt_of_le_of_lt Nat.and_le_left ha.c, Nat.lt_of_le_of_lt Nat.and_le_left ha.p, Nat.lt_of_le_of_lt Nat.and_le_left ha.m, Nat.lt_of_le_of_lt Nat.and_le_left ha.h⟩

theorem eq_arr (a b : Rt) : decide (a = b) = (decide (a.c = b.c) && decide (a.p = b.p) && decide (a.m = b.m) && decide (a.h = b.h) && decide (a.v = b.v) && decide (a.s = b.s)) := by
  obtain ⟨a1, a2, a3, a4, a5, a6⟩ := a
  obtain ⟨b1, b2, b3, b4, b5, b6⟩ := b
  simp [Bool.and_assoc]

/-- Two rights compared. -/
abbrev eqRt : EqD := .cons 0 none .int (.cons 1 none .int (.cons 2 none .int (.cons 3 none .int (.cons 4 none .bool (.cons 5 none .bool .nil)))))
@[simp] theorem eqv_rt (w : World) (a b : Rt) : eqv w eqRt (.agg a.arr) (.agg b.arr) = some (decide (a = b)) := by
  have h : ∀ x y : Nat, (((x : Int) == (y : Int)) : Bool) = decide (x = y) := fun x y => by
    by_cases h : x = y
    · subst h; simp
    · rw [decide_eq_false h, beq_eq_false_iff_ne]; omega
  have e := eqv_cons w 0 none .int (.cons 1 none .int (.cons 2 none .int (.cons 3 none .int (.cons 4 none .bool (.cons 5 none .bool .nil))))) a.arr b.arr _ _ _ _ (by simp) (by simp) (eqv_int w .u16 a.c b.c)
    (eqv_cons w 1 none .int _ a.arr b.arr _ _ _ _ (by simp) (by simp) (eqv_int w .u16 a.p b.p)
    (eqv_cons w 2 none .int _ a.arr b.arr _ _ _ _ (by simp) (by simp) (eqv_int w .u16 a.m b.m)
    (eqv_cons w 3 none .int _ a.arr b.arr _ _ _ _ (by simp) (by simp) (eqv_int w .u16 a.h b.h)
    (eqv_cons w 4 none .bool _ a.arr b.arr _ _ _ _ (by simp) (by simp) (eqv_bool w a.v b.v)
    (eqv_cons w 5 none .bool .nil a.arr b.arr _ _ _ _ (by simp) (by simp) (eqv_bool w a.s b.s) (eqv_nil w a.arr b.arr))))))
  rw [e, eq_arr, h, h, h, h]
  congr 1
  cases a.v <;> cases b.v <;> cases a.s <;> cases b.s <;> simp [Bool.and_assoc]

theorem zero_arr : (#[.int .u16 0, .int .u16 0, .int .u16 0, .int .u16 0, .bool false, .bool false] : Array Value) = Rt.zero.arr := rfl
theorem rt_mk (c p m h : Nat) (v s : Bool) : (#[.int .u16 c, .int .u16 p, .int .u16 m, .int .u16 h, .bool v, .bool s] : Array Value) = (Rt.mk c p m h v s).arr := rfl

/-- A new box, then written whole. -/
theorem rt_box {w0 w : World} {b : Nat} {z : Rt} {T : TypeId} (hk : Kept none' w0 w) (hb : w.heap[b]? = some (.cells z.arr T (0, 0))) (hn : w0.heap.size ≤ b) (r : Rt) :
    ∃ w', stv w 6 (.pointer (some ⟨b, 0, none⟩)) r.val = some w' ∧ Kept none' w0 w' ∧ w'.heap[b]? = some (.cells r.arr T (0, 0)) ∧ (∀ j, j ≠ b → w'.heap[j]? = w.heap[j]?) ∧ w'.heap.size = w.heap.size :=
  ⟨_, box_store hb (by simp) (by simp) (by simpa using rt_one r), hk.putNew hn _, put_same (blk_lt hb), fun j hj => put_other hj, by simp⟩

theorem to_ret (r : Rt) (w : World) : Ret Tryd.prog 6 [r.val] w fun v w' => v = r.val ∧ Kept none' w w' := by
  refine ret_of_W Tryd.func6 rfl ok_tipstafflaw11_to ?_
  simp [c_tipstafflaw11_to, zero_arr, -W_chk]
  refine W_chkIn [r.val] (by simp [Rt.zero, Rt.arr]) ?_
  obtain ⟨w1, hs, hk, hb, _, _⟩ := rt_box (w0 := w) (((Kept.refl none' w).alloc (.cells r.arr 24)).alloc (.cells Rt.zero.arr 27)) (hp_at (by simp)) (Nat.le_succ w.heap.size) r
  refine W_store (by simp) (by simp [Rt.zero, Rt.arr]) hs (stab_nil _ _ _) ?_
  simp [wrow_box hb]
  exact hk

theorem from_ret (r : Rt) (w : World) : Ret Tryd.prog 10 [r.val] w fun v w' => v = r.val ∧ Kept none' w w' := by
  refine ret_of_W Tryd.func10 rfl ok_tipstafflaw11_from ?_
  simp [c_tipstafflaw11_from, zero_arr, -W_chk]
  refine W_chkIn [r.val] (by simp [Rt.zero, Rt.arr]) ?_
  obtain ⟨w1, hs, hk, hb, _, _⟩ := rt_box (w0 := w) (((Kept.refl none' w).alloc (.cells r.arr 27)).alloc (.cells Rt.zero.arr 24)) (hp_at (by simp)) (Nat.le_succ w.heap.size) r
  refine W_store (by simp) (by simp [Rt.zero, Rt.arr]) hs (stab_nil _ _ _) ?_
  simp [wrow_box hb]
  exact hk

theorem common_ret (a b : Rt) (w : World) (ha : a.wf) (hb : b.wf) : Ret Tryd.prog 31 [a.val, b.val] w fun v w' => v = (common a b).val ∧ Kept none' w w' := by
  refine ret_of_W Tryd.func31 rfl ok_rights_Common ?_
  have e1 := bitAnd_u16 a.c b.c ha.c hb.c
  have e2 := bitAnd_u16 a.p b.p ha.p hb.p
  have e3 := bitAnd_u16 a.m b.m ha.m hb.m
  have e4 := bitAnd_u16 a.h b.h ha.h hb.h
  simp [c_rights_Common, zero_arr, -W_chk]
  have hx : ∀ w' : World, wcell w' w.heap.size 0 = some (.int .u16 a.c) → True := fun _ _ => trivial
  have hp0 : (((w.alloc (.cells a.arr 27)).alloc (.cells b.arr 27)).alloc (.cells Rt.zero.arr 27)).heap[w.heap.size]? = some (.cells a.arr 27 (0, 0)) := hp_old (hp_old (hp_at rfl) _) _
  have hp1 : (((w.alloc (.cells a.arr 27)).alloc (.cells b.arr 27)).alloc (.cells Rt.zero.arr 27)).heap[w.heap.size + 1]? = some (.cells b.arr 27 (0, 0)) := hp_old (hp_at (by simp)) _
  have hp2 : (((w.alloc (.cells a.arr 27)).alloc (.cells b.arr 27)).alloc (.cells Rt.zero.arr 27)).heap[w.heap.size + 2]? = some (.cells Rt.zero.arr 27 (0, 0)) := hp_at (by simp)
  have hk : Kept none' w (((w.alloc (.cells a.arr 27)).alloc (.cells b.arr 27)).alloc (.cells Rt.zero.arr 27)) := (((Kept.refl none' w).alloc _).alloc _).alloc _
  generalize ((w.alloc (.cells a.arr 27)).alloc (.cells b.arr 27)).alloc (.cells Rt.zero.arr 27) = w1 at hp0 hp1 hp2 hk ⊢
  obtain ⟨w2, hs, hk2, hb2, _, _⟩ := rt_box (w0 := w) hk hp2 (by omega) (common a b)
  refine W_chkIn [(common a b).val] ?_ ?_
  · simp [wcell_of hp0, wcell_of hp1, e1, e2, e3, e4, common]
    cases a.v <;> cases a.s <;> simp [Rt.zero, Rt.arr]
  refine W_store (by simp) (vv := (common a b).val) ?_ hs (stab_nil _ _ _) ?_
  · simp [wcell_of hp0, wcell_of hp1, e1, e2, e3, e4, common]
    cases a.v <;> cases a.s <;> simp [Rt.zero, Rt.arr]
  simp [wrow_box hb2]
  exact hk2

theorem all_ret (w : World) : Ret Tryd.prog 19 [] w fun v w' => v = Rt.all.val ∧ Kept none' w w' := by
  refine ret_of_W Tryd.func19 rfl ok_rights_All ?_
  simp [c_rights_All, zero_arr, -W_chk]
  refine W_chkIn [Rt.all.val] (by simp [Rt.zero, Rt.arr, Rt.all]) ?_
  obtain ⟨w1, hs, hk, hb, _, _⟩ := rt_box (w0 := w) ((Kept.refl none' w).alloc (.cells Rt.zero.arr 27)) (hp_at rfl) (Nat.le_refl w.heap.size) Rt.all
  refine W_store (by simp) (by simp [Rt.zero, Rt.arr, Rt.all]) hs (stab_nil _ _ _) ?_
  simp [wrow_box hb]
  exact hk

theorem within_ret (a b : Rt) (w : World) (ha : a.wf) (hb : b.wf) : Ret Tryd.prog 20 [a.val, b.val] w fun v w' => v = .bool (decide (common a b = a)) ∧ Kept none' w w' := by
  refine ret_of_W Tryd.func20 rfl ok_rights_Within ?_
  simp [c_rights_Within]
  have hp0 : ((w.alloc (.cells a.arr 27)).alloc (.cells b.arr 27)).drew.heap[w.heap.size]? = some (.cells a.arr 27 (0, 0)) := hp_old (hp_at rfl) _
  have hp1 : ((w.alloc (.cells a.arr 27)).alloc (.cells b.arr 27)).drew.heap[w.heap.size + 1]? = some (.cells b.arr 27 (0, 0)) := hp_at (by simp)
  have hk : Kept none' w ((w.alloc (.cells a.arr 27)).alloc (.cells b.arr 27)).drew := (((Kept.refl none' w).alloc _).alloc _).drew
  generalize ((w.alloc (.cells a.arr 27)).alloc (.cells b.arr 27)).drew = w1 at hp0 hp1 hk ⊢
  refine W_calm (by simp [wrow_box hp0, wrow_box hp1]) (common_ret a b w1 ha hb) ?_
  intro w2 hk2
  simp
  exact hk.trans hk2

def refWithin (a b : Rt) : Bool := decide (a.c &&& b.c = a.c) && decide (a.p &&& b.p = a.p) && decide (a.m &&& b.m = a.m) && decide (a.h &&& b.h = a.h) && (!a.v || b.v) && (!b.s || a.s)
theorem refWithin_eq (a b : Rt) : refWithin a b = decide (common a b = a) := by
  rw [eq_arr]
  unfold refWithin common
  cases a.v <;> cases b.v <;> cases a.s <;> cases b.s <;> simp

end Go.Proofs.YtaaicadjoghbcaaDoor
