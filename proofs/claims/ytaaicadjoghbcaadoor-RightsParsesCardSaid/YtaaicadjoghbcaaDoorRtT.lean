/- Layer 11: calm contracts as equations. -/
import Derived.Test.YtaaicadjoghbcaaDoorRtC
import Derived.Test.YtaaicadjoghbcaaDoorEngO
set_option linter.unusedSimpArgs false
set_option linter.unusedVariables false
set_option maxRecDepth 8000
namespace Go.Proofs.YtaaicadjoghbcaaDoor
open Go.Eng

@[simp] theorem ext_rt (n : Nat) (r : Rt) : (∀ x, x ∈ r.arr → Ext n x) = True := eq_true fun x hx => by
  simp [Rt.arr] at hx
  rcases hx with rfl | rfl | rfl | rfl | rfl | rfl <;> simp
@[simp] theorem one_rt (r : Rt) : r.arr.all (·.oneCell') = true := rt_one r
@[simp] theorem one_rt' (r : Rt) : (∀ x, x ∈ r.arr → x.oneCell' = true) = True := eq_true fun x hx => by
  simp [Rt.arr] at hx
  rcases hx with rfl | rfl | rfl | rfl | rfl | rfl <;> rfl
@[simp] theorem ostC_rt (c : Array Value) (r : Rt) (h : c.size = 6) : ostC c 6 0 (.agg r.arr) = some r.arr := ostC_all c 6 r.arr h (rt_size r) (one_rt r)
theorem to_T (w0 : World) (r : Rt) : T Tryd.prog w0 6 [r.val] = some r.val :=
  T_of (by kernel_rfl) Tryd.func6 rfl ok_tipstafflaw11_to (by simp) (by simp) fun B hB => by
    simp [c_tipstafflaw11_to]; rfl
theorem from_T (w0 : World) (r : Rt) : T Tryd.prog w0 10 [r.val] = some r.val :=
  T_of (by kernel_rfl) Tryd.func10 rfl ok_tipstafflaw11_from (by simp) (by simp) fun B hB => by
    simp [c_tipstafflaw11_from]; rfl
theorem common_T (w0 : World) {a b : Rt} (ha : a.wf) (hb : b.wf) : T Tryd.prog w0 31 [a.val, b.val] = some (common a b).val :=
  T_of (by kernel_rfl) Tryd.func31 rfl ok_rights_Common (by simp) (by simp) fun B hB => by
    have e1 := bitAnd_u16 a.c b.c ha.c hb.c
    have e2 := bitAnd_u16 a.p b.p ha.p hb.p
    have e3 := bitAnd_u16 a.m b.m ha.m hb.m
    have e4 := bitAnd_u16 a.h b.h ha.h hb.h
    simp [c_rights_Common, e1, e2, e3, e4]
    cases h1 : a.v <;> cases h2 : a.s <;> simp [pickV, common, Rt.arr, h1, h2]
theorem within_T (w0 : World) {a b : Rt} (ha : a.wf) (hb : b.wf) : T Tryd.prog w0 20 [a.val, b.val] = some (.bool (decide (common a b = a))) :=
  T_of (by kernel_rfl) Tryd.func20 rfl ok_rights_Within (by simp) (by simp) fun B hB => by
    have e1 := common_T w0 ha hb
    simp [c_rights_Within] at e1 ⊢
    simp [e1]
theorem all_T (w0 : World) : T Tryd.prog w0 19 [] = some Rt.all.val :=
  T_of_ret (by kernel_rfl) (by simp) (by simp) fun w hk => all_ret w
theorem whole_T {w0 : World} (hg : Glob w0) : T Tryd.prog w0 8 [] = some (.bool true) :=
  T_of_ret (by kernel_rfl) (by simp) (by simp) fun w hk => whole_ret w (hg.calm hk)
end Go.Proofs.YtaaicadjoghbcaaDoor
