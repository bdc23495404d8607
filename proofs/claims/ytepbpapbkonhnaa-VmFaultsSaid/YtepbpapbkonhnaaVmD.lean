/- Layer 20: what a machine's calm functions tell. -/
import Derived.Test.YtepbpapbkonhnaaVmC
set_option linter.unusedSimpArgs false
set_option linter.unusedVariables false
set_option maxRecDepth 8000
namespace Go.Proofs.Ytepbpapbkonhnaa
open Go.Eng

theorem zero_val : (Value.agg #[.int .i64 0, .int .u64 0, .int .i64 0, .pointer none]) = .agg RVal.zero.arr := rfl

theorem number_T (w0 : World) (n : Int) : T Try.prog w0 75 [.int .u64 n] = some (num n).val :=
  T_of (by kernel_rfl) Try.func75 rfl ok_vm_number (by simp) (by simpa using rval_ext0 _ (num n) rfl) fun B hB => by
    simp only [c_vm_number, zero_val]
    simp [num, RVal.zero]
def placeOf (v : RVal) : Bool := decide (v.tag = 2) || decide (v.tag = 3) || decide (v.tag = 5)
theorem place_T (w0 : World) (v : RVal) (h : v.cell = none) : T Try.prog w0 83 [.agg v.arr] = some (.bool (placeOf v)) :=
  T_of (by kernel_rfl) Try.func83 rfl ok_vm_place (by simpa using rval_ext0 _ _ h) (by simp) fun B hB => by
    simp only [c_vm_place, zero_val]
    by_cases h2 : v.tag = 2
    · simp [placeOf, h2]
    · by_cases h3 : v.tag = 3
      · simp [placeOf, h3]
      · simp [placeOf, h2, h3]
def furth (v : RVal) (by' : Int) : RVal := { v with n := IntKind.u64.wrap (v.n + by') }
theorem further_T (w0 : World) (v : RVal) (y : Int) (h : v.cell = none) : T Try.prog w0 84 [.agg v.arr, .int .u64 y] = some (.agg (furth v y).arr) :=
  T_of (by kernel_rfl) Try.func84 rfl ok_vm_further (by simpa using rval_ext0 _ _ h) (by simpa using rval_ext0 _ (furth v y) h) fun B hB => by
    simp only [c_vm_further, zero_val]
    simp [furth]
def onPlaceOf (op : Nat) (a b : RVal) : RVal × Bool :=
  if op = 11 ∧ b.tag ≠ 0 then (b, true)
  else if op = 0 ∧ placeOf a = true ∧ b.tag = 1 then (furth a b.n, true)
  else if op = 1 ∧ placeOf a = true ∧ b.tag = 1 then (furth a (IntKind.u64.wrap (0 - b.n)), true)
  else if op = 0 ∧ placeOf b = true ∧ a.tag = 1 then (furth b a.n, true)
  else (RVal.zero, false)
theorem onPlace_cell (op : Nat) (a b : RVal) (ha : a.cell = none) (hb : b.cell = none) : (onPlaceOf op a b).1.cell = none := by
  unfold onPlaceOf furth
  repeat' split
  all_goals first | exact ha | exact hb | rfl
set_option maxHeartbeats 1000000 in
theorem onPlace_T (w0 : World) (op : Nat) (a b : RVal) (ha : a.cell = none) (hb : b.cell = none) : T Try.prog w0 78 [.int .i64 op, .agg a.arr, .agg b.arr] = some (.tuple #[.agg (onPlaceOf op a b).1.arr, .bool (onPlaceOf op a b).2]) :=
  T_of (by kernel_rfl) Try.func78 rfl ok_vm_onPlace (by have := rval_ext0 w0.heap.size a ha; have := rval_ext0 w0.heap.size b hb; simp_all) (by have := rval_ext0 w0.heap.size _ (onPlace_cell op a b ha hb); simpa using this) fun B hB => by
    have p1 := place_T w0 a ha
    have p2 := place_T w0 b hb
    have f1 := further_T w0 a b.n ha
    have f2 := further_T w0 a (IntKind.u64.wrap (0 - b.n)) ha
    have f3 := further_T w0 b a.n hb
    simp only [Int.zero_sub] at f2
    simp only [c_vm_onPlace, zero_val]
    unfold onPlaceOf
    by_cases h11 : op = 11
    · subst h11
      by_cases h0 : b.tag = 0 <;> simp [C_cond_eq, h0]
    by_cases h0 : op = 0
    · subst h0
      cases q1 : placeOf a <;> cases q2 : placeOf b <;> rw [q1] at p1 <;> rw [q2] at p2 <;> by_cases h1 : b.tag = 1 <;> by_cases h2 : a.tag = 1 <;> simp [C_cond_eq, p1, p2, f1, f2, f3, h1, h2]
    by_cases h1 : op = 1
    · subst h1
      cases q1 : placeOf a <;> rw [q1] at p1 <;> by_cases h1 : b.tag = 1 <;> simp [C_cond_eq, p1, f2, h1]
    simp [C_cond_eq, ci_eq, h11, h0, h1]
def targetOf (pos off : Int) : Int := IntKind.i64.wrap (IntKind.i64.wrap (pos + IntKind.i64.wrap off) + 1)
theorem target_T (w0 : World) (pos : Int) (x : Ins) : T Try.prog w0 62 [.int .i64 pos, .agg x.arr] = some (.int .i64 (targetOf pos x.off)) :=
  T_of (by kernel_rfl) Try.func62 rfl ok_shape_Target (by simp) (by simp) fun B hB => by
    simp [c_shape_Target, targetOf]
def secondOf (s : VSt) (x : Ins) (reg : Bool) : RVal := if reg = true then s.r x.src else num (IntKind.u64.wrap (IntKind.i64.wrap x.imm))
theorem second_T (w0 : World) (b : Nat) (k : VK) (s : VSt) (hm : IsMach w0 b k s) (x : Ins) (reg : Bool) (hx : x.src < 11) (hc : ∀ i, (s.r i).cell = none) :
    T Try.prog w0 66 [.pointer (some ⟨b, 0, none⟩), .agg x.arr, .bool reg] = some (.agg (secondOf s x reg).arr) :=
  T_of (by kernel_rfl) Try.func66 rfl ok_vm_machine_second (by simpa using blk_lt hm) (by
      have : (secondOf s x reg).cell = none := by unfold secondOf; split; exact hc _; rfl
      simpa using rval_ext0 _ _ this) fun B hB => by
    have t1 := number_T w0 (IntKind.u64.wrap (IntKind.i64.wrap x.imm))
    have e1 : ∀ l, wrow (ownW B l) b (38 + x.src * 4) 4 = some (s.r x.src).arr := fun l => own_extR hB (mach_rrow hm x.src hx)
    simp only [RVal.val] at t1
    simp only [c_vm_machine_second, zero_val]
    have hx' : ((x.src : Int) < 11) := by omega
    cases reg
    · simp [C_cond_eq, t1, secondOf]
    · simp [C_cond_eq, e1, secondOf, hx']
end Go.Proofs.Ytepbpapbkonhnaa
