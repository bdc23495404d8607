/- Layer 20: steps of a machine: what they make, and that they do it. Part 1: set, alu, jump. -/
import Derived.Test.YtepbpapbkonhnaaVmB
import Derived.Test.YtepbpapbkonhnaaVmD
import Derived.Test.YtepbpapbkonhnaaVmE
set_option linter.unusedSimpArgs false
set_option linter.unusedVariables false
set_option maxRecDepth 8000
namespace Go.Proofs.Ytepbpapbkonhnaa
open Go.Eng

/-- Values that aren't cells' places. -/
def ROk (v : RVal) : Prop := v.cell = none ∧ v.tag ≠ 5 ∧ 0 ≤ v.n
def MOk (m : RMem) : Prop := BytesOk m ∧ ∀ i, ROk (m.kept i)
def SOk (s : VSt) : Prop := ∀ i, ROk (s.r i)
theorem rok_num {n : Int} (h : 0 ≤ n) : ROk (num n) := ⟨rfl, by simp [num], h⟩
theorem rok_zero : ROk RVal.zero := ⟨rfl, by simp [RVal.zero], by simp [RVal.zero]⟩


def setOf (s : VSt) (d : Nat) (v : RVal) : Option VSt := if d = 10 then none else some { s with r := fset s.r d v, pos := IntKind.i64.wrap (s.pos + 1) }
/-- What a method that changes the machine alone leaves. -/
def OutS (b : Nat) (k : VK) (s : VSt) (w : World) (o : Option VSt) (r : Value) (w' : World) : Prop := Kept (· = b) w w' ∧ r = .bool o.isSome ∧ IsMach w' b k (o.getD s)

theorem set_ret (b : Nat) (k : VK) (s : VSt) (d : Nat) (v : RVal) (w : World) (hm : IsMach w b k s) (hd : d < 11) :
    Ret Try.prog 76 [.pointer (some ⟨b, 0, none⟩), .int .u8 d, .agg v.arr] w (OutS b k s w (setOf s d v)) := by
  refine ret_of_W Try.func76 rfl ok_vm_machine_set ?_
  have hb := blk_lt hm
  have h4 := hp_new w (.cells v.arr 43)
  have hm0 : IsMach (w.alloc (.cells v.arr 43)) b k s := hp_old hm _
  have hk0 : Kept (· = b) w (w.alloc (.cells v.arr 43)) := (Kept.refl _ _).alloc _
  have hd' : (d : Int) < 11 := by omega
  simp [c_vm_machine_set]
  generalize w.alloc (.cells v.arr 43) = w1 at h4 hm0 hk0 ⊢
  by_cases h : d = 10
  · refine W_yes (by simp [h]) ?_
    simp [setOf, h]
    exact ⟨hk0, rfl, hm0⟩
  · refine W_no (by simp; omega) ?_
    have hm1 : IsMach w1.drew b k s := hm0
    have hk1 : Kept (· = b) w w1.drew := hk0.drew
    have h41 : w1.drew.heap[w.heap.size]? = some (.cells v.arr 43 (0, 0)) := h4
    simp
    generalize w1.drew = w2 at hm1 hk1 h41 ⊢
    refine W_store (by simp [hd']) (by simp [rval_row h41]) (mach_streg hm1 d hd v) (stab_nil _ _ _) ?_
    have hm2 := mach_put hm1 { s with r := fset s.r d v }
    have hk2 := hk1.put (b := b) (fun _ => rfl) (.cells (({ s with r := fset s.r d v } : VSt).cells k) 107 (0, 0))
    generalize put w2 b _ = w3 at hm2 hk2 ⊢
    simp
    refine W_store (by simp) (by simp [mach_pos hm2]; rfl) (mach_stpos hm2 _) (stab_nil _ _ _) ?_
    simp [setOf, h]
    exact ⟨hk2.put (fun _ => rfl) _, rfl, mach_put hm2 _⟩

def aluA (p : Parts) (a b : RVal) : RVal := if p.op = 11 ∧ b.tag = 1 then num 0 else a
def aluB (p : Parts) (b : RVal) : RVal := if p.op = 11 ∧ b.tag = 1 then b else if p.op = 8 then num 0 else b
def aluOf (s : VSt) (x : Ins) (p : Parts) : Option VSt :=
  let b0 := secondOf s x p.reg
  let a := aluA p (s.r x.dst) b0
  let b := aluB p b0
  if a.tag = 1 ∧ b.tag = 1 then setOf s x.dst (num (evalOf p.op p.long a.n b.n))
  else if (onPlaceOf p.op a b).2 = true ∧ p.long = true ∧ p.op ≠ 8 then setOf s x.dst (onPlaceOf p.op a b).1 else none
theorem rok_second {s : VSt} (ok : SOk s) (x : Ins) (reg : Bool) : ROk (secondOf s x reg) := by
  unfold secondOf
  split
  · exact ok _
  · exact rok_num (by rw [IntKind.wrap_u64]; omega)
theorem rok_aluA {p : Parts} {a b : RVal} (h : ROk a) : ROk (aluA p a b) := by
  unfold aluA; split
  · exact rok_num (by omega)
  · exact h
theorem rok_aluB {p : Parts} {b : RVal} (h : ROk b) : ROk (aluB p b) := by
  unfold aluB; split
  · exact h
  · split
    · exact rok_num (by omega)
    · exact h

set_option maxHeartbeats 4000000 in
theorem alu_ret (b : Nat) (k : VK) (s : VSt) (x : Ins) (p : Parts) (w : World) (hm : IsMach w b k s) (hd : x.dst < 11) (hx : x.src < 11) (ok : SOk s) :
    Ret Try.prog 60 [.pointer (some ⟨b, 0, none⟩), .agg x.arr, .agg p.arr] w (OutS b k s w (aluOf s x p)) := by
  refine ret_of_W Try.func60 rfl ok_vm_machine_alu ?_
  have hb := blk_lt hm
  have hd' : (x.dst : Int) < 11 := by omega
  have t1 := second_T w b k s hm x p.reg hx (fun i => (ok i).1)
  have t2 := number_T w 0
  have kb := rok_second ok x p.reg
  have kA : ROk (aluA p (s.r x.dst) (secondOf s x p.reg)) := rok_aluA (ok _)
  have kB : ROk (aluB p (secondOf s x p.reg)) := rok_aluB kb
  have ho : aluOf s x p = if (aluA p (s.r x.dst) (secondOf s x p.reg)).tag = 1 ∧ (aluB p (secondOf s x p.reg)).tag = 1 then setOf s x.dst (num (evalOf p.op p.long (aluA p (s.r x.dst) (secondOf s x p.reg)).n (aluB p (secondOf s x p.reg)).n))
    else if (onPlaceOf p.op (aluA p (s.r x.dst) (secondOf s x p.reg)) (aluB p (secondOf s x p.reg))).2 = true ∧ p.long = true ∧ p.op ≠ 8 then setOf s x.dst (onPlaceOf p.op (aluA p (s.r x.dst) (secondOf s x p.reg)) (aluB p (secondOf s x p.reg))).1 else none := rfl
  rw [ho]
  have eB : aluB p (secondOf s x p.reg) = if p.op = 11 ∧ (secondOf s x p.reg).tag = 1 then secondOf s x p.reg else if p.op = 8 then num 0 else secondOf s x p.reg := rfl
  have eA : aluA p (s.r x.dst) (secondOf s x p.reg) = if p.op = 11 ∧ (secondOf s x p.reg).tag = 1 then num 0 else s.r x.dst := rfl
  generalize aluA p (s.r x.dst) (secondOf s x p.reg) = vA at *
  generalize aluB p (secondOf s x p.reg) = vB at *
  generalize secondOf s x p.reg = v2 at *
  simp only [RVal.val] at t2
  simp only [c_vm_machine_alu, zero_val]
  rw [W_assoc, W_assoc, W_seq]
  refine W_seg [.v (.pointer (some ⟨b, 0, none⟩)), .v (.agg x.arr), .v (.agg p.arr), .v (.bool false), .p 55 x.arr, .p 122 p.arr, .any, .p 43 vA.arr, .p 43 vB.arr,
    .any, .any, .any, .any, .any, .any, .any, .any, .any, .any, .any, .any, .any, .any, .any, .any, .any] (by simp [hb]) ?_ (fun B hB => ?_) ?_
  · have := rval_ext0 w.heap.size _ kA.1
    have := rval_ext0 w.heap.size _ kB.1
    simp_all [slsOk, Sl.ok]
  · have e1 : ∀ l, wrow (ownW B l) b (38 + x.dst * 4) 4 = some (s.r x.dst).arr := fun l => own_extR hB (mach_rrow hm x.dst hd)
    rw [eA, eB]
    by_cases h11 : p.op = 11
    · by_cases h1 : v2.tag = 1 <;> simp [C_cond_eq, C_alt, e1, hd', t1, t2, h11, h1, slsIs, Sl.is]
    · by_cases h8 : p.op = 8 <;> simp [C_cond_eq, C_alt, e1, hd', t1, t2, h11, ci_eq, h8, slsIs, Sl.is]
  · intro w1 hk
    refine open_v (open_v (open_v (open_v (open_p fun p4 _ h4 => open_p fun p5 _ h5 => open_any fun u6 => open_p fun p7 _ h7 => open_p fun p8 _ h8 => ?_))))
    repeat' refine open_any fun _ => ?_
    refine open_nil ?_
    have hm1 : IsMach w1 b k s := mach_keep hm hk (fun h => h)
    have hkb : Kept (· = b) w w1 := hk.mono fun _ _ h => h.elim
    rw [W_seq]
    by_cases hn : vA.tag = 1 ∧ vB.tag = 1
    · refine W_yes (by simp [wcell_of h7, wcell_of h8, hn]) ?_
      rw [if_pos hn]
      have hm2 : IsMach w1.drew b k s := hm1
      have h42 : w1.drew.heap[p4]? = _ := h4
      have h52 : w1.drew.heap[p5]? = _ := h5
      have h72 : w1.drew.heap[p7]? = _ := h7
      have h82 : w1.drew.heap[p8]? = _ := h8
      have hkb2 : Kept (· = b) w w1.drew := hkb.drew
      simp [wcell_of h4]
      generalize w1.drew = w2 at hm2 h42 h52 h72 h82 hkb2 ⊢
      refine W_calm (by simp [wcell_of h52, wcell_of h72, wcell_of h82]) (ret_of_T (eval_T w2 p.op p.long vA.n vB.n kB.2.2)) fun w3 hk3 => ?_
      simp
      refine W_calm (by simp; rfl) (ret_of_T (number_T w3 _)) fun w4 hk4 => ?_
      have hm4 : IsMach w4 b k s := mach_keep (mach_keep hm2 hk3 (fun h => h)) hk4 (fun h => h)
      simp
      refine W_call0 (by simp) (set_ret b k s x.dst (num (evalOf p.op p.long vA.n vB.n)) w4 hm4 hd) ?_
      rintro r w5 ⟨hk5, rfl, hm5⟩
      simp
      exact ⟨((hkb2.trans (hk3.mono fun _ _ h => h.elim)).trans (hk4.mono fun _ _ h => h.elim)).trans hk5, rfl, hm5⟩
    · refine W_no (by simp [wcell_of h7, wcell_of h8]; omega) ?_
      rw [if_neg hn]
      simp [wcell_of h5, rval_row h7, rval_row h8]
      refine W_call0 (by simp [wcell_of h5, rval_row h7, rval_row h8]) (ret_of_T (onPlace_T w1 p.op vA vB kA.1 kB.1)) ?_
      rintro r w2 ⟨rfl, hk2⟩
      have hm2 : IsMach w2 b k s := mach_keep hm1 hk2 (fun h => h)
      have h42 := hk2.has h4 (fun h => h)
      have h52 := hk2.has h5 (fun h => h)
      have hkb2 : Kept (· = b) w w2 := hkb.trans (hk2.mono fun _ _ h => h.elim)
      simp
      generalize onPlaceOf p.op vA vB = o at *
      obtain ⟨ov, oc⟩ := o
      simp only
      have h9 := hp_new w2 (.cells RVal.zero.arr 43)
      have h43 := hp_old h42 (.cells RVal.zero.arr 43)
      have h53 := hp_old h52 (.cells RVal.zero.arr 43)
      have hm3 : IsMach (w2.alloc (.cells RVal.zero.arr 43)) b k s := hp_old hm2 _
      have hkb3 := hkb2.alloc (.cells RVal.zero.arr 43)
      have hsz := blk_lt h9
      generalize w2.alloc (.cells RVal.zero.arr 43) = w3 at h9 h43 h53 hm3 hkb3 hsz ⊢
      have ne1 : w2.heap.size ≠ b := by have := blk_lt hm2; omega
      have ne4 : p4 ≠ w2.heap.size := by have := blk_lt h42; omega
      have ne5 : p5 ≠ w2.heap.size := by have := blk_lt h52; omega
      refine W_store (by simp) (by simp) (store_val (v := ov) h9) (stab_nil _ _ _) ?_
      have g9 := put_same (o := .cells ov.arr 43) hsz
      have g4 : (put w3 w2.heap.size (.cells ov.arr 43)).heap[p4]? = _ := (put_other ne4).trans h43
      have g5 : (put w3 w2.heap.size (.cells ov.arr 43)).heap[p5]? = _ := (put_other ne5).trans h53
      have gm : IsMach (put w3 w2.heap.size (.cells ov.arr 43)) b k s := (put_other (Ne.symm ne1)).trans hm3
      have gk : Kept (· = b) w (put w3 w2.heap.size (.cells ov.arr 43)) := hkb3.put (fun h => by have := hkb2.size; omega) _
      generalize put w3 w2.heap.size (.cells ov.arr 43) = w4 at g9 g4 g5 gm gk ⊢
      by_cases hq : oc = true ∧ p.long = true ∧ p.op ≠ 8
      · obtain ⟨rfl, hl, h8⟩ := hq
        simp [wcell_of g4, wcell_of g5, rval_row g9, hl, ci_eq, h8]
        refine W_yes (by simp) ?_
        refine W_call0 (by simp [wcell_of g4, rval_row g9]) (set_ret b k s x.dst ov w4 gm hd) ?_
        rintro r w5 ⟨hk5, rfl, hm5⟩
        simp
        exact ⟨gk.trans hk5, rfl, hm5⟩
      · have hf : (oc && p.long && !decide ((p.op : Int) = 8)) = false := by
          rw [Bool.eq_false_iff]
          intro h
          simp [ci_eq] at h
          exact hq ⟨h.1.1, h.1.2, h.2⟩
        rw [if_neg hq]
        simp [wcell_of g4, wcell_of g5, rval_row g9, hf]
        refine W_no (by simp) ?_
        simp
        exact ⟨gk, rfl, gm⟩

def jumpedOf (s : VSt) (x : Ins) (h : Bool) : VSt := { s with pos := if h = true then targetOf s.pos x.off else IntKind.i64.wrap (s.pos + 1) }
def jumpOf (s : VSt) (x : Ins) (p : Parts) : Option VSt :=
  if (s.r x.dst).tag = 1 ∧ (secondOf s x p.reg).tag = 1 then some (jumpedOf s x (holdsOf p.op p.long (s.r x.dst).n (secondOf s x p.reg).n))
  else if (s.r x.dst).tag ≠ 0 ∧ (s.r x.dst).tag ≠ 1 ∧ p.reg = false ∧ x.imm = 0 ∧ p.long = true ∧ (p.op = 1 ∨ p.op = 5) then some (jumpedOf s x (decide (p.op = 5))) else none

/-- The last part of a jump. -/
theorem jump_end {b : Nat} {k : VK} {s : VSt} {x : Ins} {w w1 : World} {p4 : Nat} (hold : Bool) (hm : IsMach w1 b k s) (hk : Kept (· = b) w w1) (h4 : w1.heap[p4]? = some (.cells x.arr 55 (0, 0))) (env : Env)
    (e0 : env[0]? = some (.pointer (some ⟨b, 0, none⟩))) (e4 : env[4]? = some (.pointer (some ⟨p4, 0, none⟩))) (e12 : env[12]? = some (.bool hold)) (hl : 16 < env.length) :
    W Try.prog (Fin r_vm_machine_jump (OutS b k s w (some (jumpedOf s x hold)))) [.c (.cond (.var 12)
     (.seq
      .draw
     (.seq
      (.call (some 16) 62 [(.ld none (.offp 82 (.nn (.var 0)))), (.ld (some 5) (.var 4))] [])
     (.store 1 (.offp 82 (.nn (.var 0))) (.var 16) [])))
     (.store 1 (.offp 82 (.nn (.var 0))) (.bin .add (.ld none (.offp 82 (.nn (.var 0)))) (.const (.int .i64 1))) [])), .c (.seq (.set 3 (.const (.bool true))) .ret)] env w1 := by
  have r4 : ∀ {w' : World}, w'.heap[p4]? = some (.cells x.arr 55 (0, 0)) → wrow w' p4 0 5 = some x.arr := fun h => by rw [wrow_of h (by simp)]; simp
  cases hold
  · refine W_no (by simp [e12]) ?_
    refine W_store (by simp [e0]) (by simp [e0, mach_pos hm]; rfl) (mach_stpos hm _) (stab_nil _ _ _) ?_
    simp [jumpedOf, hl, show 3 < env.length by omega]
    exact ⟨hk.put (fun _ => rfl) _, rfl, mach_put hm _⟩
  · refine W_yes (by simp [e12]) ?_
    have hm1 : IsMach w1.drew b k s := hm
    have h41 : w1.drew.heap[p4]? = _ := h4
    have hk1 := hk.drew
    simp
    generalize w1.drew = w2 at hm1 h41 hk1 ⊢
    refine W_call0 (by simp [e0, e4, mach_pos hm1, r4 h41]) (ret_of_T (target_T w2 s.pos x)) ?_
    rintro v w3 ⟨rfl, hk3⟩
    have hm3 := mach_keep hm1 hk3 (fun h => h)
    have e0' : (env.set 16 (.int .i64 (targetOf s.pos x.off)))[0]? = some (.pointer (some ⟨b, 0, none⟩)) := by simp [e0]
    refine W_store (by simp [e0]) (by simp [hl]; rfl) (mach_stpos hm3 _) (stab_nil _ _ _) ?_
    simp [jumpedOf, hl, show 3 < env.length by omega]
    exact ⟨(hk1.trans (hk3.mono fun _ _ h => h.elim)).put (fun _ => rfl) _, rfl, mach_put hm3 _⟩
set_option maxHeartbeats 4000000 in
theorem jump_ret (b : Nat) (k : VK) (s : VSt) (x : Ins) (p : Parts) (w : World) (hm : IsMach w b k s) (hd : x.dst < 11) (hx : x.src < 11) (ok : SOk s) :
    Ret Try.prog 61 [.pointer (some ⟨b, 0, none⟩), .agg x.arr, .agg p.arr] w (OutS b k s w (jumpOf s x p)) := by
  refine ret_of_W Try.func61 rfl ok_vm_machine_jump ?_
  have hb := blk_lt hm
  have hd' : (x.dst : Int) < 11 := by omega
  have t1 := second_T w b k s hm x p.reg hx (fun i => (ok i).1)
  have kB := rok_second ok x p.reg
  have kA := ok x.dst
  unfold jumpOf
  have e0 := mach_rrow hm x.dst hd
  generalize secondOf s x p.reg = vB at *
  generalize s.r x.dst = vA at *
  have t3 := holds_T w p.op p.long vA.n vB.n
  have xA := rval_ext0 w.heap.size _ kA.1
  have xB := rval_ext0 w.heap.size _ kB.1
  simp only [c_vm_machine_jump, zero_val]
  rw [W_assoc, W_assoc, W_assoc, W_seq]
  have e1 : ∀ {B : World}, HeapLe w B → ∀ l, wrow (ownW B l) b (38 + x.dst * 4) 4 = some vA.arr := fun hB l => own_extR hB e0
  by_cases hn : vA.tag = 1 ∧ vB.tag = 1
  · rw [if_pos hn]
    refine W_seg [.v (.pointer (some ⟨b, 0, none⟩)), .v (.agg x.arr), .v (.agg p.arr), .v (.bool false), .p 55 x.arr, .p 122 p.arr, .any, .p 43 vA.arr, .p 43 vB.arr,
      .any, .any, .any, .v (.bool (holdsOf p.op p.long vA.n vB.n)), .any, .any, .any, .any, .any] (by simp [hb]) (by simp_all [slsOk, Sl.ok]) (fun B hB => ?_) fun w1 hk => open_v (open_v (open_v (open_v (open_p fun p4 _ h4 => open_p fun p5 _ h5 => open_any fun u6 => open_p fun p7 _ h7 => open_p fun p8 _ h8 => open_any fun _ => open_any fun _ => open_any fun _ => open_v (open_any fun _ => open_any fun _ => open_any fun _ => open_any fun _ => open_any fun _ => open_nil ?_)))))
    · simp [C_cond_eq, C_alt, e1 hB, hd', t1, t3, hn, slsIs, Sl.is]
    · rw [W_seq]
      exact jump_end _ (mach_keep hm hk (fun h => h)) (hk.mono fun _ _ h => h.elim) h4 _ rfl rfl rfl (by simp)
  · rw [if_neg hn]
    have hf : (decide (vA.tag = 1) && decide (vB.tag = 1)) = false := by
      rw [Bool.eq_false_iff]; intro h; simp at h; exact hn h
    by_cases hp : vA.tag ≠ 0 ∧ vA.tag ≠ 1 ∧ p.reg = false ∧ x.imm = 0 ∧ p.long = true ∧ (p.op = 1 ∨ p.op = 5)
    · rw [if_pos hp]
      refine W_seg [.v (.pointer (some ⟨b, 0, none⟩)), .v (.agg x.arr), .v (.agg p.arr), .v (.bool false), .p 55 x.arr, .p 122 p.arr, .any, .p 43 vA.arr, .p 43 vB.arr,
        .any, .any, .any, .v (.bool (decide (p.op = 5))), .any, .any, .any, .any, .any] (by simp [hb]) (by simp_all [slsOk, Sl.ok]) (fun B hB => ?_) fun w1 hk => open_v (open_v (open_v (open_v (open_p fun p4 _ h4 => open_p fun p5 _ h5 => open_any fun u6 => open_p fun p7 _ h7 => open_p fun p8 _ h8 => open_any fun _ => open_any fun _ => open_any fun _ => open_v (open_any fun _ => open_any fun _ => open_any fun _ => open_any fun _ => open_any fun _ => open_nil ?_)))))
      · obtain ⟨a0, a1, a2, a3, a4, a5⟩ := hp
        rw [a2] at t1
        rcases a5 with a5 | a5 <;> simp [C_cond_eq, C_alt, e1 hB, hd', t1, t3, hf, a0, a1, a2, a3, a4, a5, slsIs, Sl.is]
      · rw [W_seq]
        exact jump_end _ (mach_keep hm hk (fun h => h)) (hk.mono fun _ _ h => h.elim) h4 _ rfl rfl rfl (by simp)
    · rw [if_neg hp]
      refine W_segX [.any, .any, .any, .v (.bool false), .any, .any, .any, .any, .any, .any, .any, .any, .any, .any, .any, .any, .any, .any] (by simp [hb]) (by simp [slsOk, Sl.ok]) (fun B hB => ?_) ?_
      · have hg : (!decide (vA.tag = 0) && !decide (vA.tag = 1) && !p.reg && decide (x.imm = 0) && p.long && (decide ((p.op : Int) = 1) || decide ((p.op : Int) = 5))) = false := by
          rw [Bool.eq_false_iff]; intro h; simp [ci_eq] at h; exact hp ⟨h.1.1.1.1.1, h.1.1.1.1.2, h.1.1.1.2, h.1.1.2, h.1.2, h.2⟩
        simp [C_cond_eq, C_alt, e1 hB, hd', t1, t3, hf, hg, slsIs, Sl.is]
      · intro w1 hk
        refine open_any fun _ => open_any fun _ => open_any fun _ => open_v ?_
        repeat' refine open_any fun _ => ?_
        refine open_nil ?_
        simp
        exact ⟨hk.mono fun _ _ h => h.elim, rfl, mach_keep hm hk (fun h => h)⟩
end Go.Proofs.Ytepbpapbkonhnaa
