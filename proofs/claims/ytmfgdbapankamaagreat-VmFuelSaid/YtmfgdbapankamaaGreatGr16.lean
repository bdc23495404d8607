/- Layer 19: Load and Save for every value that isn't a cell's place. -/
import Derived.Test.YtmfgdbapankamaaGreatGr15
set_option linter.unusedSimpArgs false
set_option linter.unusedVariables false
set_option maxRecDepth 8000
namespace Go.Proofs.YtmfgdbapankamaaGreat
open Go.Eng
theorem bytes_none (b : Nat) (a : RVal) (w : World) (h2 : a.tag ≠ 2) (h3 : a.tag ≠ 3) (h5 : a.tag ≠ 5) : Ret Tryz.prog 97 [.pointer (some ⟨b, 0, none⟩), a.val] w
    fun v w' => v = .tuple #[.slice none 0 0, .int .i64 0] ∧ Kept none' w w' := by
  refine ret_of_W Tryz.func97 rfl ok_region_Memory_bytes ?_
  simp [c_region_Memory_bytes, h2, h3, h5]
  refine W_no (by simp) ?_
  simp [h3]
  refine W_no (by simp [h3]) ?_
  simp [h5]
  refine W_no (by simp [h5]) ?_
  simp
  exact (Kept.refl _ _).alloc _
theorem view_none (b : Nat) (a : RVal) (off n : Int) (w : World) (h2 : a.tag ≠ 2) (h3 : a.tag ≠ 3) (h5 : a.tag ≠ 5) :
    Ret Tryz.prog 80 [.pointer (some ⟨b, 0, none⟩), a.val, .int .i64 off, .int .i64 n] w fun v w' => Kept none' w w' ∧ v = .tuple #[.slice none 0 0, .int .i64 0, .bool false] := by
  refine ret_of_W Tryz.func80 rfl ok_region_Memory_view ?_
  simp [c_region_Memory_view]
  refine W_no (by simp) ?_
  simp
  refine W_call0 (by simp) (bytes_none b a _ h2 h3 h5) ?_
  rintro v w1 ⟨rfl, hk⟩
  have h7 := hk.has (hp_new w _) (fun h => h)
  simp
  refine W_call0 (by simp [wcell_of h7]) (plus_ret (IntKind.i64.wrap a.n) off _) ?_
  rintro v w2 ⟨rfl, rfl⟩
  have hkk : Kept none' w w2 := ((Kept.refl _ _).alloc _).trans (hk.mono fun _ _ h => h)
  simp
  refine W_yes (by simp) ?_
  simp
  exact hkk
def loadOf (m : RMem) (a : RVal) (off k : Int) : RVal × Int :=
  if a.tag = 2 then loadC m (IntKind.i64.wrap a.n + off) k else if a.tag = 3 then loadS m (IntKind.i64.wrap a.n + off) k else (RVal.zero, 14)
theorem load_none (b : Nat) (m : RMem) (a : RVal) (off k : Int) (w : World) (hm : IsMem w b m) (h2 : a.tag ≠ 2) (h3 : a.tag ≠ 3) (h5 : a.tag ≠ 5) :
    Ret Tryz.prog 63 [.pointer (some ⟨b, 0, none⟩), a.val, .int .i64 off, .int .i64 k] w
      fun v w' => Kept none' w w' ∧ v = .tuple #[RVal.zero.val, .int .i64 14] := by
  refine ret_of_W Tryz.func63 rfl ok_region_Memory_Load ?_
  have hb' := blk_lt hm
  have hz : (Value.agg #[.int .i64 0, .int .u64 0, .int .i64 0, .pointer none]) = RVal.zero.val := rfl
  simp only [c_region_Memory_Load, hz]
  have h6 := hp_new w (.cells a.arr 68)
  have h4 := hp_new (w.alloc (.cells a.arr 68)) (.cells RVal.zero.arr 68)
  have h6' := hp_old h6 (.cells RVal.zero.arr 68)
  have hk0 : Kept none' w ((w.alloc (.cells a.arr 68)).alloc (.cells RVal.zero.arr 68)) := ((Kept.refl _ _).alloc _).alloc _
  rw [alloc_size] at h4
  simp
  generalize (w.alloc (.cells a.arr 68)).alloc (.cells RVal.zero.arr 68) = w2 at h4 h6' hk0 ⊢
  refine W_call0 (by simp) (sized_ret k w2) ?_
  rintro v w3 ⟨rfl, rfl⟩
  simp
  by_cases hs : sizeOk k
  · have hs' := hs
    unfold sizeOk at hs'
    refine W_no (by simp; omega) ?_
    simp
    refine W_call0 (by simp [rval_row h6']) (view_none b a off k w3 h2 h3 h5) ?_
    rintro v w4 ⟨hk1, rfl⟩
    have hk2 := hk0.trans hk1
    have h4' := hk1.has h4 (fun h => h)
    simp
    refine W_yes (by simp) ?_
    simp
    refine W_store (by simp) (by simp) (store_val (v := RVal.zero) h4') (stab_nil _ _ _) ?_
    simp [rval_row (put_same (blk_lt h4'))]
    exact hk2.put (fun h => absurd h (by omega)) _
  · have hs' := hs
    unfold sizeOk at hs'
    refine W_yes (by simp; omega) ?_
    simp
    refine W_store (by simp) (by simp) (store_val (v := RVal.zero) h4) (stab_nil _ _ _) ?_
    simp [rval_row (put_same (blk_lt h4))]
    exact hk0.put (fun h => absurd h (by omega)) _
theorem load_any (b : Nat) (m : RMem) (a : RVal) (off k : Int) (w : World) (hm : IsMem w b m) (h5 : a.tag ≠ 5) (ho1 : -9223372036854775808 ≤ off) (ho2 : off ≤ 9223372036854775807) (hb : BytesOk m) :
    Ret Tryz.prog 63 [.pointer (some ⟨b, 0, none⟩), a.val, .int .i64 off, .int .i64 k] w
      fun v w' => Kept none' w w' ∧ v = .tuple #[(loadOf m a off k).1.val, .int .i64 (loadOf m a off k).2] := by
  unfold loadOf
  by_cases h2 : a.tag = 2
  · rw [if_pos h2]; exact load_ctx b m a off k w hm h2 ho1 ho2 hb
  · rw [if_neg h2]
    by_cases h3 : a.tag = 3
    · rw [if_pos h3]; exact load_stack b m a off k w hm h3 ho1 ho2 hb
    · rw [if_neg h3]; exact load_none b m a off k w hm h2 h3 h5
theorem load_T (w0 : World) (b : Nat) (m : RMem) (a : RVal) (off k : Int) (hm : IsMem w0 b m) (hc : a.cell = none) (h5 : a.tag ≠ 5) (ho1 : -9223372036854775808 ≤ off) (ho2 : off ≤ 9223372036854775807) (hb : BytesOk m)
    (hl : (loadOf m a off k).1.cell = none) :
    T Tryz.prog w0 63 [.pointer (some ⟨b, 0, none⟩), .agg a.arr, .int .i64 off, .int .i64 k] = some (.tuple #[.agg (loadOf m a off k).1.arr, .int .i64 (loadOf m a off k).2]) :=
  T_of_ret (by kernel_rfl) (by have := rval_ext0 w0.heap.size a hc; have := blk_lt hm; simp_all) (by have := rval_ext0 w0.heap.size _ hl; simp_all) fun w hk =>
    (load_any b m a off k w (hk.has hm fun h => h) h5 ho1 ho2 hb).mono fun v w' h => ⟨h.2, h.1⟩
theorem writes_no (b : Nat) (a : RVal) (w : World) (h3 : a.tag ≠ 3) (h5 : a.tag ≠ 5) : Ret Tryz.prog 84 [.pointer (some ⟨b, 0, none⟩), a.val] w
    fun v w' => v = .bool false ∧ Kept none' w w' := by
  refine ret_of_W Tryz.func84 rfl ok_region_Memory_writes ?_
  simp [c_region_Memory_writes]
  refine W_no (by simp [h5]) ?_
  simp [h3]
  exact (Kept.refl _ _).alloc _
def saveOf (m : RMem) (a : RVal) (off k : Int) (v : RVal) : RMem × Int := if a.tag = 3 then saveS m (IntKind.i64.wrap a.n + off) k v else (m, 14)
theorem save_none (b : Nat) (m : RMem) (a v : RVal) (off k : Int) (w : World) (hm : IsMem w b m) (h3 : a.tag ≠ 3) (h5 : a.tag ≠ 5) (ho1 : -9223372036854775808 ≤ off) (ho2 : off ≤ 9223372036854775807) :
    Ret Tryz.prog 64 [.pointer (some ⟨b, 0, none⟩), a.val, .int .i64 off, .int .i64 k, v.val] w
      fun r w' => Kept (· = b) w w' ∧ r = .int .i64 14 ∧ IsMem w' b m := by
  refine ret_of_W Tryz.func64 rfl ok_region_Memory_Save ?_
  have hb' := blk_lt hm
  simp only [c_region_Memory_Save]
  have h6 := hp_new w (.cells a.arr 68)
  have h4 := hp_new (w.alloc (.cells a.arr 68)) (.cells v.arr 68)
  have h6' := hp_old h6 (.cells v.arr 68)
  have hm0 : IsMem ((w.alloc (.cells a.arr 68)).alloc (.cells v.arr 68)) b m := hp_old (hp_old hm _) _
  have hk0 : Kept none' w ((w.alloc (.cells a.arr 68)).alloc (.cells v.arr 68)) := ((Kept.refl _ _).alloc _).alloc _
  rw [alloc_size] at h4
  simp
  generalize (w.alloc (.cells a.arr 68)).alloc (.cells v.arr 68) = w2 at h4 h6' hm0 hk0 ⊢
  refine W_call0 (by simp) (sized_ret k w2) ?_
  rintro r w3 ⟨rfl, rfl⟩
  simp
  have fail : ∀ w', Kept none' w w' → Kept (· = b) w w' := fun w' h => h.mono (fun _ _ h => h.elim)
  by_cases hs : sizeOk k ∧ 0 < v.tag ∧ v.tag ≤ 5
  · have hs' := hs
    unfold sizeOk at hs'
    refine W_no (by simp [wcell_of h4]; omega) ?_
    simp
    have fin : ∀ (c : Bool) (p : Value) (w4 : World), Kept none' w3 w4 → ∀ (q : Prop), q → q := fun _ _ _ _ _ h => h
    by_cases h2 : a.tag = 2
    · refine W_call0 (by simp [rval_row h6']) (view_ctx b a off k w3 h2 ho1 ho2 (by omega) (by omega)) ?_
      rintro r w4 ⟨hk1, hr⟩
      have hk2 := hk0.trans hk1
      have h6'' := hk1.has h6' (fun h => h)
      have hm1 : IsMem w4 b m := hk1.has hm0 (fun h => h)
      generalize hN : IntKind.i64.wrap a.n = N at *
      split at hr
      · obtain ⟨f, hf, rfl⟩ := hr
        simp [rval_row h6'']
        refine W_yes (by simp) ?_
        refine W_call0 (by simp [rval_row h6'']) (writes_no b a w4 h3 h5) ?_
        rintro r w5 ⟨rfl, hk3⟩
        have hm2 : IsMem w5 b m := hk3.has hm1 (fun h => h)
        have hk4 := hk2.trans hk3
        simp
        refine W_yes (by simp) ?_
        simp
        exact ⟨fail _ hk4, hm2⟩
      · subst hr
        simp
        refine W_no (by simp) ?_
        simp
        refine W_yes (by simp) ?_
        simp
        exact ⟨fail _ hk2, hm1⟩
    · refine W_call0 (by simp [rval_row h6']) (view_none b a off k w3 h2 h3 h5) ?_
      rintro r w4 ⟨hk1, rfl⟩
      have hk2 := hk0.trans hk1
      have hm1 : IsMem w4 b m := hk1.has hm0 (fun h => h)
      simp
      refine W_no (by simp) ?_
      simp
      refine W_yes (by simp) ?_
      simp
      exact ⟨fail _ hk2, hm1⟩
  · have hs' := hs
    unfold sizeOk at hs'
    refine W_yes (by simp [wcell_of h4]; omega) ?_
    simp
    exact ⟨fail _ hk0, hm0⟩
theorem save_any (b : Nat) (m : RMem) (a v : RVal) (off k : Int) (w : World) (hm : IsMem w b m) (h5 : a.tag ≠ 5) (ho1 : -9223372036854775808 ≤ off) (ho2 : off ≤ 9223372036854775807) (hv : v.tag = 1 → 0 ≤ v.n) :
    Ret Tryz.prog 64 [.pointer (some ⟨b, 0, none⟩), a.val, .int .i64 off, .int .i64 k, v.val] w
      fun r w' => Kept (· = b) w w' ∧ r = .int .i64 (saveOf m a off k v).2 ∧ IsMem w' b (saveOf m a off k v).1 := by
  unfold saveOf
  by_cases h3 : a.tag = 3
  · rw [if_pos h3]; exact save_stack b m a v off k w hm h3 ho1 ho2 hv
  · rw [if_neg h3]; exact save_none b m a v off k w hm h3 h5 ho1 ho2
end Go.Proofs.YtmfgdbapankamaaGreat
namespace Go.Proofs.YtmfgdbapankamaaGreat
open Go.Eng
def ROk (v : RVal) : Prop := v.cell = none ∧ v.tag ≠ 5 ∧ 0 ≤ v.n
def MOk (m : RMem) : Prop := BytesOk m ∧ ∀ i, ROk (m.kept i)
def SOk (s : VSt) : Prop := ∀ i, ROk (s.r i)
theorem rok_num {n : Int} (h : 0 ≤ n) : ROk (num n) := ⟨rfl, by simp [num], h⟩
theorem rok_zero : ROk RVal.zero := ⟨rfl, by simp [RVal.zero], by simp [RVal.zero]⟩
def setOf (s : VSt) (d : Nat) (v : RVal) : Option VSt := if d = 10 then none else some { s with r := fset s.r d v, pos := IntKind.i64.wrap (s.pos + 1) }
def OutS (b : Nat) (k : VK) (s : VSt) (w : World) (o : Option VSt) (r : Value) (w' : World) : Prop := Kept (· = b) w w' ∧ r = .bool o.isSome ∧ IsMach w' b k (o.getD s)
theorem set_ret (b : Nat) (k : VK) (s : VSt) (d : Nat) (v : RVal) (w : World) (hm : IsMach w b k s) (hd : d < 11) :
    Ret Tryz.prog 58 [.pointer (some ⟨b, 0, none⟩), .int .u8 d, .agg v.arr] w (OutS b k s w (setOf s d v)) := by
  refine ret_of_W Tryz.func58 rfl ok_vm_machine_set ?_
  have hb := blk_lt hm
  have h4 := hp_new w (.cells v.arr 68)
  have hm0 : IsMach (w.alloc (.cells v.arr 68)) b k s := hp_old hm _
  have hk0 : Kept (· = b) w (w.alloc (.cells v.arr 68)) := (Kept.refl _ _).alloc _
  have hd' : (d : Int) < 11 := by omega
  simp [c_vm_machine_set]
  generalize w.alloc (.cells v.arr 68) = w1 at h4 hm0 hk0 ⊢
  by_cases h : d = 10
  · refine W_yes (by simp [h]) ?_
    simp [setOf, h]
    exact ⟨hk0, rfl, hm0⟩
  · refine W_no (by simp; omega) ?_
    have hm1 : IsMach w1.drew b k s := hm0
    have hk1 : Kept (· = b) w w1.drew := hk0.drew
    have h41 : w1.drew.heap[w.heap.size]? = some (.cells v.arr 68 (0, 0)) := h4
    simp
    generalize w1.drew = w2 at hm1 hk1 h41 ⊢
    refine W_store (by simp [hd']) (by simp [rval_row h41]) (mach_streg hm1 d hd v) (stab_nil _ _ _) ?_
    have hm2 := mach_put hm1 { s with r := fset s.r d v }
    have hk2 := hk1.put (b := b) (fun _ => rfl) (.cells (({ s with r := fset s.r d v } : VSt).cells k) 71 (0, 0))
    generalize put w2 b _ = w3 at hm2 hk2 ⊢
    simp
    refine W_store (by simp) (by simp [mach_pos hm2]; rfl) (mach_stpos hm2 _) (stab_nil _ _ _) ?_
    simp [setOf, h]
    exact ⟨hk2.put (fun _ => rfl) _, rfl, mach_put hm2 _⟩
def aluA (p : Parts) (a b : RVal) : RVal := if p.op = 11 ∧ b.tag = 1 then num 0 else a
def aluB (p : Parts) (b : RVal) : RVal := if p.op = 11 ∧ b.tag = 1 then b else if p.op = 8 then num 0 else b
def aluOf (s : VSt) (x : Ins) (p : Parts) : Option VSt :=
  let b0 := secondOf s x p.reg
  let a := aluA p (s.r x.dst) b0
  let b := aluB p b0
  if a.tag = 1 ∧ b.tag = 1 then setOf s x.dst (num (evalOf p.op p.long a.n b.n))
  else if (onPlaceOf p.op a b).2 = true ∧ p.long = true ∧ p.op ≠ 8 then setOf s x.dst (onPlaceOf p.op a b).1 else none
theorem rok_second {s : VSt} (ok : SOk s) (x : Ins) (reg : Bool) : ROk (secondOf s x reg) := by
  unfold secondOf
  split
  · exact ok _
  · exact rok_num (by rw [IntKind.wrap_u64]; omega)
theorem rok_aluA {p : Parts} {a b : RVal} (h : ROk a) : ROk (aluA p a b) := by
  unfold aluA; split
  · exact rok_num (by omega)
  · exact h
theorem rok_aluB {p : Parts} {b : RVal} (h : ROk b) : ROk (aluB p b) := by
  unfold aluB; split
  · exact h
  · split
    · exact rok_num (by omega)
    · exact h
set_option maxHeartbeats 4000000 in
theorem alu_ret (b : Nat) (k : VK) (s : VSt) (x : Ins) (p : Parts) (w : World) (hm : IsMach w b k s) (hd : x.dst < 11) (hx : x.src < 11) (ok : SOk s) :
    Ret Tryz.prog 34 [.pointer (some ⟨b, 0, none⟩), .agg x.arr, .agg p.arr] w (OutS b k s w (aluOf s x p)) := by
  refine ret_of_W Tryz.func34 rfl ok_vm_machine_alu ?_
  have hb := blk_lt hm
  have hd' : (x.dst : Int) < 11 := by omega
  have t1 := second_T w b k s hm x p.reg hx (fun i => (ok i).1)
  have t2 := number_T w 0
  have kb := rok_second ok x p.reg
  have kA : ROk (aluA p (s.r x.dst) (secondOf s x p.reg)) := rok_aluA (ok _)
  have kB : ROk (aluB p (secondOf s x p.reg)) := rok_aluB kb
  have ho : aluOf s x p = if (aluA p (s.r x.dst) (secondOf s x p.reg)).tag = 1 ∧ (aluB p (secondOf s x p.reg)).tag = 1 then setOf s x.dst (num (evalOf p.op p.long (aluA p (s.r x.dst) (secondOf s x p.reg)).n (aluB p (secondOf s x p.reg)).n))
    else if (onPlaceOf p.op (aluA p (s.r x.dst) (secondOf s x p.reg)) (aluB p (secondOf s x p.reg))).2 = true ∧ p.long = true ∧ p.op ≠ 8 then setOf s x.dst (onPlaceOf p.op (aluA p (s.r x.dst) (secondOf s x p.reg)) (aluB p (secondOf s x p.reg))).1 else none := rfl
  rw [ho]
  have eB : aluB p (secondOf s x p.reg) = if p.op = 11 ∧ (secondOf s x p.reg).tag = 1 then secondOf s x p.reg else if p.op = 8 then num 0 else secondOf s x p.reg := rfl
  have eA : aluA p (s.r x.dst) (secondOf s x p.reg) = if p.op = 11 ∧ (secondOf s x p.reg).tag = 1 then num 0 else s.r x.dst := rfl
  generalize aluA p (s.r x.dst) (secondOf s x p.reg) = vA at *
  generalize aluB p (secondOf s x p.reg) = vB at *
  generalize secondOf s x p.reg = v2 at *
  simp only [RVal.val] at t2
  simp only [c_vm_machine_alu, zero_val]
  rw [W_assoc, W_assoc, W_seq]
  refine W_seg [.v (.pointer (some ⟨b, 0, none⟩)), .v (.agg x.arr), .v (.agg p.arr), .v (.bool false), .p 74 x.arr, .p 103 p.arr, .any, .p 68 vA.arr, .p 68 vB.arr,
    .any, .any, .any, .any, .any, .any, .any, .any, .any, .any, .any, .any, .any, .any, .any, .any, .any] (by simp [hb]) ?_ (fun B hB => ?_) ?_
  · have := rval_ext0 w.heap.size _ kA.1
    have := rval_ext0 w.heap.size _ kB.1
    simp_all [slsOk, Sl.ok]
  · have e1 : ∀ l, wrow (ownW B l) b (38 + x.dst * 4) 4 = some (s.r x.dst).arr := fun l => own_extR hB (mach_rrow hm x.dst hd)
    rw [eA, eB]
    by_cases h11 : p.op = 11
    · by_cases h1 : v2.tag = 1 <;> simp [C_cond_eq, C_alt, e1, hd', t1, t2, h11, h1, slsIs, Sl.is]
    · by_cases h8 : p.op = 8 <;> simp [C_cond_eq, C_alt, e1, hd', t1, t2, h11, ci_eq, h8, slsIs, Sl.is]
  · intro w1 hk
    refine open_v (open_v (open_v (open_v (open_p fun p4 _ h4 => open_p fun p5 _ h5 => open_any fun u6 => open_p fun p7 _ h7 => open_p fun p8 _ h8 => ?_))))
    repeat' refine open_any fun _ => ?_
    refine open_nil ?_
    have hm1 : IsMach w1 b k s := mach_keep hm hk (fun h => h)
    have hkb : Kept (· = b) w w1 := hk.mono fun _ _ h => h.elim
    rw [W_seq]
    by_cases hn : vA.tag = 1 ∧ vB.tag = 1
    · refine W_yes (by simp [wcell_of h7, wcell_of h8, hn]) ?_
      rw [if_pos hn]
      have hm2 : IsMach w1.drew b k s := hm1
      have h42 : w1.drew.heap[p4]? = _ := h4
      have h52 : w1.drew.heap[p5]? = _ := h5
      have h72 : w1.drew.heap[p7]? = _ := h7
      have h82 : w1.drew.heap[p8]? = _ := h8
      have hkb2 : Kept (· = b) w w1.drew := hkb.drew
      simp [wcell_of h4]
      generalize w1.drew = w2 at hm2 h42 h52 h72 h82 hkb2 ⊢
      refine W_calm (by simp [wcell_of h52, wcell_of h72, wcell_of h82]) (ret_of_T (eval_T w2 p.op p.long vA.n vB.n kB.2.2)) fun w3 hk3 => ?_
      simp
      refine W_calm (by simp; rfl) (ret_of_T (number_T w3 _)) fun w4 hk4 => ?_
      have hm4 : IsMach w4 b k s := mach_keep (mach_keep hm2 hk3 (fun h => h)) hk4 (fun h => h)
      simp
      refine W_call0 (by simp) (set_ret b k s x.dst (num (evalOf p.op p.long vA.n vB.n)) w4 hm4 hd) ?_
      rintro r w5 ⟨hk5, rfl, hm5⟩
      simp
      exact ⟨((hkb2.trans (hk3.mono fun _ _ h => h.elim)).trans (hk4.mono fun _ _ h => h.elim)).trans hk5, rfl, hm5⟩
    · refine W_no (by simp [wcell_of h7, wcell_of h8]; omega) ?_
      rw [if_neg hn]
      simp [wcell_of h5, rval_row h7, rval_row h8]
      refine W_call0 (by simp [wcell_of h5, rval_row h7, rval_row h8]) (ret_of_T (onPlace_T w1 p.op vA vB kA.1 kB.1)) ?_
      rintro r w2 ⟨rfl, hk2⟩
      have hm2 : IsMach w2 b k s := mach_keep hm1 hk2 (fun h => h)
      have h42 := hk2.has h4 (fun h => h)
      have h52 := hk2.has h5 (fun h => h)
      have hkb2 : Kept (· = b) w w2 := hkb.trans (hk2.mono fun _ _ h => h.elim)
      simp
      generalize onPlaceOf p.op vA vB = o at *
      obtain ⟨ov, oc⟩ := o
      simp only
      have h9 := hp_new w2 (.cells RVal.zero.arr 68)
      have h43 := hp_old h42 (.cells RVal.zero.arr 68)
      have h53 := hp_old h52 (.cells RVal.zero.arr 68)
      have hm3 : IsMach (w2.alloc (.cells RVal.zero.arr 68)) b k s := hp_old hm2 _
      have hkb3 := hkb2.alloc (.cells RVal.zero.arr 68)
      have hsz := blk_lt h9
      generalize w2.alloc (.cells RVal.zero.arr 68) = w3 at h9 h43 h53 hm3 hkb3 hsz ⊢
      have ne1 : w2.heap.size ≠ b := by have := blk_lt hm2; omega
      have ne4 : p4 ≠ w2.heap.size := by have := blk_lt h42; omega
      have ne5 : p5 ≠ w2.heap.size := by have := blk_lt h52; omega
      refine W_store (by simp) (by simp) (store_val (v := ov) h9) (stab_nil _ _ _) ?_
      have g9 := put_same (o := .cells ov.arr 68) hsz
      have g4 : (put w3 w2.heap.size (.cells ov.arr 68)).heap[p4]? = _ := (put_other ne4).trans h43
      have g5 : (put w3 w2.heap.size (.cells ov.arr 68)).heap[p5]? = _ := (put_other ne5).trans h53
      have gm : IsMach (put w3 w2.heap.size (.cells ov.arr 68)) b k s := (put_other (Ne.symm ne1)).trans hm3
      have gk : Kept (· = b) w (put w3 w2.heap.size (.cells ov.arr 68)) := hkb3.put (fun h => by have := hkb2.size; omega) _
      generalize put w3 w2.heap.size (.cells ov.arr 68) = w4 at g9 g4 g5 gm gk ⊢
      by_cases hq : oc = true ∧ p.long = true ∧ p.op ≠ 8
      · obtain ⟨rfl, hl, h8⟩ := hq
        simp [wcell_of g4, wcell_of g5, rval_row g9, hl, ci_eq, h8]
        refine W_yes (by simp) ?_
        refine W_call0 (by simp [wcell_of g4, rval_row g9]) (set_ret b k s x.dst ov w4 gm hd) ?_
        rintro r w5 ⟨hk5, rfl, hm5⟩
        simp
        exact ⟨gk.trans hk5, rfl, hm5⟩
      · have hf : (oc && p.long && !decide ((p.op : Int) = 8)) = false := by
          rw [Bool.eq_false_iff]
          intro h
          simp [ci_eq] at h
          exact hq ⟨h.1.1, h.1.2, h.2⟩
        rw [if_neg hq]
        simp [wcell_of g4, wcell_of g5, rval_row g9, hf]
        refine W_no (by simp) ?_
        simp
        exact ⟨gk, rfl, gm⟩
def jumpedOf (s : VSt) (x : Ins) (h : Bool) : VSt := { s with pos := if h = true then targetOf s.pos x.off else IntKind.i64.wrap (s.pos + 1) }
def jumpOf (s : VSt) (x : Ins) (p : Parts) : Option VSt :=
  if (s.r x.dst).tag = 1 ∧ (secondOf s x p.reg).tag = 1 then some (jumpedOf s x (holdsOf p.op p.long (s.r x.dst).n (secondOf s x p.reg).n))
  else if (s.r x.dst).tag ≠ 0 ∧ (s.r x.dst).tag ≠ 1 ∧ p.reg = false ∧ x.imm = 0 ∧ p.long = true ∧ (p.op = 1 ∨ p.op = 5) then some (jumpedOf s x (decide (p.op = 5))) else none
theorem jump_end {b : Nat} {k : VK} {s : VSt} {x : Ins} {w w1 : World} {p4 : Nat} (hold : Bool) (hm : IsMach w1 b k s) (hk : Kept (· = b) w w1) (h4 : w1.heap[p4]? = some (.cells x.arr 74 (0, 0))) (env : Env)
    (e0 : env[0]? = some (.pointer (some ⟨b, 0, none⟩))) (e4 : env[4]? = some (.pointer (some ⟨p4, 0, none⟩))) (e12 : env[12]? = some (.bool hold)) (hl : 16 < env.length) :
    W Tryz.prog (Fin r_vm_machine_jump (OutS b k s w (some (jumpedOf s x hold)))) [.c (.cond (.var 12)
     (.seq
      .draw
     (.seq
      (.call (some 16) 36 [(.ld none (.offp 82 (.nn (.var 0)))), (.ld (some 5) (.var 4))] [])
     (.store 1 (.offp 82 (.nn (.var 0))) (.var 16) [])))
     (.store 1 (.offp 82 (.nn (.var 0))) (.bin .add (.ld none (.offp 82 (.nn (.var 0)))) (.const (.int .i64 1))) [])), .c (.seq (.set 3 (.const (.bool true))) .ret)] env w1 := by
  have r4 : ∀ {w' : World}, w'.heap[p4]? = some (.cells x.arr 74 (0, 0)) → wrow w' p4 0 5 = some x.arr := fun h => by rw [wrow_of h (by simp)]; simp
  cases hold
  · refine W_no (by simp [e12]) ?_
    refine W_store (by simp [e0]) (by simp [e0, mach_pos hm]; rfl) (mach_stpos hm _) (stab_nil _ _ _) ?_
    simp [jumpedOf, hl, show 3 < env.length by omega]
    exact ⟨hk.put (fun _ => rfl) _, rfl, mach_put hm _⟩
  · refine W_yes (by simp [e12]) ?_
    have hm1 : IsMach w1.drew b k s := hm
    have h41 : w1.drew.heap[p4]? = _ := h4
    have hk1 := hk.drew
    simp
    generalize w1.drew = w2 at hm1 h41 hk1 ⊢
    refine W_call0 (by simp [e0, e4, mach_pos hm1, r4 h41]) (ret_of_T (target_T w2 s.pos x)) ?_
    rintro v w3 ⟨rfl, hk3⟩
    have hm3 := mach_keep hm1 hk3 (fun h => h)
    have e0' : (env.set 16 (.int .i64 (targetOf s.pos x.off)))[0]? = some (.pointer (some ⟨b, 0, none⟩)) := by simp [e0]
    refine W_store (by simp [e0]) (by simp [hl]; rfl) (mach_stpos hm3 _) (stab_nil _ _ _) ?_
    simp [jumpedOf, hl, show 3 < env.length by omega]
    exact ⟨(hk1.trans (hk3.mono fun _ _ h => h.elim)).put (fun _ => rfl) _, rfl, mach_put hm3 _⟩
set_option maxHeartbeats 4000000 in
theorem jump_ret (b : Nat) (k : VK) (s : VSt) (x : Ins) (p : Parts) (w : World) (hm : IsMach w b k s) (hd : x.dst < 11) (hx : x.src < 11) (ok : SOk s) :
    Ret Tryz.prog 35 [.pointer (some ⟨b, 0, none⟩), .agg x.arr, .agg p.arr] w (OutS b k s w (jumpOf s x p)) := by
  refine ret_of_W Tryz.func35 rfl ok_vm_machine_jump ?_
  have hb := blk_lt hm
  have hd' : (x.dst : Int) < 11 := by omega
  have t1 := second_T w b k s hm x p.reg hx (fun i => (ok i).1)
  have kB := rok_second ok x p.reg
  have kA := ok x.dst
  unfold jumpOf
  have e0 := mach_rrow hm x.dst hd
  generalize secondOf s x p.reg = vB at *
  generalize s.r x.dst = vA at *
  have t3 := holds_T w p.op p.long vA.n vB.n
  have xA := rval_ext0 w.heap.size _ kA.1
  have xB := rval_ext0 w.heap.size _ kB.1
  simp only [c_vm_machine_jump, zero_val]
  rw [W_assoc, W_assoc, W_assoc, W_seq]
  have e1 : ∀ {B : World}, HeapLe w B → ∀ l, wrow (ownW B l) b (38 + x.dst * 4) 4 = some vA.arr := fun hB l => own_extR hB e0
  by_cases hn : vA.tag = 1 ∧ vB.tag = 1
  · rw [if_pos hn]
    refine W_seg [.v (.pointer (some ⟨b, 0, none⟩)), .v (.agg x.arr), .v (.agg p.arr), .v (.bool false), .p 74 x.arr, .p 103 p.arr, .any, .p 68 vA.arr, .p 68 vB.arr,
      .any, .any, .any, .v (.bool (holdsOf p.op p.long vA.n vB.n)), .any, .any, .any, .any, .any] (by simp [hb]) (by simp_all [slsOk, Sl.ok]) (fun B hB => ?_) fun w1 hk => open_v (open_v (open_v (open_v (open_p fun p4 _ h4 => open_p fun p5 _ h5 => open_any fun u6 => open_p fun p7 _ h7 => open_p fun p8 _ h8 => open_any fun _ => open_any fun _ => open_any fun _ => open_v (open_any fun _ => open_any fun _ => open_any fun _ => open_any fun _ => open_any fun _ => open_nil ?_)))))
    · simp [C_cond_eq, C_alt, e1 hB, hd', t1, t3, hn, slsIs, Sl.is]
    · rw [W_seq]
      exact jump_end _ (mach_keep hm hk (fun h => h)) (hk.mono fun _ _ h => h.elim) h4 _ rfl rfl rfl (by simp)
  · rw [if_neg hn]
    have hf : (decide (vA.tag = 1) && decide (vB.tag = 1)) = false := by
      rw [Bool.eq_false_iff]; intro h; simp at h; exact hn h
    by_cases hp : vA.tag ≠ 0 ∧ vA.tag ≠ 1 ∧ p.reg = false ∧ x.imm = 0 ∧ p.long = true ∧ (p.op = 1 ∨ p.op = 5)
    · rw [if_pos hp]
      refine W_seg [.v (.pointer (some ⟨b, 0, none⟩)), .v (.agg x.arr), .v (.agg p.arr), .v (.bool false), .p 74 x.arr, .p 103 p.arr, .any, .p 68 vA.arr, .p 68 vB.arr,
        .any, .any, .any, .v (.bool (decide (p.op = 5))), .any, .any, .any, .any, .any] (by simp [hb]) (by simp_all [slsOk, Sl.ok]) (fun B hB => ?_) fun w1 hk => open_v (open_v (open_v (open_v (open_p fun p4 _ h4 => open_p fun p5 _ h5 => open_any fun u6 => open_p fun p7 _ h7 => open_p fun p8 _ h8 => open_any fun _ => open_any fun _ => open_any fun _ => open_v (open_any fun _ => open_any fun _ => open_any fun _ => open_any fun _ => open_any fun _ => open_nil ?_)))))
      · obtain ⟨a0, a1, a2, a3, a4, a5⟩ := hp
        rw [a2] at t1
        rcases a5 with a5 | a5 <;> simp [C_cond_eq, C_alt, e1 hB, hd', t1, t3, hf, a0, a1, a2, a3, a4, a5, slsIs, Sl.is]
      · rw [W_seq]
        exact jump_end _ (mach_keep hm hk (fun h => h)) (hk.mono fun _ _ h => h.elim) h4 _ rfl rfl rfl (by simp)
    · rw [if_neg hp]
      refine W_segX [.any, .any, .any, .v (.bool false), .any, .any, .any, .any, .any, .any, .any, .any, .any, .any, .any, .any, .any, .any] (by simp [hb]) (by simp [slsOk, Sl.ok]) (fun B hB => ?_) ?_
      · have hg : (!decide (vA.tag = 0) && !decide (vA.tag = 1) && !p.reg && decide (x.imm = 0) && p.long && (decide ((p.op : Int) = 1) || decide ((p.op : Int) = 5))) = false := by
          rw [Bool.eq_false_iff]; intro h; simp [ci_eq] at h; exact hp ⟨h.1.1.1.1.1, h.1.1.1.1.2, h.1.1.1.2, h.1.1.2, h.1.2, h.2⟩
        simp [C_cond_eq, C_alt, e1 hB, hd', t1, t3, hf, hg, slsIs, Sl.is]
      · intro w1 hk
        refine open_any fun _ => open_any fun _ => open_any fun _ => open_v ?_
        repeat' refine open_any fun _ => ?_
        refine open_nil ?_
        simp
        exact ⟨hk.mono fun _ _ h => h.elim, rfl, mach_keep hm hk (fun h => h)⟩
end Go.Proofs.YtmfgdbapankamaaGreat
namespace Go.Proofs.YtmfgdbapankamaaGreat
open Go.Eng
theorem rok_load {m : RMem} (hm : MOk m) (a : RVal) (off k : Int) : ROk (loadOf m a off k).1 := by
  unfold loadOf
  split
  · unfold loadC
    split
    · exact rok_num (leN_bound _ (fun j => hm.1.2 _) _).1
    · exact rok_zero
  · split
    · unfold loadS
      split
      · split
        · exact hm.2 _
        · split
          · exact rok_num (leN_bound _ (fun j => hm.1.1 _) _).1
          · exact rok_zero
      · exact rok_zero
    · exact rok_zero
theorem mok_mark {m : RMem} (hm : MOk m) (f n : Nat) : MOk (mark m f n) := ⟨bytesOk_mark hm.1 f n, fun i => by
  show ROk (if _ then _ else _)
  split
  · exact rok_zero
  · exact hm.2 i⟩
theorem mok_withBytes {m : RMem} (hm : MOk m) (f e : Nat) (n : Int) : MOk (withBytes m f e n) := ⟨bytesOk_withBytes hm.1 f e n, hm.2⟩
theorem mok_save {m : RMem} (hm : MOk m) (a : RVal) (off k : Int) {v : RVal} (hv : ROk v) : MOk (saveOf m a off k v).1 := by
  unfold saveOf
  split
  · refine ⟨bytesOk_saveS hm.1 _ _ _, ?_⟩
    unfold saveS
    split
    · split
      · exact (mok_mark (mok_withBytes hm _ _ _) _ _).2
      · split
        · intro i
          show ROk (fset _ _ _ i)
          unfold fset
          split
          · exact hv
          · exact (mok_mark hm _ _).2 i
        · exact hm.2
    · exact hm.2
  · exact hm
theorem mok_fresh (c : Nat → Int) (maps : Value) (hc : ∀ i, 0 ≤ c i ∧ c i ≤ 255) : MOk (RMem.fresh c maps) := ⟨bytesOk_fresh c maps hc, fun _ => rok_zero⟩
def OutM (b : Nat) (k : VK) (s : VSt) (w : World) (o : Option (VSt × RMem)) (r : Value) (w' : World) : Prop :=
  Kept (fun i => i = b ∨ i = k.bm) w w' ∧ r = .bool o.isSome ∧ IsMach w' b k (o.elim s (·.1)) ∧ (∀ q, o = some q → IsMem w' k.bm q.2)
theorem OutS.toM {b : Nat} {k : VK} {s : VSt} {m : RMem} {w w' : World} {o : Option VSt} {r : Value} (h : OutS b k s w o r w') (hm : IsMem w k.bm m) (hb : k.bm ≠ b) : OutM b k s w (o.map fun q => (q, m)) r w' := by
  obtain ⟨h1, h2, h3⟩ := h
  refine ⟨h1.mono fun i _ h => .inl h, by rw [h2]; cases o <;> rfl, by cases o <;> exact h3, fun q hq => ?_⟩
  cases o with
  | none => cases hq
  | some s1 => cases hq; exact h1.has hm hb
def loadStep (s : VSt) (m : RMem) (x : Ins) (p : Parts) : Option VSt :=
  if (loadOf m (s.r x.src) (IntKind.i64.wrap x.off) p.size).2 = 0 then setOf s x.dst (loadOf m (s.r x.src) (IntKind.i64.wrap x.off) p.size).1 else none
set_option maxHeartbeats 4000000 in
theorem vload_ret (b : Nat) (k : VK) (s : VSt) (m : RMem) (x : Ins) (p : Parts) (w : World) (hm : IsMach w b k s) (hmm : IsMem w k.bm m) (hd : x.dst < 11) (hx : x.src < 11) (ok : SOk s) (mk : MOk m) :
    Ret Tryz.prog 38 [.pointer (some ⟨b, 0, none⟩), .agg x.arr, .agg p.arr] w (OutS b k s w (loadStep s m x p)) := by
  refine ret_of_W Tryz.func38 rfl ok_vm_machine_load ?_
  have hb := blk_lt hm
  have hx' : (x.src : Int) < 11 := by omega
  have hL := rok_load mk (s.r x.src) (IntKind.i64.wrap x.off) p.size
  have t1 := load_T w k.bm m (s.r x.src) (IntKind.i64.wrap x.off) p.size hmm (ok _).1 (ok _).2.1 (i64_lo _) (i64_hi _) mk.1 hL.1
  unfold loadStep
  have e0 := mach_rrow hm x.src hx
  have e37 := mach_bm hm
  generalize loadOf m (s.r x.src) (IntKind.i64.wrap x.off) p.size = o at *
  obtain ⟨v, e⟩ := o
  simp only at hL t1 ⊢
  have xv := rval_ext0 w.heap.size _ hL.1
  simp only [c_vm_machine_load, zero_val]
  rw [W_assoc, W_seq]
  refine W_seg [.v (.pointer (some ⟨b, 0, none⟩)), .v (.agg x.arr), .v (.agg p.arr), .v (.bool false), .p 74 x.arr, .p 103 p.arr, .any, .p 68 v.arr, .v (.int .i64 e), .any, .any, .any, .any, .any, .any] (by simp [hb]) (by simp_all [slsOk, Sl.ok]) (fun B hB => ?_) fun w1 hk =>
    open_v (open_v (open_v (open_v (open_p fun p4 _ h4 => open_p fun p5 _ h5 => open_any fun u6 => open_p fun p7 _ h7 => open_v (open_any fun _ => open_any fun _ => open_any fun _ => open_any fun _ => open_any fun _ => open_any fun _ => open_nil ?_)))))
  · have e1 : ∀ l, wrow (ownW B l) b (38 + x.src * 4) 4 = some (s.r x.src).arr := fun l => own_extR hB e0
    have e2 : ∀ l, wcell (ownW B l) b 37 = some (.pointer (some ⟨k.bm, 0, none⟩)) := fun l => own_ext hB e37
    simp [C_cond_eq, C_alt, e1, e2, hx', t1, slsIs, Sl.is]
  · have hm1 : IsMach w1 b k s := mach_keep hm hk (fun h => h)
    have hkb : Kept (· = b) w w1 := hk.mono fun _ _ h => h.elim
    by_cases he : e = 0
    · subst he
      rw [if_pos rfl]
      simp [wcell_of h4, rval_row h7]
      refine W_yes (by simp) ?_
      refine W_call0 (by simp [wcell_of h4, rval_row h7]) (set_ret b k s x.dst v w1 hm1 hd) ?_
      rintro r w5 ⟨hk5, rfl, hm5⟩
      simp
      exact ⟨hkb.trans hk5, rfl, hm5⟩
    · rw [if_neg he]
      simp [he]
      refine W_no (by simp [he]) ?_
      simp [he]
      exact ⟨hkb, rfl, hm1⟩
def saveStep (s : VSt) (m : RMem) (x : Ins) (size : Int) (v : RVal) : Option (VSt × RMem) :=
  if (saveOf m (s.r x.dst) (IntKind.i64.wrap x.off) size v).2 = 0 then some ({ s with pos := IntKind.i64.wrap (s.pos + 1) }, (saveOf m (s.r x.dst) (IntKind.i64.wrap x.off) size v).1) else none
set_option maxHeartbeats 4000000 in
theorem vsave_ret (b : Nat) (k : VK) (s : VSt) (m : RMem) (x : Ins) (size : Int) (v : RVal) (w : World) (hm : IsMach w b k s) (hmm : IsMem w k.bm m) (hbm : k.bm ≠ b) (hd : x.dst < 11) (ok : SOk s) (hv : ROk v) :
    Ret Tryz.prog 39 [.pointer (some ⟨b, 0, none⟩), .agg x.arr, .int .i64 size, .agg v.arr] w (OutM b k s w (saveStep s m x size v)) := by
  refine ret_of_W Tryz.func39 rfl ok_vm_machine_save ?_
  have hb := blk_lt hm
  have hd' : (x.dst : Int) < 11 := by omega
  simp only [c_vm_machine_save]
  have h5 := hp_old (hp_new w (.cells x.arr 74)) (.cells v.arr 68)
  have h6 := hp_new (w.alloc (.cells x.arr 74)) (.cells v.arr 68)
  have hm0 : IsMach ((w.alloc (.cells x.arr 74)).alloc (.cells v.arr 68)).drew b k s := hp_old (hp_old hm _) _
  have hmm0 : IsMem ((w.alloc (.cells x.arr 74)).alloc (.cells v.arr 68)).drew k.bm m := hp_old (hp_old hmm _) _
  have hk0 : Kept none' w ((w.alloc (.cells x.arr 74)).alloc (.cells v.arr 68)).drew := (((Kept.refl _ _).alloc _).alloc _).drew
  rw [alloc_size] at h6
  have h5' : ((w.alloc (.cells x.arr 74)).alloc (.cells v.arr 68)).drew.heap[w.heap.size]? = _ := h5
  have h6' : ((w.alloc (.cells x.arr 74)).alloc (.cells v.arr 68)).drew.heap[w.heap.size + 1]? = _ := h6
  simp
  generalize ((w.alloc (.cells x.arr 74)).alloc (.cells v.arr 68)).drew = w1 at h5' h6' hm0 hmm0 hk0 ⊢
  refine W_call0 (by simp [mach_bm hm0, wcell_of h5', hd', mach_rrow hm0 x.dst hd, rval_row h6']) (save_any k.bm m (s.r x.dst) v (IntKind.i64.wrap x.off) size w1 hmm0 (ok _).2.1 (i64_lo _) (i64_hi _) (fun _ => hv.2.2)) ?_
  rintro r w2 ⟨hk1, rfl, hmm1⟩
  have hm1 := mach_keep hm0 hk1 (Ne.symm hbm)
  have hk2 : Kept (fun i => i = b ∨ i = k.bm) w w2 := (hk0.mono fun _ _ h => h.elim).trans (hk1.mono fun _ _ h => .inr h)
  unfold saveStep
  generalize saveOf m (s.r x.dst) (IntKind.i64.wrap x.off) size v = o at *
  obtain ⟨m', e⟩ := o
  simp only at hmm1 ⊢
  by_cases he : e = 0
  · subst he
    rw [if_pos rfl]
    refine W_no (by simp) ?_
    simp
    refine W_store (by simp) (by simp [mach_pos hm1]; rfl) (mach_stpos hm1 _) (stab_nil _ _ _) ?_
    simp
    exact ⟨hk2.put (fun _ => .inl rfl) _, rfl, mach_put hm1 _, fun q hq => by cases hq; exact (put_other hbm).trans hmm1⟩
  · rw [if_neg he]
    refine W_yes (by simp [he]) ?_
    simp
    exact ⟨hk2, rfl, hm1, fun q hq => by cases hq⟩
def atomN (imm a b : Int) : Option Int :=
  if imm = 0 then some (IntKind.u64.wrap (a + b)) else if imm = 64 then some (bitOr .u64 a b) else if imm = 80 then some (bitAnd .u64 a b) else if imm = 160 then some (bitXor .u64 a b) else none
theorem atomN_ok {imm a b n : Int} (h : atomN imm a b = some n) : 0 ≤ n := by
  have hw : ∀ z, 0 ≤ IntKind.u64.wrap z := fun z => by rw [IntKind.wrap_u64]; omega
  unfold atomN at h
  repeat' split at h
  all_goals first | cases h
  all_goals exact hw _
def atomicStep (s : VSt) (m : RMem) (x : Ins) (p : Parts) : Option (VSt × RMem) :=
  if (loadOf m (s.r x.dst) (IntKind.i64.wrap x.off) p.size).2 = 0 ∧ (loadOf m (s.r x.dst) (IntKind.i64.wrap x.off) p.size).1.tag = 1 ∧ (s.r x.src).tag = 1 then
    (atomN x.imm (loadOf m (s.r x.dst) (IntKind.i64.wrap x.off) p.size).1.n (s.r x.src).n).bind fun n => saveStep s m x p.size (num n)
  else none
set_option maxHeartbeats 8000000 in
theorem atomic_ret (b : Nat) (k : VK) (s : VSt) (m : RMem) (x : Ins) (p : Parts) (w : World) (hm : IsMach w b k s) (hmm : IsMem w k.bm m) (hbm : k.bm ≠ b) (hd : x.dst < 11) (hx : x.src < 11) (ok : SOk s) (mk : MOk m) :
    Ret Tryz.prog 41 [.pointer (some ⟨b, 0, none⟩), .agg x.arr, .agg p.arr] w (OutM b k s w (atomicStep s m x p)) := by
  refine ret_of_W Tryz.func41 rfl ok_vm_machine_atomic ?_
  have hb := blk_lt hm
  have hx' : (x.src : Int) < 11 := by omega
  have hd' : (x.dst : Int) < 11 := by omega
  have hL := rok_load mk (s.r x.dst) (IntKind.i64.wrap x.off) p.size
  have t1 := load_T w k.bm m (s.r x.dst) (IntKind.i64.wrap x.off) p.size hmm (ok _).1 (ok _).2.1 (i64_lo _) (i64_hi _) mk.1 hL.1
  unfold atomicStep
  have e0 := mach_rrow hm x.src hx
  have e3 := mach_rrow hm x.dst hd
  have e37 := mach_bm hm
  generalize loadOf m (s.r x.dst) (IntKind.i64.wrap x.off) p.size = o at *
  obtain ⟨v, e⟩ := o
  simp only at hL t1 ⊢
  have xv := rval_ext0 w.heap.size _ hL.1
  have xs := rval_ext0 w.heap.size _ (ok x.src).1
  simp only [c_vm_machine_atomic, zero_val]
  rw [W_assoc, W_assoc, W_assoc, W_assoc, W_assoc, W_seq]
  have fin : ∀ {w1 : World}, Kept none' w w1 → OutM b k s w none (.bool false) w1 := fun hk => ⟨hk.mono fun _ _ h => h.elim, rfl, mach_keep hm hk (fun h => h), fun q hq => by cases hq⟩
  by_cases hc : e = 0 ∧ v.tag = 1 ∧ (s.r x.src).tag = 1
  · rw [if_pos hc]
    obtain ⟨rfl, hc1, hc2⟩ := hc
    cases hn : atomN x.imm v.n (s.r x.src).n with
    | none =>
      refine W_segX [.any, .any, .any, .v (.bool false), .any, .any, .any, .any, .any, .any, .any, .any, .any, .any, .any, .any, .any, .any, .any, .any, .any, .any, .any, .any, .any, .any, .any] (by simp [hb]) (by simp [slsOk, Sl.ok]) (fun B hB => ?_) ?_
      · have e1 : ∀ l, wrow (ownW B l) b (38 + x.src * 4) 4 = some (s.r x.src).arr := fun l => own_extR hB e0
        have e4 : ∀ l, wrow (ownW B l) b (38 + x.dst * 4) 4 = some (s.r x.dst).arr := fun l => own_extR hB e3
        have e2 : ∀ l, wcell (ownW B l) b 37 = some (.pointer (some ⟨k.bm, 0, none⟩)) := fun l => own_ext hB e37
        have i1 : ¬ x.imm = 0 := fun h => by simp [atomN, h] at hn
        have i2 : ¬ x.imm = 64 := fun h => by simp [atomN, h] at hn
        have i3 : ¬ x.imm = 80 := fun h => by simp [atomN, h] at hn
        have i4 : ¬ x.imm = 160 := fun h => by simp [atomN, h] at hn
        simp [C_cond_eq, C_alt, e1, e2, e4, hx', hd', t1, hc1, hc2, i1, i2, i3, i4, slsIs, Sl.is]
      · intro w1 hk
        refine open_any fun _ => open_any fun _ => open_any fun _ => open_v ?_
        repeat' refine open_any fun _ => ?_
        refine open_nil ?_
        simp
        exact fin hk
    | some n =>
      have hn0 := atomN_ok hn
      refine W_seg [.v (.pointer (some ⟨b, 0, none⟩)), .any, .any, .any, .p 74 x.arr, .p 103 p.arr, .any, .any, .any, .any, .any, .any, .any, .any, .any, .v (.int .u64 n), .any, .any, .any, .any, .any, .any, .any, .any, .any, .any, .any] (by simp [hb]) (by simp_all [slsOk, Sl.ok]) (fun B hB => ?_) fun w1 hk =>
        open_v (open_any fun _ => open_any fun _ => open_any fun _ => open_p fun p4 _ h4 => open_p fun p5 _ h5 => open_any fun _ => open_any fun _ => open_any fun _ => open_any fun _ => open_any fun _ => open_any fun _ => open_any fun _ => open_any fun _ => open_any fun _ => open_v ?_)
      · have e1 : ∀ l, wrow (ownW B l) b (38 + x.src * 4) 4 = some (s.r x.src).arr := fun l => own_extR hB e0
        have e4 : ∀ l, wrow (ownW B l) b (38 + x.dst * 4) 4 = some (s.r x.dst).arr := fun l => own_extR hB e3
        have e2 : ∀ l, wcell (ownW B l) b 37 = some (.pointer (some ⟨k.bm, 0, none⟩)) := fun l => own_ext hB e37
        by_cases i1 : x.imm = 0
        · simp [atomN, i1] at hn
          simp [C_cond_eq, C_alt, e1, e2, e4, hx', hd', t1, hc1, hc2, i1, hn, slsIs, Sl.is]
        by_cases i2 : x.imm = 64
        · simp [atomN, i2] at hn
          simp [C_cond_eq, C_alt, e1, e2, e4, hx', hd', t1, hc1, hc2, i2, hn, slsIs, Sl.is]
        by_cases i3 : x.imm = 80
        · simp [atomN, i3] at hn
          simp [C_cond_eq, C_alt, e1, e2, e4, hx', hd', t1, hc1, hc2, i3, hn, slsIs, Sl.is]
        by_cases i4 : x.imm = 160
        · simp [atomN, i4] at hn
          simp [C_cond_eq, C_alt, e1, e2, e4, hx', hd', t1, hc1, hc2, i4, hn, slsIs, Sl.is]
        simp [atomN, i1, i2, i3, i4] at hn
      · repeat' refine open_any fun _ => ?_
        refine open_nil ?_
        have r4 : ∀ {w' : World}, w'.heap[p4]? = some (.cells x.arr 74 (0, 0)) → wrow w' p4 0 5 = some x.arr := fun h => by rw [wrow_of h (by simp)]; simp
        have hk1 : Kept none' w w1.drew := hk.drew
        have hm1 : IsMach w1.drew b k s := mach_keep hm hk1 (fun h => h)
        have hmm1 : IsMem w1.drew k.bm m := hk1.has hmm (fun h => h)
        have h41 : w1.drew.heap[p4]? = _ := h4
        have h51 : w1.drew.heap[p5]? = _ := h5
        simp [r4 h4, wcell_of h5]
        generalize w1.drew = w2 at hm1 hmm1 hk1 h41 h51 ⊢
        refine W_calm (by simp) (ret_of_T (number_T w2 n)) fun w3 hk3 => ?_
        have hm3 : IsMach w3 b k s := mach_keep hm1 hk3 (fun h => h)
        have hmm3 : IsMem w3 k.bm m := hk3.has hmm1 (fun h => h)
        simp
        refine W_call0 (by simp) (vsave_ret b k s m x p.size (num n) w3 hm3 hmm3 hbm hd ok (rok_num hn0)) ?_
        rintro r w4 ⟨g1, rfl, g2, g3⟩
        simp
        exact ⟨((hk1.trans hk3).mono fun _ _ h => h.elim).trans g1, rfl, g2, g3⟩
  · rw [if_neg hc]
    refine W_segX [.any, .any, .any, .v (.bool false), .any, .any, .any, .any, .any, .any, .any, .any, .any, .any, .any, .any, .any, .any, .any, .any, .any, .any, .any, .any, .any, .any, .any] (by simp [hb]) (by simp [slsOk, Sl.ok]) (fun B hB => ?_) ?_
    · have e1 : ∀ l, wrow (ownW B l) b (38 + x.src * 4) 4 = some (s.r x.src).arr := fun l => own_extR hB e0
      have e4 : ∀ l, wrow (ownW B l) b (38 + x.dst * 4) 4 = some (s.r x.dst).arr := fun l => own_extR hB e3
      have e2 : ∀ l, wcell (ownW B l) b 37 = some (.pointer (some ⟨k.bm, 0, none⟩)) := fun l => own_ext hB e37
      have hf : (!decide (e = 0) || !decide (v.tag = 1) || !decide ((s.r x.src).tag = 1)) = true := by
        by_cases c1 : e = 0 <;> by_cases c2 : v.tag = 1 <;> by_cases c3 : (s.r x.src).tag = 1 <;> simp [c1, c2, c3]
        exact hc ⟨c1, c2, c3⟩
      simp [C_cond_eq, C_alt, e1, e2, e4, hx', hd', t1, hf, slsIs, Sl.is]
    · intro w1 hk
      refine open_any fun _ => open_any fun _ => open_any fun _ => open_v ?_
      repeat' refine open_any fun _ => ?_
      refine open_nil ?_
      simp
      exact fin hk
end Go.Proofs.YtmfgdbapankamaaGreat
