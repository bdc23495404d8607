/- Layer 20: steps of a machine, cells' places too. Part 1: alu, jump. -/
import Derived.Test.YtmfgdbapankamaaGreatGr17
import Derived.Test.YtmfgdbapankamaaGreatGr8
import Derived.Test.YtmfgdbapankamaaGreatGr10
set_option linter.unusedSimpArgs false
set_option linter.unusedVariables false
set_option maxRecDepth 8000
namespace Go.Proofs.YtmfgdbapankamaaGreat
open Go.Eng
def SE (n : Nat) (s : VSt) : Prop := ∀ i, RE n (s.r i)
theorem re_second {n : Nat} {s : VSt} (ok : SE n s) (x : Ins) (reg : Bool) : RE n (secondOf s x reg) := by
  unfold secondOf
  split
  · exact ok _
  · exact re_num (by rw [IntKind.wrap_u64]; omega)
theorem re_aluA {n : Nat} {p : Parts} {a b : RVal} (h : RE n a) : RE n (aluA p a b) := by
  unfold aluA; split
  · exact re_num (by omega)
  · exact h
theorem re_aluB {n : Nat} {p : Parts} {b : RVal} (h : RE n b) : RE n (aluB p b) := by
  unfold aluB; split
  · exact h
  · split
    · exact re_num (by omega)
    · exact h
set_option maxHeartbeats 4000000 in
theorem galu_ret (b : Nat) (k : VK) (s : VSt) (x : Ins) (p : Parts) (w : World) (hm : IsMach w b k s) (hd : x.dst < 11) (hx : x.src < 11) (ok : SE w.heap.size s) :
    Ret Tryz.prog 34 [.pointer (some ⟨b, 0, none⟩), .agg x.arr, .agg p.arr] w (OutS b k s w (aluOf s x p)) := by
  refine ret_of_W Tryz.func34 rfl ok_vm_machine_alu ?_
  have hb := blk_lt hm
  have hd' : (x.dst : Int) < 11 := by omega
  have t1 := gsecond_T w b k s hm x p.reg hx (fun i => (ok i).1)
  have t2 := number_T w 0
  have kb := re_second ok x p.reg
  have kA : RE w.heap.size (aluA p (s.r x.dst) (secondOf s x p.reg)) := re_aluA (ok _)
  have kB : RE w.heap.size (aluB p (secondOf s x p.reg)) := re_aluB kb
  have ho : aluOf s x p = if (aluA p (s.r x.dst) (secondOf s x p.reg)).tag = 1 ∧ (aluB p (secondOf s x p.reg)).tag = 1 then setOf s x.dst (num (evalOf p.op p.long (aluA p (s.r x.dst) (secondOf s x p.reg)).n (aluB p (secondOf s x p.reg)).n))
    else if (onPlaceOf p.op (aluA p (s.r x.dst) (secondOf s x p.reg)) (aluB p (secondOf s x p.reg))).2 = true ∧ p.long = true ∧ p.op ≠ 8 then setOf s x.dst (onPlaceOf p.op (aluA p (s.r x.dst) (secondOf s x p.reg)) (aluB p (secondOf s x p.reg))).1 else none := rfl
  rw [ho]
  have eB : aluB p (secondOf s x p.reg) = if p.op = 11 ∧ (secondOf s x p.reg).tag = 1 then secondOf s x p.reg else if p.op = 8 then num 0 else secondOf s x p.reg := rfl
  have eA : aluA p (s.r x.dst) (secondOf s x p.reg) = if p.op = 11 ∧ (secondOf s x p.reg).tag = 1 then num 0 else s.r x.dst := rfl
  generalize aluA p (s.r x.dst) (secondOf s x p.reg) = vA at *
  generalize aluB p (secondOf s x p.reg) = vB at *
  generalize secondOf s x p.reg = v2 at *
  simp only [RVal.val] at t2
  simp only [c_vm_machine_alu, zero_val]
  rw [W_assoc, W_assoc, W_seq]
  refine W_seg [.v (.pointer (some ⟨b, 0, none⟩)), .v (.agg x.arr), .v (.agg p.arr), .v (.bool false), .p 74 x.arr, .p 103 p.arr, .any, .p 68 vA.arr, .p 68 vB.arr,
    .any, .any, .any, .any, .any, .any, .any, .any, .any, .any, .any, .any, .any, .any, .any, .any, .any] (by simp [hb]) ?_ (fun B hB => ?_) ?_
  · have := rval_ext w.heap.size _ kA.1
    have := rval_ext w.heap.size _ kB.1
    simp_all [slsOk, Sl.ok]
  · have e1 : ∀ l, wrow (ownW B l) b (38 + x.dst * 4) 4 = some (s.r x.dst).arr := fun l => own_extR hB (mach_rrow hm x.dst hd)
    rw [eA, eB]
    by_cases h11 : p.op = 11
    · by_cases h1 : v2.tag = 1 <;> simp [C_cond_eq, C_alt, e1, hd', t1, t2, h11, h1, slsIs, Sl.is]
    · by_cases h8 : p.op = 8 <;> simp [C_cond_eq, C_alt, e1, hd', t1, t2, h11, ci_eq, h8, slsIs, Sl.is]
  · intro w1 hk
    refine open_v (open_v (open_v (open_v (open_p fun p4 _ h4 => open_p fun p5 _ h5 => open_any fun u6 => open_p fun p7 _ h7 => open_p fun p8 _ h8 => ?_))))
    repeat' refine open_any fun _ => ?_
    refine open_nil ?_
    have hm1 : IsMach w1 b k s := mach_keep hm hk (fun h => h)
    have hkb : Kept (· = b) w w1 := hk.mono fun _ _ h => h.elim
    rw [W_seq]
    by_cases hn : vA.tag = 1 ∧ vB.tag = 1
    · refine W_yes (by simp [wcell_of h7, wcell_of h8, hn]) ?_
      rw [if_pos hn]
      have hm2 : IsMach w1.drew b k s := hm1
      have h42 : w1.drew.heap[p4]? = _ := h4
      have h52 : w1.drew.heap[p5]? = _ := h5
      have h72 : w1.drew.heap[p7]? = _ := h7
      have h82 : w1.drew.heap[p8]? = _ := h8
      have hkb2 : Kept (· = b) w w1.drew := hkb.drew
      simp [wcell_of h4]
      generalize w1.drew = w2 at hm2 h42 h52 h72 h82 hkb2 ⊢
      refine W_calm (by simp [wcell_of h52, wcell_of h72, wcell_of h82]) (ret_of_T (eval_T w2 p.op p.long vA.n vB.n kB.2)) fun w3 hk3 => ?_
      simp
      refine W_calm (by simp; rfl) (ret_of_T (number_T w3 _)) fun w4 hk4 => ?_
      have hm4 : IsMach w4 b k s := mach_keep (mach_keep hm2 hk3 (fun h => h)) hk4 (fun h => h)
      simp
      refine W_call0 (by simp) (set_ret b k s x.dst (num (evalOf p.op p.long vA.n vB.n)) w4 hm4 hd) ?_
      rintro r w5 ⟨hk5, rfl, hm5⟩
      simp
      exact ⟨((hkb2.trans (hk3.mono fun _ _ h => h.elim)).trans (hk4.mono fun _ _ h => h.elim)).trans hk5, rfl, hm5⟩
    · refine W_no (by simp [wcell_of h7, wcell_of h8]; omega) ?_
      rw [if_neg hn]
      simp [wcell_of h5, rval_row h7, rval_row h8]
      refine W_call0 (by simp [wcell_of h5, rval_row h7, rval_row h8]) (ret_of_T (gonPlace_T w1 p.op vA vB (kA.1.mono hk.size) (kB.1.mono hk.size))) ?_
      rintro r w2 ⟨rfl, hk2⟩
      have hm2 : IsMach w2 b k s := mach_keep hm1 hk2 (fun h => h)
      have h42 := hk2.has h4 (fun h => h)
      have h52 := hk2.has h5 (fun h => h)
      have hkb2 : Kept (· = b) w w2 := hkb.trans (hk2.mono fun _ _ h => h.elim)
      simp
      generalize onPlaceOf p.op vA vB = o at *
      obtain ⟨ov, oc⟩ := o
      simp only
      have h9 := hp_new w2 (.cells RVal.zero.arr 68)
      have h43 := hp_old h42 (.cells RVal.zero.arr 68)
      have h53 := hp_old h52 (.cells RVal.zero.arr 68)
      have hm3 : IsMach (w2.alloc (.cells RVal.zero.arr 68)) b k s := hp_old hm2 _
      have hkb3 := hkb2.alloc (.cells RVal.zero.arr 68)
      have hsz := blk_lt h9
      generalize w2.alloc (.cells RVal.zero.arr 68) = w3 at h9 h43 h53 hm3 hkb3 hsz ⊢
      have ne1 : w2.heap.size ≠ b := by have := blk_lt hm2; omega
      have ne4 : p4 ≠ w2.heap.size := by have := blk_lt h42; omega
      have ne5 : p5 ≠ w2.heap.size := by have := blk_lt h52; omega
      refine W_store (by simp) (by simp) (store_val (v := ov) h9) (stab_nil _ _ _) ?_
      have g9 := put_same (o := .cells ov.arr 68) hsz
      have g4 : (put w3 w2.heap.size (.cells ov.arr 68)).heap[p4]? = _ := (put_other ne4).trans h43
      have g5 : (put w3 w2.heap.size (.cells ov.arr 68)).heap[p5]? = _ := (put_other ne5).trans h53
      have gm : IsMach (put w3 w2.heap.size (.cells ov.arr 68)) b k s := (put_other (Ne.symm ne1)).trans hm3
      have gk : Kept (· = b) w (put w3 w2.heap.size (.cells ov.arr 68)) := hkb3.put (fun h => by have := hkb2.size; omega) _
      generalize put w3 w2.heap.size (.cells ov.arr 68) = w4 at g9 g4 g5 gm gk ⊢
      by_cases hq : oc = true ∧ p.long = true ∧ p.op ≠ 8
      · obtain ⟨rfl, hl, h8⟩ := hq
        simp [wcell_of g4, wcell_of g5, rval_row g9, hl, ci_eq, h8]
        refine W_yes (by simp) ?_
        refine W_call0 (by simp [wcell_of g4, rval_row g9]) (set_ret b k s x.dst ov w4 gm hd) ?_
        rintro r w5 ⟨hk5, rfl, hm5⟩
        simp
        exact ⟨gk.trans hk5, rfl, hm5⟩
      · have hf : (oc && p.long && !decide ((p.op : Int) = 8)) = false := by
          rw [Bool.eq_false_iff]
          intro h
          simp [ci_eq] at h
          exact hq ⟨h.1.1, h.1.2, h.2⟩
        rw [if_neg hq]
        simp [wcell_of g4, wcell_of g5, rval_row g9, hf]
        refine W_no (by simp) ?_
        simp
        exact ⟨gk, rfl, gm⟩
set_option maxHeartbeats 4000000 in
theorem gjump_ret (b : Nat) (k : VK) (s : VSt) (x : Ins) (p : Parts) (w : World) (hm : IsMach w b k s) (hd : x.dst < 11) (hx : x.src < 11) (ok : SE w.heap.size s) :
    Ret Tryz.prog 35 [.pointer (some ⟨b, 0, none⟩), .agg x.arr, .agg p.arr] w (OutS b k s w (jumpOf s x p)) := by
  refine ret_of_W Tryz.func35 rfl ok_vm_machine_jump ?_
  have hb := blk_lt hm
  have hd' : (x.dst : Int) < 11 := by omega
  have t1 := gsecond_T w b k s hm x p.reg hx (fun i => (ok i).1)
  have kB := re_second ok x p.reg
  have kA := ok x.dst
  unfold jumpOf
  have e0 := mach_rrow hm x.dst hd
  generalize secondOf s x p.reg = vB at *
  generalize s.r x.dst = vA at *
  have t3 := holds_T w p.op p.long vA.n vB.n
  have xA := rval_ext w.heap.size _ kA.1
  have xB := rval_ext w.heap.size _ kB.1
  simp only [c_vm_machine_jump, zero_val]
  rw [W_assoc, W_assoc, W_assoc, W_seq]
  have e1 : ∀ {B : World}, HeapLe w B → ∀ l, wrow (ownW B l) b (38 + x.dst * 4) 4 = some vA.arr := fun hB l => own_extR hB e0
  by_cases hn : vA.tag = 1 ∧ vB.tag = 1
  · rw [if_pos hn]
    refine W_seg [.v (.pointer (some ⟨b, 0, none⟩)), .v (.agg x.arr), .v (.agg p.arr), .v (.bool false), .p 74 x.arr, .p 103 p.arr, .any, .p 68 vA.arr, .p 68 vB.arr,
      .any, .any, .any, .v (.bool (holdsOf p.op p.long vA.n vB.n)), .any, .any, .any, .any, .any] (by simp [hb]) (by simp_all [slsOk, Sl.ok]) (fun B hB => ?_) fun w1 hk => open_v (open_v (open_v (open_v (open_p fun p4 _ h4 => open_p fun p5 _ h5 => open_any fun u6 => open_p fun p7 _ h7 => open_p fun p8 _ h8 => open_any fun _ => open_any fun _ => open_any fun _ => open_v (open_any fun _ => open_any fun _ => open_any fun _ => open_any fun _ => open_any fun _ => open_nil ?_)))))
    · simp [C_cond_eq, C_alt, e1 hB, hd', t1, t3, hn, slsIs, Sl.is]
    · rw [W_seq]
      exact jump_end _ (mach_keep hm hk (fun h => h)) (hk.mono fun _ _ h => h.elim) h4 _ rfl rfl rfl (by simp)
  · rw [if_neg hn]
    have hf : (decide (vA.tag = 1) && decide (vB.tag = 1)) = false := by
      rw [Bool.eq_false_iff]; intro h; simp at h; exact hn h
    by_cases hp : vA.tag ≠ 0 ∧ vA.tag ≠ 1 ∧ p.reg = false ∧ x.imm = 0 ∧ p.long = true ∧ (p.op = 1 ∨ p.op = 5)
    · rw [if_pos hp]
      refine W_seg [.v (.pointer (some ⟨b, 0, none⟩)), .v (.agg x.arr), .v (.agg p.arr), .v (.bool false), .p 74 x.arr, .p 103 p.arr, .any, .p 68 vA.arr, .p 68 vB.arr,
        .any, .any, .any, .v (.bool (decide (p.op = 5))), .any, .any, .any, .any, .any] (by simp [hb]) (by simp_all [slsOk, Sl.ok]) (fun B hB => ?_) fun w1 hk => open_v (open_v (open_v (open_v (open_p fun p4 _ h4 => open_p fun p5 _ h5 => open_any fun u6 => open_p fun p7 _ h7 => open_p fun p8 _ h8 => open_any fun _ => open_any fun _ => open_any fun _ => open_v (open_any fun _ => open_any fun _ => open_any fun _ => open_any fun _ => open_any fun _ => open_nil ?_)))))
      · obtain ⟨a0, a1, a2, a3, a4, a5⟩ := hp
        rw [a2] at t1
        rcases a5 with a5 | a5 <;> simp [C_cond_eq, C_alt, e1 hB, hd', t1, t3, hf, a0, a1, a2, a3, a4, a5, slsIs, Sl.is]
      · rw [W_seq]
        exact jump_end _ (mach_keep hm hk (fun h => h)) (hk.mono fun _ _ h => h.elim) h4 _ rfl rfl rfl (by simp)
    · rw [if_neg hp]
      refine W_segX [.any, .any, .any, .v (.bool false), .any, .any, .any, .any, .any, .any, .any, .any, .any, .any, .any, .any, .any, .any] (by simp [hb]) (by simp [slsOk, Sl.ok]) (fun B hB => ?_) ?_
      · have hg : (!decide (vA.tag = 0) && !decide (vA.tag = 1) && !p.reg && decide (x.imm = 0) && p.long && (decide ((p.op : Int) = 1) || decide ((p.op : Int) = 5))) = false := by
          rw [Bool.eq_false_iff]; intro h; simp [ci_eq] at h; exact hp ⟨h.1.1.1.1.1, h.1.1.1.1.2, h.1.1.1.2, h.1.1.2, h.1.2, h.2⟩
        simp [C_cond_eq, C_alt, e1 hB, hd', t1, t3, hf, hg, slsIs, Sl.is]
      · intro w1 hk
        refine open_any fun _ => open_any fun _ => open_any fun _ => open_v ?_
        repeat' refine open_any fun _ => ?_
        refine open_nil ?_
        simp
        exact ⟨hk.mono fun _ _ h => h.elim, rfl, mach_keep hm hk (fun h => h)⟩
end Go.Proofs.YtmfgdbapankamaaGreat
namespace Go.Proofs.YtmfgdbapankamaaGreat
open Go.Eng
def MapsAt (w : World) (v : Value) (bs : List Nat) : Prop :=
  ∃ p c, v = .slice p bs.length c ∧ bs.length ≤ 1000 ∧ (bs = [] ∨ ∃ q, p = some ⟨q, 0, none⟩ ∧ ∀ (i b : Nat), bs[i]? = some b → wcell w q i = some (.pointer (some ⟨b, 0, none⟩)))
theorem MapsAt.keep {w w' : World} {v : Value} {bs : List Nat} {S : Nat → Prop} (h : MapsAt w v bs) (hk : Kept S w w') (hS : ∀ i, v.ownBlock = some i → ¬ S i) : MapsAt w' v bs := by
  obtain ⟨p, c, rfl, hl, h⟩ := h
  refine ⟨p, c, rfl, hl, h.imp id ?_⟩
  rintro ⟨q, rfl, hc⟩
  exact ⟨q, rfl, fun i b hi => wcell_kept hk (hS q rfl) (hc i b hi)⟩
def mapAt (bs : List Nat) (slot : Int) : Option Nat := if slot < 0 then none else bs[slot.toNat]?
theorem map_ret (b : Nat) (m : RMem) (bs : List Nat) (slot : Int) (w : World) (hm : IsMem w b m) (h : MapsAt w m.maps bs) :
    Ret Tryz.prog 65 [.pointer (some ⟨b, 0, none⟩), .int .i64 slot] w fun v w' => v = .pointer ((mapAt bs slot).map fun q => ⟨q, 0, none⟩) ∧ w' = w := by
  refine ret_of_W Tryz.func65 rfl ok_region_Memory_Map ?_
  obtain ⟨p, c, hv, hl, hc⟩ := h
  have e : wcell w b 192 = some (.slice p bs.length c) := by rw [wcell_of hm, mem_maps, hv]
  simp [c_region_Memory_Map]
  by_cases h0 : slot < 0
  · refine W_yes (by simp [h0]) ?_
    simp [mapAt, h0]
  · by_cases h1 : (bs.length : Int) ≤ slot
    · refine W_yes (by simp [h0, e, h1]) ?_
      have : bs[slot.toNat]? = none := by simp; omega
      simp [mapAt, h0, this]
    · refine W_no (by simp [h0, e]; omega) ?_
      have hlt : slot.toNat < bs.length := by omega
      rcases hc with rfl | ⟨q, rfl, hc⟩
      · simp at hlt
      · have hce := hc slot.toNat _ (List.getElem?_eq_getElem hlt)
        have hb : bs[slot.toNat]? = some bs[slot.toNat] := List.getElem?_eq_getElem hlt
        simp [e, show 0 ≤ slot by omega, show slot < bs.length by omega, hce, mapAt, h0, hb]
def CellBox (w : World) (cb vb V c : Nat) : Prop := V ≤ c ∧ w.heap[cb]? = some (.cells #[.slice (some ⟨vb, 0, none⟩) V c] 82 (0, 0))
def VBytes (w : World) (vb V : Nat) (x : Nat → Int) : Prop := ∃ cs, w.heap[vb]? = some (.cells cs 5 (0, 0)) ∧ V ≤ cs.size ∧ ∀ j, j < V → cs[j]? = some (.int .u8 (x j))
theorem bytes_cell (b cb vb V c : Nat) (a : RVal) (w : World) (h5 : a.tag = 5) (hc : a.cell = some ⟨cb, 0, none⟩) (hb : CellBox w cb vb V c) : Ret Tryz.prog 97 [.pointer (some ⟨b, 0, none⟩), a.val] w
    fun v w' => v = .tuple #[.slice (some ⟨vb, 0, none⟩) V c, .int .i64 0] ∧ Kept none' w w' := by
  refine ret_of_W Tryz.func97 rfl ok_region_Memory_bytes ?_
  have h1 := hp_old hb.2 (.cells a.arr 68)
  have h2 := hp_new w (.cells a.arr 68)
  have hk : Kept none' w (w.alloc (.cells a.arr 68)) := (Kept.refl _ _).alloc _
  simp [c_region_Memory_bytes]
  generalize w.alloc (.cells a.arr 68) = w1 at h1 h2 hk ⊢
  simp [wcell_of h2, h5]
  refine W_no (by simp) ?_
  simp
  refine W_no (by simp) ?_
  simp
  refine W_yes (by simp) ?_
  refine W_yes (by simp [wcell_of h2, hc]) ?_
  simp [wcell_of h2, hc, wcell_of h1]
  exact hk
theorem view_retG (len below base cap q : Nat) (b : Nat) (a : RVal) (off n : Int) (w : World) (hl : len ≤ 1000) (hcap : len ≤ cap) (hb : below ≤ 64) (ho1 : -9223372036854775808 ≤ off) (ho2 : off ≤ 9223372036854775807) (hn0 : 0 ≤ n) (hn : n ≤ 140737488351232)
    (hbytes : ∀ w', Kept none' w w' → Ret Tryz.prog 97 [.pointer (some ⟨b, 0, none⟩), a.val] w'
      fun v w2 => v = .tuple #[.slice (some ⟨q, base, none⟩) len cap, .int .i64 below] ∧ Kept none' w' w2) :
    Ret Tryz.prog 80 [.pointer (some ⟨b, 0, none⟩), a.val, .int .i64 off, .int .i64 n] w fun v w' => Kept none' w w' ∧
      (if -(below : Int) ≤ IntKind.i64.wrap a.n + off ∧ IntKind.i64.wrap a.n + off + n ≤ len - below then
        ∃ f : Nat, (f : Int) = IntKind.i64.wrap a.n + off + below ∧
          v = .tuple #[.slice (some (if cap = f then ⟨q, base, none⟩ else ⟨q, base + f, none⟩)) n.toNat (cap - f), .int .i64 f, .bool true]
       else v = .tuple #[.slice none 0 0, .int .i64 0, .bool false]) := by
  refine ret_of_W Tryz.func80 rfl ok_region_Memory_view ?_
  have k1 := i64_lo a.n
  have k2 := i64_hi a.n
  simp [c_region_Memory_view]
  refine W_no (by simp) ?_
  simp
  refine W_call0 (by simp) (hbytes _ ((Kept.refl _ _).alloc _)) ?_
  rintro v w1 ⟨rfl, hk⟩
  have h7 := hk.has (hp_new w _) (fun h => h)
  simp
  refine W_call0 (by simp [wcell_of h7]) (plus_ret (IntKind.i64.wrap a.n) off _) ?_
  rintro v w2 ⟨rfl, rfl⟩
  have hkk : Kept none' w w2 := ((Kept.refl _ _).alloc _).trans (hk.mono fun _ _ h => h)
  simp
  generalize hN : IntKind.i64.wrap a.n = N at *
  by_cases hin : -(below : Int) ≤ N + off ∧ N + off + n ≤ len - below
  · have e1 : IntKind.i64.wrap (N + off) = N + off := i64w (by omega) (by omega)
    have e2 : IntKind.i64.wrap (len - below) = (len : Int) - below := i64w (by omega) (by omega)
    have e3 : IntKind.i64.wrap ((len : Int) - below - n) = (len : Int) - below - n := i64w (by omega) (by omega)
    have e4 : IntKind.i64.wrap (-(below : Int)) = -(below : Int) := i64w (by omega) (by omega)
    have e5 : IntKind.i64.wrap (N + off + below) = N + off + below := i64w (by omega) (by omega)
    have e6 : IntKind.i64.wrap (N + off + below + n) = N + off + below + n := i64w (by omega) (by omega)
    have hok : (decide (N < 0) != decide (off < 0) || (decide (N + off < 0) == decide (N < 0))) = true := by
      by_cases h1 : N < 0 <;> by_cases h2 : off < 0 <;> simp [h1, h2] <;> omega
    refine W_no ?_ ?_
    · simp [e1, e2, e3, e4]
      omega
    simp [e1, e5, e6]
    have hf : ∃ f : Nat, (f : Int) = N + off + below := ⟨(N + off + below).toNat, by omega⟩
    obtain ⟨f, hf⟩ := hf
    rw [← hf]
    simp
    rw [if_pos (by omega)]
    simp
    exact ⟨hkk, hin, f, rfl, ⟨rfl, by omega, rfl⟩, rfl⟩
  · refine W_yes ?_ ?_
    · simp
      simp (disch := omega) only [i64w]
      by_cases h1 : N + off < -9223372036854775808
      · refine .inl (.inl ?_)
        have := IntKind.wrap_i64 (N + off)
        omega
      · by_cases h2 : 9223372036854775807 < N + off
        · refine .inl (.inl ?_)
          have := IntKind.wrap_i64 (N + off)
          omega
        · simp (disch := omega) only [i64w]
          omega
    simp
    exact ⟨hkk, fun h1 => by omega⟩
theorem view_cell (b cb vb V c : Nat) (a : RVal) (off n : Int) (w : World) (h5 : a.tag = 5) (hc : a.cell = some ⟨cb, 0, none⟩) (hb : CellBox w cb vb V c) (hV : V ≤ 1000) (ho1 : -9223372036854775808 ≤ off) (ho2 : off ≤ 9223372036854775807) (hn0 : 0 ≤ n) (hn : n ≤ 140737488351232) :
    Ret Tryz.prog 80 [.pointer (some ⟨b, 0, none⟩), a.val, .int .i64 off, .int .i64 n] w fun v w' => Kept none' w w' ∧
      (if 0 ≤ IntKind.i64.wrap a.n + off ∧ IntKind.i64.wrap a.n + off + n ≤ V then
        ∃ f : Nat, (f : Int) = IntKind.i64.wrap a.n + off ∧ v = .tuple #[.slice (some (if c = f then ⟨vb, 0, none⟩ else ⟨vb, 0 + f, none⟩)) n.toNat (c - f), .int .i64 f, .bool true]
       else v = .tuple #[.slice none 0 0, .int .i64 0, .bool false]) := by
  have h := view_retG V 0 0 c vb b a off n w hV hb.1 (by omega) ho1 ho2 hn0 hn (fun w' hk => bytes_cell b cb vb V c a w' h5 hc ⟨hb.1, hk.has hb.2 (fun h => h)⟩)
  simpa using h
def loadV (x : Nat → Int) (V : Nat) (s k : Int) : RVal × Int := if sizeOk k ∧ 0 ≤ s ∧ s + k ≤ V then (⟨1, leN (fun j => x (s.toNat + j)) k.toNat, 0, none⟩, 0) else (RVal.zero, 14)
theorem load_cell (b cb vb V c : Nat) (m : RMem) (x : Nat → Int) (a : RVal) (off k : Int) (w : World) (hm : IsMem w b m) (h5 : a.tag = 5) (hc : a.cell = some ⟨cb, 0, none⟩) (hb : CellBox w cb vb V c) (hv : VBytes w vb V x) (hx : ∀ j, 0 ≤ x j ∧ x j ≤ 255) (hV : V ≤ 1000)
    (ho1 : -9223372036854775808 ≤ off) (ho2 : off ≤ 9223372036854775807) :
    Ret Tryz.prog 63 [.pointer (some ⟨b, 0, none⟩), a.val, .int .i64 off, .int .i64 k] w
      fun v w' => Kept none' w w' ∧ v = .tuple #[(loadV x V (IntKind.i64.wrap a.n + off) k).1.val, .int .i64 (loadV x V (IntKind.i64.wrap a.n + off) k).2] := by
  refine ret_of_W Tryz.func63 rfl ok_region_Memory_Load ?_
  have hb' := blk_lt hm
  have hz : (Value.agg #[.int .i64 0, .int .u64 0, .int .i64 0, .pointer none]) = RVal.zero.val := rfl
  simp only [c_region_Memory_Load, hz]
  have h6 := hp_new w (.cells a.arr 68)
  have h4 := hp_new (w.alloc (.cells a.arr 68)) (.cells RVal.zero.arr 68)
  have h6' := hp_old h6 (.cells RVal.zero.arr 68)
  have hk0 : Kept none' w ((w.alloc (.cells a.arr 68)).alloc (.cells RVal.zero.arr 68)) := ((Kept.refl _ _).alloc _).alloc _
  rw [alloc_size] at h4
  simp
  generalize (w.alloc (.cells a.arr 68)).alloc (.cells RVal.zero.arr 68) = w2 at h4 h6' hk0 ⊢
  have hb2 : CellBox w2 cb vb V c := ⟨hb.1, hk0.has hb.2 (fun h => h)⟩
  refine W_call0 (by simp) (sized_ret k w2) ?_
  rintro v w3 ⟨rfl, rfl⟩
  simp
  by_cases hs : sizeOk k
  · have hs' := hs
    unfold sizeOk at hs'
    refine W_no (by simp; omega) ?_
    simp
    refine W_call0 (by simp [rval_row h6']) (view_cell b cb vb V c a off k w3 h5 hc hb2 hV ho1 ho2 (by omega) (by omega)) ?_
    rintro v w4 ⟨hk1, hvv⟩
    have hk2 := hk0.trans hk1
    have h4' := hk1.has h4 (fun h => h)
    have h6'' := hk1.has h6' (fun h => h)
    generalize hN : IntKind.i64.wrap a.n = N at *
    by_cases hin : 0 ≤ N + off ∧ N + off + k ≤ V
    · rw [if_pos hin] at hvv
      obtain ⟨f, hf, rfl⟩ := hvv
      have hcV := hb.1
      have hne : ¬ (c = f) := by omega
      simp [hne]
      refine W_no (by simp) ?_
      simp
      refine W_call0 (by simp [rval_row h6'']) (exact_ret a f k w4) ?_
      rintro v w5 ⟨rfl, hk3⟩
      have hk4 := hk2.trans hk3
      have h4'' := hk3.has h4' (fun h => h)
      have h6x := hk3.has h6'' (fun h => h)
      have hff : (N + off).toNat = f := by omega
      simp
      refine W_no (by simp [h5]) ?_
      simp [wcell_of h6x, h5]
      refine W_no (by simp) ?_
      simp
      refine W_no (by simp) ?_
      simp
      obtain ⟨n, rfl⟩ : ∃ n : Nat, k = n := ⟨k.toNat, by omega⟩
      refine W_call0 (by simp) (little_ret vb f n (c - f) (fun j => x (f + j)) w5 (by omega) (fun j => hx _) ?_) ?_
      · intro j hj
        obtain ⟨cs, hcs, hsz, hcell⟩ := hv
        rw [wcell_of (hk4.has hcs (fun h => h)), hcell _ (by omega)]
      rintro v w7 ⟨rfl, rfl⟩
      simp
      refine W_store (by simp) (by simp; rfl) (store_val (v := ⟨1, leN (fun j => x (f + j)) n, 0, none⟩) h4'') (stab_nil _ _ _) ?_
      have hl : loadV x V (N + off) n = (⟨1, leN (fun j => x (f + j)) n, 0, none⟩, 0) := by
        unfold loadV
        rw [hff, if_pos ⟨hs, hin⟩]
        simp
      simp [rval_row (put_same (blk_lt h4'')), hl]
      exact hk4.put (fun h => absurd h (by omega)) _
    · rw [if_neg hin] at hvv
      subst hvv
      simp
      refine W_yes (by simp) ?_
      simp
      refine W_store (by simp) (by simp) (store_val (v := RVal.zero) h4') (stab_nil _ _ _) ?_
      have : ¬ (sizeOk k ∧ 0 ≤ N + off ∧ N + off + k ≤ V) := fun h => hin h.2
      simp [rval_row (put_same (blk_lt h4')), loadV, this]
      exact hk2.put (fun h => absurd h (by omega)) _
  · have hs' := hs
    unfold sizeOk at hs'
    refine W_yes (by simp; omega) ?_
    simp
    refine W_store (by simp) (by simp) (store_val (v := RVal.zero) h4) (stab_nil _ _ _) ?_
    simp [rval_row (put_same (blk_lt h4)), loadV, hs]
    exact hk0.put (fun h => absurd h (by omega)) _
theorem writes_cell (b mb : Nat) (m : RMem) (bs : List Nat) (M : BMap) (a : RVal) (w : World) (hm : IsMem w b m) (h : MapsAt w m.maps bs) (h5 : a.tag = 5) (hs : mapAt bs a.slot = some mb) (hM : MapAt w mb M) :
    Ret Tryz.prog 84 [.pointer (some ⟨b, 0, none⟩), a.val] w fun v w' => v = .bool (!M.frozen) ∧ Kept none' w w' := by
  refine ret_of_W Tryz.func84 rfl ok_region_Memory_writes ?_
  have h3 := hp_new w (.cells a.arr 68)
  have hk : Kept none' w (w.alloc (.cells a.arr 68)) := (Kept.refl _ _).alloc _
  simp [c_region_Memory_writes]
  generalize w.alloc (.cells a.arr 68) = w1 at h3 hk ⊢
  have hm1 : IsMem w1 b m := hk.has hm (fun h => h)
  refine W_yes (by simp [wcell_of h3, h5]) ?_
  simp
  refine W_call0 (by simp [wcell_of h3]) (map_ret b m bs a.slot w1 hm1 (h.keep hk (fun _ _ h => h))) ?_
  rintro v w2 ⟨rfl, rfl⟩
  rw [hs]
  simp
  refine W_yes (by simp) ?_
  refine W_call0 (by simp) (frozen_ret mb M w2 (hM.calm hk)) ?_
  rintro v w3 ⟨rfl, rfl⟩
  simp
  exact hk
def putN (x : Nat → Int) (f e : Nat) (n : Int) : Nat → Int := fun q => if f ≤ q ∧ q < e then byteN n (q - f) else x q
theorem putN_self (x : Nat → Int) (f : Nat) (n : Int) : putN x f f n = x := by funext q; unfold putN; rw [if_neg (by omega)]
theorem putN_byte {x : Nat → Int} (hx : ∀ j, 0 ≤ x j ∧ x j ≤ 255) (f e : Nat) (n : Int) (j : Nat) : 0 ≤ putN x f e n j ∧ putN x f e n j ≤ 255 := by
  unfold putN; split
  · exact byteN_range _ _
  · exact hx j
theorem store_vb {w : World} {vb V i : Nat} {x : Nat → Int} (h : VBytes w vb V x) (hi : i < V) (z : Int) : ∃ cs, w.heap[vb]? = some (.cells cs 5 (0, 0)) ∧ stv w 1 (.pointer (some ⟨vb, i, none⟩)) (.int .u8 z) = some (put w vb (.cells (cs.setIfInBounds i (.int .u8 z)) 5 (0, 0))) ∧
    VBytes (put w vb (.cells (cs.setIfInBounds i (.int .u8 z)) 5 (0, 0))) vb V (fun q => if q = i then z else x q) := by
  obtain ⟨cs, hcs, hsz, hcell⟩ := h
  refine ⟨cs, hcs, ?_, _, put_same (blk_lt hcs), by simpa using hsz, fun j hj => ?_⟩
  · rw [stv_of (n := 1) (v := .int .u8 z) hcs rfl (show i + 1 ≤ cs.size by omega) (.inl (by simp)) (by simp [Value.cells, Value.oneCell'])]
    rfl
  · rw [Array.getElem?_setIfInBounds]
    by_cases h : i = j
    · subst h; rw [if_pos rfl, if_pos (by omega)]; simp
    · rw [if_neg h, hcell j hj]; simp only []; rw [if_neg (fun e => h e.symm)]
theorem number_cell (b vb V c : Nat) (a : RVal) (f len : Nat) (n : Int) (x : Nat → Int) (w : World) (h3 : a.tag ≠ 3) (h : f + len ≤ V) (hlen : len ≤ 8) (h0 : 0 ≤ n) (hv : VBytes w vb V x) :
    Ret Tryz.prog 85 [.pointer (some ⟨b, 0, none⟩), a.val, .slice (some ⟨vb, f, none⟩) len c, .int .i64 f, .int .u64 n] w
      fun v w' => v = .tuple #[] ∧ Kept (· = vb) w w' ∧ VBytes w' vb V (putN x f (f + len) n) := by
  refine ret_of_W Tryz.func85 rfl ok_region_Memory_number ?_
  simp [c_region_Memory_number]
  have h7 := hp_new w (.cells a.arr 68)
  have hk0 : Kept (· = vb) w (w.alloc (.cells a.arr 68)) := (Kept.refl _ _).alloc _
  have hv0 : VBytes (w.alloc (.cells a.arr 68)) vb V x := by
    obtain ⟨cs, h1, h2⟩ := hv
    exact ⟨cs, hp_old h1 _, h2⟩
  have hb : vb < w.heap.size := by obtain ⟨cs, h1, _⟩ := hv; exact blk_lt h1
  generalize w.alloc (.cells a.arr 68) = w0 at h7 hk0 hv0 ⊢
  refine W_loop (fun env w' => Kept (· = vb) w w' ∧ w'.heap[w.heap.size]? = some (.cells a.arr 68 (0, 0)) ∧
      ∃ i : Nat, env = [.pointer (some ⟨b, 0, none⟩), undef, .slice (some ⟨vb, f, none⟩) len c, .int .i64 f, .int .u64 n, .pointer (some ⟨w.heap.size, 0, none⟩), .int .i64 i, .int .i64 len, undef] ∧ i ≤ len ∧ VBytes w' vb V (putN x f (f + i) n))
    (fun env _ => len - natAt env 6) ?_ ?_
  · exact ⟨hk0, h7, 0, by simp, by omega, by rw [Nat.add_zero, putN_self]; exact hv0⟩
  · rintro env w1 ⟨hk, hx, i, rfl, h1, hv1⟩
    by_cases hi : i < len
    · simp
      refine W_yes (by simp; omega) ?_
      have e2 : IntKind.i64.wrap ((i : Int) + 1) = ((i + 1 : Nat) : Int) := i64w (by omega) (by omega)
      have e3 : IntKind.i64.wrap (8 * (i : Int)) = 8 * (i : Int) := i64w (by omega) (by omega)
      have e4 := byte_eq n i h0 (by omega)
      obtain ⟨cs, hcs, hst, hv2⟩ := store_vb hv1 (i := f + i) (by omega) (byteN n i)
      simp
      refine W_store (by simp [hi]) (by simp [e3]; rw [intBin_shr _ _ _ _ (by omega)]; simp [e4]) hst (stab_nil _ _ _) ?_
      simp
      refine ⟨⟨hk.put (fun _ => rfl) _, ?_, i + 1, by simp [e2], by omega, ?_⟩, by simp [natAt, e2]; omega⟩
      · rw [put_other (by omega)]; exact hx
      · have : (fun q => if q = f + i then byteN n i else putN x f (f + i) n q) = putN x f (f + (i + 1)) n := by
          funext q
          unfold putN
          by_cases hq : q = f + i
          · subst hq; rw [if_pos rfl, if_pos (by omega), Nat.add_sub_cancel_left]
          · rw [if_neg hq]
            by_cases h2 : f ≤ q ∧ q < f + i
            · rw [if_pos h2, if_pos (by omega)]
            · rw [if_neg h2, if_neg (by omega)]
        rw [← this]
        exact hv2
    · simp
      refine W_no (by simp; omega) ?_
      have : i = len := by omega
      subst this
      simp
      refine W_no (by simp [wcell_of hx, h3]) ?_
      simp
      exact ⟨hk, hv1⟩
end Go.Proofs.YtmfgdbapankamaaGreat
namespace Go.Proofs.YtmfgdbapankamaaGreat
open Go.Eng
theorem VBytes.keep {w w' : World} {vb V : Nat} {x : Nat → Int} {S : Nat → Prop} (h : VBytes w vb V x) (hk : Kept S w w') (hS : ¬ S vb) : VBytes w' vb V x := by
  obtain ⟨cs, h1, h2⟩ := h
  exact ⟨cs, hk.has h1 hS, h2⟩
def saveV (x : Nat → Int) (V : Nat) (s k n : Int) : (Nat → Int) × Int := if sizeOk k ∧ 0 ≤ s ∧ s + k ≤ V then (putN x s.toNat (s.toNat + k.toNat) n, 0) else (x, 14)
theorem save_cell (b cb vb V c mb : Nat) (m : RMem) (M : BMap) (bs : List Nat) (x : Nat → Int) (a : RVal) (n off k : Int) (w : World) (hm : IsMem w b m) (hmaps : MapsAt w m.maps bs) (h5 : a.tag = 5) (hc : a.cell = some ⟨cb, 0, none⟩) (hs : mapAt bs a.slot = some mb)
    (hM : MapAt w mb M) (hf : M.frozen = false) (hb : CellBox w cb vb V c) (hv : VBytes w vb V x) (hV : V ≤ 1000) (hn : 0 ≤ n) (ho1 : -9223372036854775808 ≤ off) (ho2 : off ≤ 9223372036854775807) :
    Ret Tryz.prog 64 [.pointer (some ⟨b, 0, none⟩), a.val, .int .i64 off, .int .i64 k, (RVal.mk 1 n 0 none).val] w
      fun r w' => Kept (· = vb) w w' ∧ r = .int .i64 (saveV x V (IntKind.i64.wrap a.n + off) k n).2 ∧ VBytes w' vb V (saveV x V (IntKind.i64.wrap a.n + off) k n).1 := by
  refine ret_of_W Tryz.func64 rfl ok_region_Memory_Save ?_
  have hb' := blk_lt hm
  simp only [c_region_Memory_Save]
  generalize hvv : RVal.mk 1 n 0 none = v
  have ht : v.tag = 1 := by rw [← hvv]
  have hvn : v.n = n := by rw [← hvv]
  have h6 := hp_new w (.cells a.arr 68)
  have h4 := hp_new (w.alloc (.cells a.arr 68)) (.cells v.arr 68)
  have h6' := hp_old h6 (.cells v.arr 68)
  have hk0 : Kept none' w ((w.alloc (.cells a.arr 68)).alloc (.cells v.arr 68)) := ((Kept.refl _ _).alloc _).alloc _
  rw [alloc_size] at h4
  simp
  generalize (w.alloc (.cells a.arr 68)).alloc (.cells v.arr 68) = w2 at h4 h6' hk0 ⊢
  have hb2 : CellBox w2 cb vb V c := ⟨hb.1, hk0.has hb.2 (fun h => h)⟩
  refine W_call0 (by simp) (sized_ret k w2) ?_
  rintro r w3 ⟨rfl, rfl⟩
  simp
  by_cases hs1 : sizeOk k
  · have hs' := hs1
    unfold sizeOk at hs'
    refine W_no (by simp [wcell_of h4, ht]; omega) ?_
    simp
    refine W_call0 (by simp [rval_row h6']) (view_cell b cb vb V c a off k w3 h5 hc hb2 hV ho1 ho2 (by omega) (by omega)) ?_
    rintro r w4 ⟨hk1, hr⟩
    have hk2 := hk0.trans hk1
    have h4' := hk1.has h4 (fun h => h)
    have h6'' := hk1.has h6' (fun h => h)
    generalize hN : IntKind.i64.wrap a.n = N at *
    by_cases hin : 0 ≤ N + off ∧ N + off + k ≤ V
    · rw [if_pos hin] at hr
      obtain ⟨f, hf', rfl⟩ := hr
      have hcV := hb.1
      have hne : ¬ (c = f) := by omega
      simp [hne, rval_row h6'']
      refine W_yes (by simp) ?_
      refine W_call0 (by simp [rval_row h6'']) (writes_cell b mb m bs M a w4 (hk2.has hm (fun h => h)) (hmaps.keep hk2 (fun _ _ h => h)) h5 hs (hM.calm hk2)) ?_
      rintro r w5 ⟨rfl, hk3⟩
      have hk4 := hk2.trans hk3
      have h4'' := hk3.has h4' (fun h => h)
      have h6x := hk3.has h6'' (fun h => h)
      simp [hf]
      refine W_no (by simp) ?_
      simp
      have hff : (N + off).toNat = f := by omega
      obtain ⟨k, rfl⟩ : ∃ k' : Nat, k = k' := ⟨k.toNat, by omega⟩
      refine W_yes (by simp [wcell_of h4'', ht]) ?_
      simp
      refine W_call0 (by simp [rval_row h6x, wcell_of h4'']) (number_cell b vb V (c - f) a f k v.n x w5 (by omega) (by omega) (by omega) (by omega) (hv.keep hk4 (fun h => h))) ?_
      rintro r w6 ⟨rfl, hk5, hv6⟩
      simp
      have hl : saveV x V (N + off) k n = (putN x f (f + k) n, 0) := by
        unfold saveV
        rw [hff, if_pos ⟨hs1, hin⟩]
        simp
      rw [hl]
      rw [hvn] at hv6
      exact ⟨(hk4.mono fun _ _ h => h.elim).trans hk5, rfl, hv6⟩
    · rw [if_neg hin] at hr
      subst hr
      simp
      refine W_no (by simp) ?_
      simp
      refine W_yes (by simp) ?_
      have : ¬ (sizeOk k ∧ 0 ≤ N + off ∧ N + off + k ≤ V) := fun h => hin h.2
      simp [saveV, this]
      exact ⟨hk2.mono fun _ _ h => h.elim, hv.keep hk2 (fun h => h)⟩
  · have hs' := hs1
    unfold sizeOk at hs'
    refine W_yes (by simp [wcell_of h4, ht]; omega) ?_
    have : ∀ s, ¬ (sizeOk k ∧ 0 ≤ s ∧ s + k ≤ V) := fun s h => hs1 h.1
    simp [saveV, this]
    exact ⟨hk0.mono fun _ _ h => h.elim, hv.keep hk0 (fun h => h)⟩
theorem save_no (b : Nat) (a v : RVal) (wr : Bool) (off k : Int) (w : World) (ht0 : 0 < v.tag) (ht5 : v.tag ≤ 5) (ha : a.tag ≠ 3) (hno : wr = false ∨ v.tag ≠ 1)
    (hview : ∀ w', Kept none' w w' → sizeOk k → Ret Tryz.prog 80 [.pointer (some ⟨b, 0, none⟩), a.val, .int .i64 off, .int .i64 k] w'
      fun r w2 => Kept none' w' w2 ∧ ((∃ q o n c f : Nat, r = .tuple #[.slice (some ⟨q, o, none⟩) n c, .int .i64 f, .bool true]) ∨ r = .tuple #[.slice none 0 0, .int .i64 0, .bool false]))
    (hw : ∀ w', Kept none' w w' → Ret Tryz.prog 84 [.pointer (some ⟨b, 0, none⟩), a.val] w' fun r w2 => r = .bool wr ∧ Kept none' w' w2) :
    Ret Tryz.prog 64 [.pointer (some ⟨b, 0, none⟩), a.val, .int .i64 off, .int .i64 k, v.val] w fun r w' => r = .int .i64 14 ∧ Kept none' w w' := by
  refine ret_of_W Tryz.func64 rfl ok_region_Memory_Save ?_
  simp only [c_region_Memory_Save]
  have h6 := hp_new w (.cells a.arr 68)
  have h4 := hp_new (w.alloc (.cells a.arr 68)) (.cells v.arr 68)
  have h6' := hp_old h6 (.cells v.arr 68)
  have hk0 : Kept none' w ((w.alloc (.cells a.arr 68)).alloc (.cells v.arr 68)) := ((Kept.refl _ _).alloc _).alloc _
  rw [alloc_size] at h4
  simp
  generalize (w.alloc (.cells a.arr 68)).alloc (.cells v.arr 68) = w2 at h4 h6' hk0 ⊢
  refine W_call0 (by simp) (sized_ret k w2) ?_
  rintro r w3 ⟨rfl, rfl⟩
  simp
  by_cases hs1 : sizeOk k
  · have hs' := hs1
    unfold sizeOk at hs'
    refine W_no (by simp [wcell_of h4]; omega) ?_
    simp
    refine W_call0 (by simp [rval_row h6']) (hview w3 hk0 hs1) ?_
    rintro r w4 ⟨hk1, hr⟩
    have hk2 := hk0.trans hk1
    have h4' := hk1.has h4 (fun h => h)
    have h6'' := hk1.has h6' (fun h => h)
    rcases hr with ⟨q, o, n, c, f, rfl⟩ | rfl
    · simp [rval_row h6'']
      refine W_yes (by simp) ?_
      refine W_call0 (by simp [rval_row h6'']) (hw w4 hk2) ?_
      rintro r w5 ⟨rfl, hk3⟩
      have hk4 := hk2.trans hk3
      have h4'' := hk3.has h4' (fun h => h)
      have h6x := hk3.has h6'' (fun h => h)
      simp
      cases wr
      · refine W_yes (by simp) ?_
        simp
        exact hk4
      · have ht : v.tag ≠ 1 := by simpa using hno
        refine W_no (by simp) ?_
        simp
        refine W_no (by simp [wcell_of h4'', ht]) ?_
        simp
        refine W_call0 (by simp [rval_row h6x]) (exact_ret a f k w5) ?_
        rintro r w6 ⟨rfl, hk5⟩
        simp
        refine W_yes (by simp [ha]) ?_
        simp
        exact hk4.trans hk5
    · simp
      refine W_no (by simp) ?_
      simp
      refine W_yes (by simp) ?_
      simp
      exact hk2
  · have hs' := hs1
    unfold sizeOk at hs'
    refine W_yes (by simp [wcell_of h4]; omega) ?_
    simp
    exact hk0
theorem save_cell_no (b cb vb V c mb : Nat) (m : RMem) (M : BMap) (bs : List Nat) (a v : RVal) (off k : Int) (w : World) (hm : IsMem w b m) (hmaps : MapsAt w m.maps bs) (h5 : a.tag = 5) (hc : a.cell = some ⟨cb, 0, none⟩) (hs : mapAt bs a.slot = some mb)
    (hM : MapAt w mb M) (hb : CellBox w cb vb V c) (hV : V ≤ 1000) (ht0 : 0 < v.tag) (ht5 : v.tag ≤ 5) (hno : M.frozen = true ∨ v.tag ≠ 1) (ho1 : -9223372036854775808 ≤ off) (ho2 : off ≤ 9223372036854775807) :
    Ret Tryz.prog 64 [.pointer (some ⟨b, 0, none⟩), a.val, .int .i64 off, .int .i64 k, v.val] w fun r w' => r = .int .i64 14 ∧ Kept none' w w' := by
  refine save_no b a v (!M.frozen) off k w ht0 ht5 (by omega) (by simpa using hno) (fun w' hk hs1 => ?_) (fun w' hk => writes_cell b mb m bs M a w' (hk.has hm (fun h => h)) (hmaps.keep hk (fun _ _ h => h)) h5 hs (hM.calm hk))
  unfold sizeOk at hs1
  refine (view_cell b cb vb V c a off k w' h5 hc ⟨hb.1, hk.has hb.2 (fun h => h)⟩ hV ho1 ho2 (by omega) (by omega)).mono ?_
  rintro r w2 ⟨h1, h2⟩
  refine ⟨h1, ?_⟩
  split at h2
  · obtain ⟨f, _, rfl⟩ := h2
    left
    by_cases h : c = f
    · exact ⟨vb, 0, _, _, f, by rw [if_pos h]⟩
    · exact ⟨vb, _, _, _, f, by rw [if_neg h]⟩
  · exact .inr h2
theorem fill_no (b n c : Nat) (sa : Option Addr) (a : RVal) (w : World) (hn : n ≤ 64)
    (hview : ∀ w', Kept none' w w' → Ret Tryz.prog 80 [.pointer (some ⟨b, 0, none⟩), a.val, .int .i64 0, .int .i64 n] w'
      fun r w2 => Kept none' w' w2 ∧ ((∃ q o n c f : Nat, r = .tuple #[.slice (some ⟨q, o, none⟩) n c, .int .i64 f, .bool true]) ∨ r = .tuple #[.slice none 0 0, .int .i64 0, .bool false]))
    (hw : ∀ w', Kept none' w w' → Ret Tryz.prog 84 [.pointer (some ⟨b, 0, none⟩), a.val] w' fun r w2 => r = .bool false ∧ Kept none' w' w2) :
    Ret Tryz.prog 94 [.pointer (some ⟨b, 0, none⟩), a.val, .slice sa n c] w fun r w' => r = .int .i64 14 ∧ Kept none' w w' := by
  refine ret_of_W Tryz.func94 rfl ok_region_Memory_Fill ?_
  simp only [c_region_Memory_Fill]
  have h5 := hp_new w (.cells a.arr 68)
  have hk0 : Kept none' w (w.alloc (.cells a.arr 68)) := (Kept.refl _ _).alloc _
  simp
  generalize w.alloc (.cells a.arr 68) = w2 at h5 hk0 ⊢
  refine W_call0 (by simp [rval_row h5]) (hview w2 hk0) ?_
  rintro r w3 ⟨hk1, hr⟩
  have hk2 := hk0.trans hk1
  have h5' := hk1.has h5 (fun h => h)
  have hn64 : ¬ (64 < (n : Int)) := by omega
  rcases hr with ⟨q, o, n', c', f, rfl⟩ | rfl
  · simp [hn64, rval_row h5']
    refine W_yes (by simp [hn64]) ?_
    refine W_call0 (by simp [rval_row h5']) (hw w3 hk2) ?_
    rintro v w4 ⟨rfl, hk3⟩
    simp
    refine W_yes (by simp [hn64]) ?_
    simp
    exact hk2.trans hk3
  · simp
    refine W_no (by simp) ?_
    simp
    refine W_yes (by simp) ?_
    simp
    exact hk2
theorem fill_cell_no (b cb vb V c mb n sc : Nat) (sa : Option Addr) (m : RMem) (M : BMap) (bs : List Nat) (a : RVal) (w : World) (hm : IsMem w b m) (hmaps : MapsAt w m.maps bs) (h5 : a.tag = 5) (hc : a.cell = some ⟨cb, 0, none⟩) (hs : mapAt bs a.slot = some mb)
    (hM : MapAt w mb M) (hb : CellBox w cb vb V c) (hV : V ≤ 1000) (hf : M.frozen = true) (hn : n ≤ 64) :
    Ret Tryz.prog 94 [.pointer (some ⟨b, 0, none⟩), a.val, .slice sa n sc] w fun r w' => r = .int .i64 14 ∧ Kept none' w w' := by
  refine fill_no b n sc sa a w hn (fun w' hk => ?_) (fun w' hk => (writes_cell b mb m bs M a w' (hk.has hm (fun h => h)) (hmaps.keep hk (fun _ _ h => h)) h5 hs (hM.calm hk)).mono (by rintro r w2 ⟨rfl, h⟩; rw [hf]; exact ⟨rfl, h⟩))
  refine (view_cell b cb vb V c a 0 n w' h5 hc ⟨hb.1, hk.has hb.2 (fun h => h)⟩ hV (by omega) (by omega) (by omega) (by omega)).mono ?_
  rintro r w2 ⟨h1, h2⟩
  refine ⟨h1, ?_⟩
  split at h2
  · obtain ⟨f, _, rfl⟩ := h2
    left
    by_cases h : c = f
    · exact ⟨vb, 0, _, _, f, by rw [if_pos h]⟩
    · exact ⟨vb, _, _, _, f, by rw [if_neg h]⟩
  · exact .inr h2
end Go.Proofs.YtmfgdbapankamaaGreat
