/- Layer 20: calls and wide instructions of a machine with maps. -/
import Derived.Test.YtmfgdbapankamaaGreatGr28
set_option linter.unusedSimpArgs false
set_option linter.unusedVariables false
set_option maxRecDepth 8000
namespace Go.Proofs.YtmfgdbapankamaaGreat
open Go.Eng
theorem clr5_ren (f : Nat → Nat) (s : VSt) (n : Nat) : clr5 (s.ren f) n = (clr5 s n).ren f := by
  unfold clr5 VSt.ren
  simp only
  have : (fun i => if 1 ≤ i ∧ i < n then RVal.zero else (s.r i).ren f) = fun i => (if 1 ≤ i ∧ i < n then RVal.zero else s.r i).ren f := by
    funext i
    split <;> rfl
  rw [this]
theorem called_ren (f : Nat → Nat) (s : VSt) (v : RVal) : calledOf (s.ren f) (v.ren f) = (calledOf s v).ren f := by
  unfold calledOf
  rw [clr5_ren]
  unfold VSt.ren
  simp only [ren_fset]
noncomputable def gcallOf (G : GSt) (clock : Int) (us : List Int) (imm : Int) : Option GSt := (ghelpOf G clock us imm).map fun q => { q.1 with s := calledOf q.1.s q.2 }
section
variable {w : World} {b : Nat} {k : VK} {N : Names} {mv : Value} {G : GSt}
set_option maxHeartbeats 1000000 in
theorem gcall_ret (h : GAt w b k N mv G) (ok : GOk G) (hc : ∀ A ∈ G.ms, A.clock + 1 ≤ 1000000) {S : Nat → Prop} (hS : S b) {us : List Int} (hu : Luck w S k.random us) (hus : ∀ n ∈ us, 0 ≤ n) (x : Ins) :
    Ret Tryz.prog 37 [.pointer (some ⟨b, 0, none⟩), .agg x.arr] w (OutG b k N mv G w (gcallOf G k.clock us x.imm)) := by
  refine ret_of_W Tryz.func37 rfl ok_vm_machine_call ?_
  simp only [c_vm_machine_call, zero_val]
  have h3 := hp_new w (.cells x.arr 74)
  have hk0 : Kept none' w (w.alloc (.cells x.arr 74)) := (Kept.refl _ _).alloc _
  simp
  generalize w.alloc (.cells x.arr 74) = w1 at h3 hk0 ⊢
  have h1 := h.calm hk0
  refine W_call0 (by simp [wcell_of h3]) (ghelp_ret h1 ok hc hS (hu.keep (hk0.mono fun i _ h => h.elim)) hus x.imm) ?_
  intro r w2 hr
  obtain ⟨u, N', rfl, hu2, hG2, hn2, hk2⟩ := hr
  have hn02 := NExt.before hn2 hk0.size
  have hk02 : Kept (fun j => j = b ∨ j = k.bm ∨ N.own G.cs.length j) w w2 := (hk0.mono fun _ _ h => h.elim).trans hk2
  unfold gcallOf
  generalize ghelpOf G k.clock us x.imm = o at *
  have h5 := hp_new w2 (.cells RVal.zero.arr 68)
  have hk3 : Kept none' w2 (w2.alloc (.cells RVal.zero.arr 68)) := (Kept.refl _ _).alloc _
  have hp0 : w2.heap.size ≤ w2.heap.size := Nat.le_refl _
  simp
  generalize w2.alloc (.cells RVal.zero.arr 68) = w3 at h5 hk3 ⊢
  generalize hp5 : w2.heap.size = p5 at *
  refine W_store (by simp) (by simp) (store_val (v := u) h5) (stab_nil _ _ _) ?_
  have g5 := put_same (o := .cells u.arr 68) (blk_lt h5)
  have hk4 : Kept none' w2 (put w3 p5 (.cells u.arr 68)) := hk3.putNew (by omega) _
  generalize put w3 p5 (.cells u.arr 68) = w4 at g5 hk4 ⊢
  have hG4 := hG2.calm hk4
  cases o with
  | none =>
    simp
    refine W_yes (by simp) ?_
    simp
    exact ⟨rfl, N', hG4, hn02, hk02.trans (hk4.mono fun _ _ h => h.elim)⟩
  | some q =>
    obtain ⟨G1, v⟩ := q
    have hu3 := hu2 _ rfl
    simp only at hu3
    subst hu3
    simp only [Option.elim_some] at hG4 hn02
    have hm4 := hG4.mach
    generalize hs1 : G1.s.ren N'.cb = s1 at *
    have hbp : b ≠ p5 := by have := blk_lt hG2.mach; omega
    simp
    refine W_no (by simp) ?_
    simp
    refine W_loop (fun env w' => Kept (· = b) w4 w' ∧ ∃ i : Nat, env = [.pointer (some ⟨b, 0, none⟩), undef, undef, undef, undef, .pointer (some ⟨p5, 0, none⟩), undef, .int .i64 i] ∧ 1 ≤ i ∧ i ≤ 6 ∧ IsMach w' b k (clr5 s1 i) ∧ w'.heap[p5]? = some (.cells (v.ren N'.cb).arr 68 (0, 0)))
      (fun env _ => 6 - natAt env 7) ?_ ?_
    · exact ⟨Kept.refl _ _, 1, by simp, by omega, by omega, by rw [clr5_one]; exact hm4, g5⟩
    · rintro env w5 ⟨hk5, i, rfl, h1', h2', hm5, h55⟩
      by_cases hi : i ≤ 5
      · simp
        refine W_yes (by simp; omega) ?_
        simp
        refine W_store (by simp [show (i : Int) < 11 by omega]) (by simp) (mach_streg hm5 i (by omega) RVal.zero) (stab_nil _ _ _) ?_
        simp
        have e2 : IntKind.i64.wrap ((i : Int) + 1) = ((i + 1 : Nat) : Int) := i64w (by omega) (by omega)
        refine ⟨⟨hk5.put (fun _ => rfl) _, i + 1, by simp [e2], by omega, by omega, ?_, (put_other (Ne.symm hbp)).trans h55⟩, by simp [natAt, e2]; omega⟩
        rw [clr5_step s1 i h1']
        exact mach_put hm5 _
      · have : i = 6 := by omega
        subst this
        simp
        refine W_no (by simp) ?_
        have hm6 : IsMach w5.drew b k (clr5 s1 6) := hm5
        have h56 : w5.drew.heap[p5]? = _ := h55
        have hk6 : Kept (· = b) w4 w5.drew := hk5.drew
        simp
        generalize w5.drew = w6 at hm6 h56 hk6 ⊢
        refine W_store (by simp) (by simp [rval_row h56]) (mach_streg hm6 0 (by omega) (v.ren N'.cb)) (stab_nil _ _ _) ?_
        have hm7 := mach_put hm6 { clr5 s1 6 with r := fset (clr5 s1 6).r 0 (v.ren N'.cb) }
        have hk7 := hk6.put (S := (· = b)) (b := b) (fun _ => rfl) (.cells (({ clr5 s1 6 with r := fset (clr5 s1 6).r 0 (v.ren N'.cb) } : VSt).cells k) 71 (0, 0))
        generalize put w6 b _ = w7 at hm7 hk7 ⊢
        simp
        refine W_store (by simp) (by simp [mach_pos hm7]; rfl) (mach_stpos hm7 _) (stab_nil _ _ _) ?_
        simp
        have hm8 := mach_put hm7 { clr5 s1 6 with r := fset (clr5 s1 6).r 0 (v.ren N'.cb), pos := IntKind.i64.wrap ((clr5 s1 6).pos + 1) }
        have hk8 := hk7.put (S := (· = b)) (b := b) (fun _ => rfl) (.cells (({ clr5 s1 6 with r := fset (clr5 s1 6).r 0 (v.ren N'.cb), pos := IntKind.i64.wrap ((clr5 s1 6).pos + 1) } : VSt).cells k) 71 (0, 0))
        generalize put w7 b _ = w8 at hm8 hk8 ⊢
        have hcal : ({ clr5 s1 6 with r := fset (clr5 s1 6).r 0 (v.ren N'.cb), pos := IntKind.i64.wrap ((clr5 s1 6).pos + 1) } : VSt) = (calledOf G1.s v).ren N'.cb := by
          rw [← called_ren, hs1]
          rfl
        rw [hcal] at hm8
        have hG8 := hG4.mach' (s' := calledOf G1.s v) hk8 hm8
        exact ⟨rfl, N', hG8, hn02, (hk02.trans (hk4.mono fun _ _ h => h.elim)).trans (hk8.mono fun j _ hj => .inl hj)⟩
end
end Go.Proofs.YtmfgdbapankamaaGreat
namespace Go.Proofs.YtmfgdbapankamaaGreat
open Go.Eng
section
variable {w : World} {b : Nat} {k : VK} {N : Names} {mv : Value} {G : GSt}
theorem row_cell' {w : World} {q off n : Nat} {v : Array Value} (h : wrow w q off n = some v) (j : Nat) (hj : j < n) : wcell w q (off + j) = v[j]? := row_cell h j hj
def wideN (a b : Int) : Int := bitOr IntKind.u64 (IntKind.u64.wrap (IntKind.u32.wrap a)) (IntKind.u64.wrap (IntKind.u64.wrap (IntKind.u32.wrap b) * 2 ^ min 32 IntKind.u64.bits))
theorem wideN_ok (a b : Int) : 0 ≤ wideN a b := by
  have hw : ∀ z, 0 ≤ IntKind.u64.wrap z := fun z => by rw [IntKind.wrap_u64]; omega
  exact hw _
def gwideV (G : GSt) (x y : Ins) : Option RVal :=
  if x.src = 0 then some (num (wideN x.imm y.imm))
  else if x.src = 1 then (if 0 ≤ IntKind.i64.wrap x.imm ∧ IntKind.i64.wrap x.imm < G.ms.length then some ⟨4, 0, IntKind.i64.wrap x.imm, none⟩ else none)
  else none
def gwideOf (xs : List Ins) (G : GSt) (x : Ins) : Option GSt :=
  match xs[(G.s.pos + 1).toNat]? with
  | none => none
  | some y => if (partsOf y.op).kind = 10 then (match gwideV G x y with
    | none => none
    | some v => (setOf G.s x.dst v).map fun s => { G with s := { s with pos := IntKind.i64.wrap (s.pos + 1) } }) else none
theorem gwideV_ok {G : GSt} {x y : Ins} {v : RVal} (h : gwideV G x y = some v) : VOk G.cs v ∧ v.cell = none := by
  unfold gwideV at h
  split at h
  · cases h; exact ⟨vok_num _ (wideN_ok _ _), rfl⟩
  split at h
  · split at h
    · cases h; exact ⟨⟨by simp, fun h => by simp at h, fun _ => rfl, fun h => by simp at h⟩, rfl⟩
    · cases h
  · cases h
set_option maxHeartbeats 2000000 in
theorem gwide_ret (h : GAt w b k N mv G) (ok : GOk G) {S : Nat → Prop} {xs : List Ins} (hcode : Code w S k.l xs) (hop : ∀ y ∈ xs, y.op < 256) (h0 : 0 ≤ G.s.pos) (h1 : G.s.pos < xs.length) (x : Ins) (hd : x.dst < 11) :
    Ret Tryz.prog 42 [.pointer (some ⟨b, 0, none⟩), .agg x.arr] w (OutG b k N mv G w (gwideOf xs G x)) := by
  refine ret_of_W Tryz.func42 rfl ok_vm_machine_wide ?_
  obtain ⟨q, off, c, hl, hlen, hq, hcd⟩ := hcode
  have hp1 := i64w (n := G.s.pos + 1) (by omega) (by omega)
  simp only [c_vm_machine_wide, zero_val, W_seq]
  refine W_new' (v := .agg x.arr) (cs := x.arr) (by simp) rfl ?_
  have h3 := hp_new w (.cells x.arr 74)
  have hk1 : Kept none' w (w.alloc (.cells x.arr 74)).drew := ((Kept.refl _ _).alloc _).drew
  have h3' : (w.alloc (.cells x.arr 74)).drew.heap[w.heap.size]? = _ := h3
  have hb3 : w.heap.size ≤ w.heap.size := Nat.le_refl _
  simp only [W_set, W_seq]
  refine ok_intro (.bool false) (by simp) ?_
  simp only [W_seq, W_draw]
  generalize (w.alloc (.cells x.arr 74)).drew = w1 at *
  generalize hb3e : w.heap.size = b3 at *
  have hG1 := h.calm hk1
  have c82 := mach_pos hG1.mach
  have c0 := mach_l hG1.mach
  simp only [vren_pos] at c82
  rw [hl] at c0
  have hr : ∀ (i : Nat) (y : Ins), xs[i]? = some y → wrow w1 q (off + i * 5) 5 = some y.arr := fun i y hy => wrow_kept hk1 (fun h => h) (hcd i y hy)
  simp only [W_set]
  refine ok_intro (.int .i64 G.s.pos) (by simp [c82]) ?_
  try simp only [W_seq]
  refine W_chkIn [.int .i64 (G.s.pos + 1)] (by simp [hp1]) ?_
  try simp only [W_seq, W_set]
  refine ok_intro (.slice (some ⟨q, off, none⟩) xs.length c) (by simp [c0]) ?_
  try simp only [W_seq, W_set]
  refine ok_intro (.bool (decide ((xs.length : Int) ≤ G.s.pos + 1))) (by simp [hp1]) ?_
  try simp only [W_seq]
  by_cases hlt : G.s.pos + 1 < xs.length
  · have hnle : ¬ ((xs.length : Int) ≤ G.s.pos + 1) := by omega
    have hge1 : (0 : Int) ≤ G.s.pos + 1 := by omega
    have hlt2 : (G.s.pos + 1).toNat < xs.length := by omega
    obtain ⟨y, hy⟩ : ∃ y, xs[(G.s.pos + 1).toNat]? = some y := ⟨_, List.getElem?_eq_getElem hlt2⟩
    have hry := hr _ y hy
    have f0 := row_cell' hry 0 (by omega)
    have f4 := row_cell' hry 4 (by omega)
    rw [Nat.add_zero] at f0
    have hopy := hop y (List.mem_of_getElem? hy)
    refine W_chkIn [.pointer (some ⟨b, 0, none⟩)] (by simp [hnle]) ?_
    try simp only [W_seq]
    refine W_yes (by simp [hnle]) ?_
    simp only [W_set]
    refine ok_intro (.slice (some ⟨q, off, none⟩) xs.length c) (by simp [c0]) ?_
    try simp only [W_seq]
    refine W_chkIn [.pointer (some ⟨b, 82, none⟩)] (by simp [hnle]) ?_
    try simp only [W_seq]
    refine W_yes (by simp [hnle]) ?_
    simp only [W_set]
    refine ok_intro (.int .i64 G.s.pos) (by simp [c82]) ?_
    try simp only [W_seq]
    refine W_chkIn [.int .u8 y.op] (by simp [hnle, hp1, hge1, hlt, hlt2, f0]) ?_
    try simp only [W_seq]
    refine W_yes (by simp [hnle]) ?_
    refine W_calm (vs := [.int .u8 y.op]) (by simp [hnle, hp1, hge1, hlt, hlt2, f0]) (ret_of_T (Of_T w1 hopy)) fun w2 hk2 => ?_
    have hG2 := hG1.calm hk2
    by_cases hkd : (partsOf y.op).kind = 10
    · refine W_no (by simp [hnle, hkd]) ?_
      simp only [W_skip, W_seq, W_draw]
      have hk3 : Kept none' w1 w2.drew := hk2.drew
      have g3 := hk3.has h3' fun h => h
      have hG3 := hG1.calm hk3
      have e82 := wcell_kept hk3 (fun h => h) c82
      have e0 := wcell_kept hk3 (fun h => h) c0
      have e4 := wcell_kept hk3 (fun h => h) f4
      generalize w2.drew = w3 at *
      have x4 : wcell w3 b3 4 = some (.int .i32 x.imm) := by rw [wcell_of g3]; rfl
      refine W_chkIn [.int .u64 (IntKind.u64.wrap (IntKind.u32.wrap x.imm))] (by simp [x4]) ?_
      try simp only [W_seq, W_set]
      refine ok_intro (.slice (some ⟨q, off, none⟩) xs.length c) (by simp [e0]) ?_
      try simp only [W_seq, W_set]
      refine ok_intro (.int .i64 G.s.pos) (by simp [e82]) ?_
      try simp only [W_seq, W_set]
      refine ok_intro (.int .u64 (wideN x.imm y.imm)) (by simp [hp1, hge1, hlt, hlt2, e4, x4]; rfl) ?_
      have hb7 : w.heap.size ≤ w3.heap.size := by have := hk1.size; have := hk3.size; omega
      refine W_cut (fun env' w' => ∃ b7 u4 u5 u6 u8, b3 < b7 ∧ Kept none' w3 w' ∧ w'.heap[b7]? = some (.cells (num (wideN x.imm y.imm)).arr 68 (0, 0)) ∧
        env' = [.pointer (some ⟨b, 0, none⟩), .agg x.arr, .bool false, .pointer (some ⟨b3, 0, none⟩), u4, u5, u6, .pointer (some ⟨b7, 0, none⟩), u8, undef, undef, undef, undef, undef, .int .i64 G.s.pos, .slice (some ⟨q, off, none⟩) xs.length c, .slice (some ⟨q, off, none⟩) xs.length c, .int .i64 G.s.pos, .slice (some ⟨q, off, none⟩) xs.length c, .int .i64 G.s.pos]) ?_ ?_
      · have hb3lt := blk_lt g3
        rw [W_alt]
        refine ⟨?_, ?_⟩
        · simp only [W_seq]
          refine W_calm (vs := [.int .u64 (wideN x.imm y.imm)]) (by simp) (ret_of_T (number_T w3 (wideN x.imm y.imm))) fun w4 hk4 => ?_
          try simp only [W_seq]
          refine W_new' (v := .agg RVal.zero.arr) (cs := RVal.zero.arr) (by simp) rfl ?_
          have h7 := hp_new w4 (.cells RVal.zero.arr 68)
          have hk5 : Kept none' w3 (w4.alloc (.cells RVal.zero.arr 68)) := hk4.alloc _
          have hs4 := hk4.size
          generalize w4.alloc (.cells RVal.zero.arr 68) = w5 at *
          generalize w4.heap.size = b7 at *
          simp only [RVal.val]
          refine W_store (by simp) (by simp) (store_val (v := num (wideN x.imm y.imm)) h7) (stab_nil _ _ _) ?_
          rw [W_post]
          exact ⟨b7, _, _, _, _, by omega, hk5.putNew (by omega) _, put_same (blk_lt h7), rfl⟩
        · simp only [W_seq]
          refine W_new' (v := .agg RVal.zero.arr) (cs := RVal.zero.arr) (by simp) rfl ?_
          have h7 := hp_new w3 (.cells RVal.zero.arr 68)
          have hk5 : Kept none' w3 (w3.alloc (.cells RVal.zero.arr 68)) := (Kept.refl _ _).alloc _
          have hs4 : w3.heap.size ≤ w3.heap.size := Nat.le_refl _
          generalize w3.alloc (.cells RVal.zero.arr 68) = w5 at *
          generalize hb7e : w3.heap.size = b7 at *
          try simp only [W_seq]
          refine W_calm (vs := [.int .u64 (wideN x.imm y.imm)]) (by simp) (ret_of_T (number_T w5 (wideN x.imm y.imm))) fun w6 hk6 => ?_
          have h76 := hk6.has h7 fun h => h
          simp only [RVal.val]
          refine W_store (by simp) (by simp) (store_val (v := num (wideN x.imm y.imm)) h76) (stab_nil _ _ _) ?_
          rw [W_post]
          exact ⟨b7, _, _, _, _, by omega, (hk5.trans hk6).putNew (by omega) _, put_same (blk_lt h76), rfl⟩
      rintro env' w4 ⟨b7, u4, u5, u6, u8, hb37, hk4, g7, rfl⟩
      have hk14 := hk3.trans hk4
      have hG4 := hG1.calm hk14
      have g34 := hk4.has g3 fun h => h
      have x2 : wcell w4 b3 2 = some (.int .u8 x.src) := by rw [wcell_of g34]; rfl
      have x44 : wcell w4 b3 4 = some (.int .i32 x.imm) := by rw [wcell_of g34]; rfl
      have x1 : wcell w4 b3 1 = some (.int .u8 x.dst) := by rw [wcell_of g34]; rfl
      have hof : gwideOf xs G x = match gwideV G x y with
          | none => none
          | some v => (setOf G.s x.dst v).map fun s => { G with s := { s with pos := IntKind.i64.wrap (s.pos + 1) } } := by
        unfold gwideOf
        rw [hy]
        simp only
        rw [if_pos hkd]
      rw [hof]
      simp only [W_seq, W_set]
      refine ok_intro (.int .u8 x.src) (by simp [x2]) ?_
      try simp only [W_seq]
      have fault : OutG b k N mv G w none (.bool false) w4 := out_keep h (hk1.trans hk14)
      refine W_cut (fun env' w' => ∃ v u4 u5 u6 u8 u9 u10 u11 u12, gwideV G x y = some v ∧ Kept none' w w' ∧ w'.heap[b7]? = some (.cells v.arr 68 (0, 0)) ∧ w'.heap[b3]? = some (.cells x.arr 74 (0, 0)) ∧
        env' = [.pointer (some ⟨b, 0, none⟩), .agg x.arr, .bool false, .pointer (some ⟨b3, 0, none⟩), u4, u5, u6, .pointer (some ⟨b7, 0, none⟩), u8, u9, u10, u11, u12, undef, .int .i64 G.s.pos, .slice (some ⟨q, off, none⟩) xs.length c, .slice (some ⟨q, off, none⟩) xs.length c, .int .i64 G.s.pos, .slice (some ⟨q, off, none⟩) xs.length c, .int .i64 G.s.pos]) ?_ ?_
      · rw [W_block]
        simp only [W_seq, W_set]
        refine ok_intro (.bool (decide (x.src = 0))) (by simp) ?_
        unfold gwideV
        by_cases s0 : x.src = 0
        · refine W_yes (by simp [s0]) ?_
          simp only [W_skip, W_blk, W_post]
          rw [if_pos s0]
          exact ⟨_, _, _, _, _, _, _, _, _, rfl, hk1.trans hk14, g7, g34, rfl⟩
        rw [if_neg s0]
        refine W_no (by simp [s0]) ?_
        simp only [W_seq, W_set]
        refine ok_intro (.bool (decide (x.src = 1))) (by simp; omega) ?_
        by_cases s1 : x.src = 1
        · rw [if_pos s1]
          refine W_yes (by simp [s1]) ?_
          simp only [W_seq, W_draw]
          have hG5 := hG4.calm ((Kept.refl none' w4).drew)
          have g75 : w4.drew.heap[b7]? = _ := g7
          have x45 : wcell w4.drew b3 4 = _ := x44
          have hk5 : Kept none' w4 w4.drew := (Kept.refl _ _).drew
          generalize w4.drew = w5 at *
          have c37 := mach_bm hG5.mach
          refine W_call0 (vs := [.pointer (some ⟨k.bm, 0, none⟩), .int .i64 (IntKind.i64.wrap x.imm)]) (by simp [c37, x45]) (map_ret k.bm _ _ (IntKind.i64.wrap x.imm) w5 hG5.mem hG5.maps) ?_
          rintro v w6 ⟨rfl, rfl⟩
          by_cases hin : 0 ≤ IntKind.i64.wrap x.imm ∧ IntKind.i64.wrap x.imm < G.ms.length
          · rw [if_pos hin]
            have hlt3 : (IntKind.i64.wrap x.imm).toNat < G.ms.length := by omega
            obtain ⟨mb, M, hqm, _⟩ := hG5.placed.get (List.getElem?_eq_getElem hlt3)
            have hm := map_at hG5.placed hqm
            rw [Int.toNat_of_nonneg hin.1] at hm
            rw [hm]
            simp only [W_seq]
            refine W_no (by simp) ?_
            simp only [W_skip, W_seq]
            refine W_chkIn [.agg (⟨4, 0, IntKind.i64.wrap x.imm, none⟩ : RVal).arr] (by simp [x45, RVal.zero]) ?_
            refine W_store (vv := .agg (⟨4, 0, IntKind.i64.wrap x.imm, none⟩ : RVal).arr) (by simp) (by simp [x45, RVal.zero]) (store_val (v := ⟨4, 0, IntKind.i64.wrap x.imm, none⟩) g75) (stab_nil _ _ _) ?_
            simp only [W_blk, W_post]
            have g35 := hk5.has g34 fun h => h
            exact ⟨_, _, _, _, _, _, _, _, _, rfl, ((hk1.trans hk14).trans hk5).putNew (by omega) _, put_same (blk_lt g75), (put_other (by omega)).trans g35, rfl⟩
          · rw [if_neg hin]
            have hm : mapAt (N.mm.map (·.1)) (IntKind.i64.wrap x.imm) = none := by
              unfold mapAt
              split
              · rfl
              · rw [List.getElem?_eq_none]
                rw [List.length_map, hG5.placed.len]
                omega
            rw [hm]
            simp only [W_seq]
            refine W_yes (by simp) ?_
            simp
            exact out_keep h ((hk1.trans hk14).trans hk5)
        · rw [if_neg s1]
          refine W_no (by simp [s1]) ?_
          simp
          exact fault
      rintro env' w5 ⟨v, u4, u5, u6, u8, u9, u10, u11, u12, hv, hk05, g75, g35, rfl⟩
      rw [hv]
      obtain ⟨hvo, hvc⟩ := gwideV_ok hv
      have hG5 := h.calm hk05
      have x15 : wcell w5 b3 1 = some (.int .u8 x.dst) := by rw [wcell_of g35]; rfl
      have hvr : v.ren N.cb = v := by
        obtain ⟨t, n, s, c⟩ := v
        simp at hvc
        subst hvc
        rfl
      simp only [W_seq]
      refine W_call0 (vs := [.pointer (some ⟨b, 0, none⟩), .int .u8 x.dst, .agg v.arr]) (by simp [x15, rval_row g75]) (set_ret b k (G.s.ren N.cb) x.dst v w5 hG5.mach hd) ?_
      rintro r w6 ⟨hk6, rfl, hm6⟩
      have hso := setOf_ren N.cb G.s x.dst v
      rw [hvr] at hso
      rw [hso] at hm6 ⊢
      try simp only
      cases hs : setOf G.s x.dst v with
      | none =>
        rw [hs] at hm6
        simp
        refine W_yes (by simp) ?_
        simp
        exact ⟨rfl, N, hG5.mach' hk6 hm6, NExt.refl _ _ _, (hk05.mono fun _ _ h => h.elim).trans (hk6.mono fun j _ hj => .inl hj)⟩
      | some s' =>
        rw [hs] at hm6
        have hm6' : IsMach w6 b k (s'.ren N.cb) := hm6
        have hG6 := hG5.mach' (s' := s') hk6 hm6'
        simp
        refine W_no (by simp) ?_
        simp
        refine W_store (by simp) (by simp [mach_pos hm6']; rfl) (mach_stpos hm6' _) (stab_nil _ _ _) ?_
        have hm7 := mach_put hm6' { s'.ren N.cb with pos := IntKind.i64.wrap (s'.pos + 1) }
        have hk7 := (Kept.refl (· = b) w6).put (S := (· = b)) (b := b) (fun _ => rfl) (.cells (({ s'.ren N.cb with pos := IntKind.i64.wrap (s'.pos + 1) } : VSt).cells k) 71 (0, 0))
        generalize put w6 b _ = w7 at hm7 hk7 ⊢
        simp
        have hG7 := hG6.mach' (s' := { s' with pos := IntKind.i64.wrap (s'.pos + 1) }) hk7 hm7
        exact ⟨rfl, N, hG7, NExt.refl _ _ _, ((hk05.mono fun _ _ h => h.elim).trans (hk6.mono fun j _ hj => .inl hj)).trans (hk7.mono fun j _ hj => .inl hj)⟩
    · have hof : gwideOf xs G x = none := by
        unfold gwideOf
        rw [hy]
        simp only
        rw [if_neg hkd]
      rw [hof]
      refine W_yes (by simp [hnle, hkd]) ?_
      simp
      exact out_keep h (hk1.trans hk2)
  · have hle : (xs.length : Int) ≤ G.s.pos + 1 := by omega
    have hof : gwideOf xs G x = none := by
      unfold gwideOf
      rw [List.getElem?_eq_none (by omega)]
    rw [hof]
    refine W_chkIn [.bool false] (by simp [hle]) ?_
    try simp only [W_seq]
    refine W_no (by simp [hle]) ?_
    simp only [W_clr, List.foldl_cons, List.foldl_nil, W_seq]
    refine W_chkIn [.bool false] (by simp [hle]) ?_
    try simp only [W_seq]
    refine W_no (by simp [hle]) ?_
    simp only [W_clr, List.foldl_cons, List.foldl_nil, W_seq]
    refine W_chkIn [.bool false] (by simp [hle]) ?_
    refine W_no (by simp [hle]) ?_
    simp only [W_clr, List.foldl_cons, List.foldl_nil, W_seq]
    refine W_yes (by simp [hle]) ?_
    simp
    exact out_keep h hk1
end
end Go.Proofs.YtmfgdbapankamaaGreat
namespace Go.Proofs.YtmfgdbapankamaaGreat
open Go.Eng
noncomputable def gstep1 (xs : List Ins) (clock : Int) (us : List Int) (G : GSt) (x : Ins) (p : Parts) : Option GSt :=
  if p.kind = 1 then (aluOf G.s x p).map fun s => { G with s := s }
  else if p.kind = 2 then (jumpOf G.s x p).map fun s => { G with s := s }
  else if p.kind = 3 then some { G with s := jumpedOf G.s x true }
  else if p.kind = 4 then gcallOf G clock us x.imm
  else if p.kind = 5 then (if (G.s.r 0).tag = 1 then some { G with s := { G.s with done := true } } else none)
  else if p.kind = 6 then gloadStep G x p
  else if p.kind = 7 then gsaveStep G x p.size (secondOf G.s x p.reg)
  else if p.kind = 8 then gatomicStep G x p
  else if p.kind = 9 then gwideOf xs G x
  else none
noncomputable def gstep (xs : List Ins) (clock : Int) (us : List Int) (G : GSt) : Option GSt :=
  if G.s.pos < 0 then none else
  match xs[G.s.pos.toNat]? with
  | none => none
  | some x => if 11 ≤ x.dst ∨ 11 ≤ x.src then none else gstep1 xs clock us G x (partsOf x.op)
section
variable {w : World} {b : Nat} {k : VK} {N : Names} {mv : Value} {G : GSt}
set_option maxHeartbeats 4000000 in
theorem gstep_ret (h : GAt w b k N mv G) (ok : GOk G) (hclk : ∀ A ∈ G.ms, A.clock + 1 ≤ 1000000) {S : Nat → Prop} (hS : S b) {us : List Int} (hu : Luck w S k.random us) (hus : ∀ n ∈ us, 0 ≤ n) {xs : List Ins} (hc : Code w S k.l xs) (hok : ∀ y ∈ xs, y.op < 256) (hdn : G.s.done = false) :
    Ret Tryz.prog 17 [.pointer (some ⟨b, 0, none⟩)] w (OutG b k N mv G w (gstep xs k.clock us G)) := by
  refine ret_of_W Tryz.func17 rfl ok_vm_machine_step ?_
  have hm := h.mach
  have hb := blk_lt hm
  have hc' := hc
  obtain ⟨q, off, c, hl, hlen, hq, hcode⟩ := hc
  have e0 := mach_l hm
  rw [hl] at e0
  have e1 := mach_pos hm
  simp only [vren_pos] at e1
  have fin : ∀ {w1 : World}, Kept none' w w1 → OutG b k N mv G w none (.bool false) w1 := fun hk => out_keep h hk
  unfold gstep
  have hz5 : (Value.agg #[.int .i64 0, .int .i64 0, .int .i64 0, .bool false, .bool false]) = .agg Parts.zero.arr := rfl
  have hzi : (Value.agg #[.int .u8 0, .int .u8 0, .int .u8 0, .int .i16 0, .int .i32 0]) = .agg (Ins.mk 0 0 0 0 0).arr := rfl
  simp only [c_vm_machine_step, zero_val, hz5, hzi]
  rw [W_assoc, W_assoc, W_assoc, W_assoc, W_seq]
  by_cases hlo : G.s.pos < 0
  · rw [if_pos hlo]
    refine W_segX [.any, .v (.bool false), .any, .any, .any, .any, .any, .any, .any, .any, .any, .any, .any, .any, .any, .any, .any, .any, .any, .any, .any, .any, .any, .any, .any, .any, .any, .any, .any, .any] (by simp [hb]) (by simp [slsOk, Sl.ok]) (fun B hB => ?_) ?_
    · have f0 : ∀ l, wcell (ownW B l) b 0 = _ := fun l => own_ext hB e0
      have f1 : ∀ l, wcell (ownW B l) b 82 = _ := fun l => own_ext hB e1
      simp [C_cond_eq, f0, f1, hlo, slsIs, Sl.is]
    · intro w1 hk
      refine open_any fun _ => open_v ?_
      repeat' refine open_any fun _ => ?_
      refine open_nil ?_
      simp
      exact fin hk
  rw [if_neg hlo]
  have hlo' : 0 ≤ G.s.pos := by omega
  cases hx : xs[G.s.pos.toNat]? with
  | none =>
    have hge : (xs.length : Int) ≤ G.s.pos := by
      have := List.getElem?_eq_none_iff.1 hx
      omega
    refine W_segX [.any, .v (.bool false), .any, .any, .any, .any, .any, .any, .any, .any, .any, .any, .any, .any, .any, .any, .any, .any, .any, .any, .any, .any, .any, .any, .any, .any, .any, .any, .any, .any] (by simp [hb]) (by simp [slsOk, Sl.ok]) (fun B hB => ?_) ?_
    · have f0 : ∀ l, wcell (ownW B l) b 0 = _ := fun l => own_ext hB e0
      have f1 : ∀ l, wcell (ownW B l) b 82 = _ := fun l => own_ext hB e1
      simp [C_cond_eq, f0, f1, hlo, hge, slsIs, Sl.is]
    · intro w1 hk
      refine open_any fun _ => open_v ?_
      repeat' refine open_any fun _ => ?_
      refine open_nil ?_
      simp
      exact fin hk
  | some x =>
    have hlt : G.s.pos < xs.length := by
      have := (List.getElem?_eq_some_iff.1 hx).1
      omega
    have hxm := List.mem_of_getElem? hx
    have hr := hcode _ _ hx
    have hnge : ¬ (xs.length : Int) ≤ G.s.pos := by omega
    simp only
    by_cases hbad : 11 ≤ x.dst ∨ 11 ≤ x.src
    · rw [if_pos hbad]
      refine W_segX [.any, .v (.bool false), .any, .any, .any, .any, .any, .any, .any, .any, .any, .any, .any, .any, .any, .any, .any, .any, .any, .any, .any, .any, .any, .any, .any, .any, .any, .any, .any, .any] (by simp [hb]) (by simp [slsOk, Sl.ok]) (fun B hB => ?_) ?_
      · have f0 : ∀ l, wcell (ownW B l) b 0 = _ := fun l => own_ext hB e0
        have f1 : ∀ l, wcell (ownW B l) b 82 = _ := fun l => own_ext hB e1
        have f2 : ∀ l, wrow (ownW B l) q (off + G.s.pos.toNat * 5) 5 = _ := fun l => own_extR hB hr
        have hbad' : (decide ((11 : Int) ≤ x.dst) || decide ((11 : Int) ≤ x.src)) = true := by simp; omega
        simp [C_cond_eq, f0, f1, f2, hlo, hlo', hlt, hnge, hbad', slsIs, Sl.is]
      · intro w1 hk
        refine open_any fun _ => open_v ?_
        repeat' refine open_any fun _ => ?_
        refine open_nil ?_
        simp
        exact fin hk
    rw [if_neg hbad]
    have hd : x.dst < 11 := by omega
    have hsr : x.src < 11 := by omega
    have hop := hok x hxm
    have tO := Of_T w hop
    generalize partsOf x.op = p at *
    simp only [Parts.val] at tO
    refine W_seg [.v (.pointer (some ⟨b, 0, none⟩)), .v (.bool false), .p 74 x.arr, .any, .any, .p 103 p.arr, .any, .any, .any, .any, .any, .any, .any, .any, .any, .any, .any, .any, .any, .any, .any, .any, .any, .any, .any, .any, .any, .any, .any, .any] (by simp [hb]) (by simp [slsOk, Sl.ok, hb]) (fun B hB => ?_) fun w1 hk =>
      open_v (open_v (open_p fun p2 _ h2 => open_any fun _ => open_any fun _ => open_p fun p5 _ h5 => ?_))
    · have f0 : ∀ l, wcell (ownW B l) b 0 = _ := fun l => own_ext hB e0
      have f1 : ∀ l, wcell (ownW B l) b 82 = _ := fun l => own_ext hB e1
      have f2 : ∀ l, wrow (ownW B l) q (off + G.s.pos.toNat * 5) 5 = _ := fun l => own_extR hB hr
      have hbad' : (decide ((11 : Int) ≤ x.dst) || decide ((11 : Int) ≤ x.src)) = false := by simp; omega
      simp [C_cond_eq, f0, f1, f2, hlo, hlo', hlt, hnge, hbad', tO, slsIs, Sl.is]
    · repeat' refine open_any fun _ => ?_
      refine open_nil ?_
      have h1 := h.calm hk
      have hm1 := h1.mach
      have hkS : Kept S w w1 := hk.mono fun _ _ h => h.elim
      have hu1 := hu.keep hkS
      have hc1 := hc'.keep hkS
      have r2 : wrow w1 p2 0 5 = some x.arr := by rw [wrow_of h2 (by simp)]; simp
      have r5 : wrow w1 p5 0 5 = some p.arr := by rw [wrow_of h5 (by simp)]; simp
      have c5 : wcell w1 p5 0 = some (.int .i64 p.kind) := by rw [wcell_of h5]; rfl
      unfold gstep1
      have cs1 := galu_ret b k (G.s.ren N.cb) x p w1 hm1 hd hsr (ok.se h1)
      rw [alu_ren] at cs1
      have cs2 := gjump_ret b k (G.s.ren N.cb) x p w1 hm1 hd hsr (ok.se h1)
      rw [jump_ren] at cs2
      by_cases k1 : p.kind = 1
      · rw [if_pos k1]
        simp [c5, k1]
        refine W_yes (by simp) ?_
        simp
        refine W_call0 (by simp [r2, r5]) cs1 ?_
        intro r w2 hr
        have h' := (h1.out hr).before hk
        obtain ⟨t, rfl⟩ := h'.bool
        simp
        exact h'
      rw [if_neg k1]
      simp [c5, k1]
      refine W_no (by simp) ?_
      by_cases k2 : p.kind = 2
      · rw [if_pos k2]
        simp [k2]
        refine W_yes (by simp) ?_
        simp
        refine W_call0 (by simp [r2, r5]) cs2 ?_
        intro r w2 hr
        have h' := (h1.out hr).before hk
        obtain ⟨t, rfl⟩ := h'.bool
        simp
        exact h'
      rw [if_neg k2]
      simp [k2]
      refine W_no (by simp) ?_
      by_cases k3 : p.kind = 3
      · rw [if_pos k3]
        have hkd : Kept none' w w1.drew := hk.drew
        have h2d := h1.calm ((Kept.refl none' w1).drew)
        have r22 : wrow w1.drew p2 0 5 = some x.arr := r2
        simp [k3]
        refine W_yes (by simp) ?_
        simp
        generalize w1.drew = w2 at hkd h2d r22 ⊢
        have c82 := mach_pos h2d.mach
        simp only [vren_pos] at c82
        refine W_call0 (by simp [r22, c82]) (ret_of_T (target_T w2 G.s.pos x)) ?_
        rintro r w3 ⟨rfl, hk3⟩
        have h3 := h2d.calm hk3
        simp
        refine W_store (by simp) (by simp; rfl) (mach_stpos h3.mach _) (stab_nil _ _ _) ?_
        have hm4 := mach_put h3.mach { G.s.ren N.cb with pos := targetOf G.s.pos x.off }
        have hk4 := (Kept.refl (· = b) w3).put (S := (· = b)) (b := b) (fun _ => rfl) (.cells (({ G.s.ren N.cb with pos := targetOf G.s.pos x.off } : VSt).cells k) 71 (0, 0))
        generalize put w3 b _ = w4 at hm4 hk4 ⊢
        simp
        exact ⟨rfl, N, h3.mach' (s' := jumpedOf G.s x true) hk4 hm4, NExt.refl _ _ _, ((hkd.trans hk3).mono fun _ _ h => h.elim).trans (hk4.mono fun j _ hj => .inl hj)⟩
      rw [if_neg k3]
      simp [k3]
      refine W_no (by simp) ?_
      by_cases k4 : p.kind = 4
      · rw [if_pos k4]
        simp [k4]
        refine W_yes (by simp) ?_
        simp
        refine W_call0 (by simp [r2, r5]) (gcall_ret h1 ok hclk hS hu1 hus x) ?_
        intro r w2 hr
        have h' := hr.before hk
        obtain ⟨t, rfl⟩ := h'.bool
        simp
        exact h'
      rw [if_neg k4]
      simp [k4]
      refine W_no (by simp) ?_
      by_cases k5 : p.kind = 5
      · rw [if_pos k5]
        simp [k5]
        refine W_yes (by simp) ?_
        have c38 := mach_tag0 hm1
        simp only [vren_r, ren_tag] at c38
        simp
        refine W_store (by simp) (by simp [c38]; rfl) (mach_stdone hm1 _) (stab_nil _ _ _) ?_
        have hm2 := mach_put hm1 { G.s.ren N.cb with done := decide ((G.s.r 0).tag = 1) }
        have hk2 := (Kept.refl (· = b) w1).put (S := (· = b)) (b := b) (fun _ => rfl) (.cells (({ G.s.ren N.cb with done := decide ((G.s.r 0).tag = 1) } : VSt).cells k) 71 (0, 0))
        generalize put w1 b _ = w2 at hm2 hk2 ⊢
        have h2 := h1.mach' (s' := { G.s with done := decide ((G.s.r 0).tag = 1) }) hk2 hm2
        have hk02 : Kept (fun j => j = b ∨ j = k.bm ∨ N.own G.cs.length j) w w2 := (hk.mono fun _ _ h => h.elim).trans (hk2.mono fun j _ hj => .inl hj)
        have cd := mach_done hm2
        simp only at cd
        simp [cd]
        by_cases ht : (G.s.r 0).tag = 1
        · rw [if_pos ht]
          simp only [ht, decide_true] at h2 ⊢
          exact ⟨rfl, N, h2, NExt.refl _ _ _, hk02⟩
        · rw [if_neg ht]
          have hsd : ({ G.s with done := decide ((G.s.r 0).tag = 1) } : VSt) = G.s := by
            cases hs : G.s
            simp_all
          rw [hsd] at h2
          simp only [ht, decide_false]
          exact ⟨rfl, N, h2, NExt.refl _ _ _, hk02⟩
      rw [if_neg k5]
      simp [k5]
      refine W_no (by simp) ?_
      by_cases k6 : p.kind = 6
      · rw [if_pos k6]
        simp [k6]
        refine W_yes (by simp) ?_
        simp
        refine W_call0 (by simp [r2, r5]) (gvload_ret h1 ok x p hd hsr) ?_
        intro r w2 hr
        have h' := hr.before hk
        obtain ⟨t, rfl⟩ := h'.bool
        simp
        exact h'
      rw [if_neg k6]
      simp [k6]
      refine W_no (by simp) ?_
      by_cases k7 : p.kind = 7
      · rw [if_pos k7]
        have hkd : Kept none' w w1.drew := hk.drew
        have h2d := h1.calm ((Kept.refl none' w1).drew)
        have r22 : wrow w1.drew p2 0 5 = some x.arr := r2
        have d2 : wcell w1.drew p5 2 = some (.int .i64 p.size) := by rw [wcell_drew, wcell_of h5]; rfl
        have d4 : wcell w1.drew p5 4 = some (.bool p.reg) := by rw [wcell_drew, wcell_of h5]; rfl
        simp [k7]
        refine W_yes (by simp) ?_
        simp only [W_seq, W_draw, W_chk, W_set]
        generalize w1.drew = w2 at hkd h2d r22 d2 d4 ⊢
        simp [r22, d2]
        have hsx := gsecond_T w2 b k (G.s.ren N.cb) h2d.mach x p.reg hsr (fun i => h2d.ext (ok.reg i))
        rw [second_ren] at hsx
        refine W_calm (by simp [r22, d4]) (ret_of_T hsx) fun w3 hk3 => ?_
        have h3 := h2d.calm hk3
        simp
        refine W_call0 (by simp) (gvsave_ret h3 ok x p.size (ok.second x p.reg) hd) ?_
        intro r w4 hr
        have h' := hr.before (hkd.trans hk3)
        obtain ⟨t, rfl⟩ := h'.bool
        simp
        exact h'
      rw [if_neg k7]
      simp [k7]
      refine W_no (by simp) ?_
      by_cases k8 : p.kind = 8
      · rw [if_pos k8]
        simp [k8]
        refine W_yes (by simp) ?_
        simp
        refine W_call0 (by simp [r2, r5]) (gatomic_ret h1 ok x p hd hsr) ?_
        intro r w2 hr
        have h' := hr.before hk
        obtain ⟨t, rfl⟩ := h'.bool
        simp
        exact h'
      rw [if_neg k8]
      simp [k8]
      refine W_no (by simp) ?_
      by_cases k9 : p.kind = 9
      · rw [if_pos k9]
        simp [k9]
        refine W_yes (by simp) ?_
        simp
        refine W_call0 (by simp [r2]) (gwide_ret h1 ok hc1 hok hlo' hlt x hd) ?_
        intro r w2 hr
        have h' := hr.before hk
        obtain ⟨t, rfl⟩ := h'.bool
        simp
        exact h'
      rw [if_neg k9]
      simp [k9]
      refine W_no (by simp) ?_
      simp
      exact fin hk
end
end Go.Proofs.YtmfgdbapankamaaGreat
namespace Go.Proofs.YtmfgdbapankamaaGreat
open Go.Eng
def GCode (w : World) (S : Nat → Prop) (v : Value) (xs : List Ins) : Prop := Code w S v xs ∨ xs = [] ∧ ∃ c, v = .slice none 0 c
theorem GCode.keep {S : Nat → Prop} {w w' : World} {v : Value} {xs : List Ins} (h : GCode w S v xs) (hk : Kept S w w') : GCode w' S v xs := h.imp (·.keep hk) id
section
variable {w : World} {b : Nat} {k : VK} {N : Names} {mv : Value} {G : GSt}
set_option maxHeartbeats 4000000 in
theorem gstep_ret' (h : GAt w b k N mv G) (ok : GOk G) (hclk : ∀ A ∈ G.ms, A.clock + 1 ≤ 1000000) {S : Nat → Prop} (hS : S b) {us : List Int} (hu : Luck w S k.random us) (hus : ∀ n ∈ us, 0 ≤ n) {xs : List Ins} (hc : GCode w S k.l xs) (hok : ∀ y ∈ xs, y.op < 256) (hdn : G.s.done = false) :
    Ret Tryz.prog 17 [.pointer (some ⟨b, 0, none⟩)] w (OutG b k N mv G w (gstep xs k.clock us G)) := by
  rcases hc with hc | ⟨rfl, c, hl⟩
  · exact gstep_ret h ok hclk hS hu hus hc hok hdn
  refine ret_of_W Tryz.func17 rfl ok_vm_machine_step ?_
  have hm := h.mach
  have hb := blk_lt hm
  have e0 := mach_l hm
  rw [hl] at e0
  have e1 := mach_pos hm
  simp only [vren_pos] at e1
  have hg : gstep [] k.clock us G = none := by
    unfold gstep
    split
    · rfl
    · rfl
  rw [hg]
  have fin : ∀ {w1 : World}, Kept none' w w1 → OutG b k N mv G w none (.bool false) w1 := fun hk => out_keep h hk
  have hz5 : (Value.agg #[.int .i64 0, .int .i64 0, .int .i64 0, .bool false, .bool false]) = .agg Parts.zero.arr := rfl
  have hzi : (Value.agg #[.int .u8 0, .int .u8 0, .int .u8 0, .int .i16 0, .int .i32 0]) = .agg (Ins.mk 0 0 0 0 0).arr := rfl
  simp only [c_vm_machine_step, zero_val, hz5, hzi]
  rw [W_assoc, W_assoc, W_assoc, W_assoc, W_seq]
  refine W_segX [.any, .v (.bool false), .any, .any, .any, .any, .any, .any, .any, .any, .any, .any, .any, .any, .any, .any, .any, .any, .any, .any, .any, .any, .any, .any, .any, .any, .any, .any, .any, .any] (by simp [hb]) (by simp [slsOk, Sl.ok]) (fun B hB => ?_) ?_
  · have f0 : ∀ l, wcell (ownW B l) b 0 = _ := fun l => own_ext hB e0
    have f1 : ∀ l, wcell (ownW B l) b 82 = _ := fun l => own_ext hB e1
    by_cases hlo : G.s.pos < 0
    · simp [C_cond_eq, f0, f1, hlo, slsIs, Sl.is]
    · have hge : (0 : Int) ≤ G.s.pos := by omega
      simp [C_cond_eq, f0, f1, hlo, hge, slsIs, Sl.is]
  · intro w1 hk
    refine open_any fun _ => open_v ?_
    repeat' refine open_any fun _ => ?_
    refine open_nil ?_
    simp
    exact fin hk
end
end Go.Proofs.YtmfgdbapankamaaGreat
