/- Layer 20: steps of a machine, part 3: luck, helpers without maps, calls, wide ones. -/
import Derived.Test.YtmfgdbapankamaaGreatGr16
set_option linter.unusedSimpArgs false
set_option linter.unusedVariables false
set_option maxRecDepth 8000
namespace Go.Proofs.YtmfgdbapankamaaGreat
open Go.Eng
def Luck (w : World) (S : Nat → Prop) (v : Value) (us : List Int) : Prop :=
  ∃ a c, v = .slice a us.length c ∧ us.length < 4611686018427387904 ∧ (us = [] ∨ ∃ q off, a = some ⟨q, off, none⟩ ∧ ¬ S q ∧ ∀ i x, us[i]? = some x → wcell w q (off + i) = some (.int .u64 x))
theorem Luck.keep {S : Nat → Prop} {w w' : World} {v : Value} {us : List Int} (h : Luck w S v us) (hk : Kept S w w') : Luck w' S v us := by
  obtain ⟨a, c, rfl, hl, h⟩ := h
  refine ⟨a, c, rfl, hl, h.imp id ?_⟩
  rintro ⟨q, off, rfl, hq, h⟩
  exact ⟨q, off, rfl, hq, fun i x hi => wcell_kept hk hq (h i x hi)⟩
def luckyOf (s : VSt) (us : List Int) : VSt × RVal :=
  match us[s.luck.toNat]? with
  | some n => ({ s with luck := IntKind.i64.wrap (s.luck + 1) }, num n)
  | none => (s, num 0)
theorem lucky_ret (b : Nat) (k : VK) (s : VSt) (S : Nat → Prop) (us : List Int) (w : World) (hm : IsMach w b k s) (hS : S b) (hu : Luck w S k.random us) (h0 : 0 ≤ s.luck) :
    Ret Tryz.prog 73 [.pointer (some ⟨b, 0, none⟩)] w
      fun r w' => Kept (· = b) w w' ∧ r = .agg (luckyOf s us).2.arr ∧ IsMach w' b k (luckyOf s us).1 := by
  refine ret_of_W Tryz.func73 rfl ok_vm_machine_lucky ?_
  have hb := blk_lt hm
  simp only [c_vm_machine_lucky, zero_val]
  have h1 := hp_new w (.cells RVal.zero.arr 68)
  have hm0 : IsMach (w.alloc (.cells RVal.zero.arr 68)).drew b k s := hp_old hm _
  have hk0 : Kept none' w (w.alloc (.cells RVal.zero.arr 68)).drew := ((Kept.refl _ _).alloc _).drew
  have h1' : (w.alloc (.cells RVal.zero.arr 68)).drew.heap[w.heap.size]? = _ := h1
  simp
  generalize (w.alloc (.cells RVal.zero.arr 68)).drew = w1 at h1' hm0 hk0 ⊢
  have hu1 : Luck w1 S k.random us := hu.keep (hk0.mono fun _ _ h => h.elim)
  obtain ⟨a, c, hr, hl, hcase⟩ := hu1
  have er := mach_random hm0
  rw [hr] at er
  have hne : w.heap.size ≠ b := by omega
  by_cases hlt : (us.length : Int) ≤ s.luck
  · have hnone : us[s.luck.toNat]? = none := by simp; omega
    refine W_yes (by simp [mach_luck hm0, er, hlt]) ?_
    simp
    refine W_call0 (by simp) (ret_of_T (number_T w1 0)) ?_
    rintro r w2 ⟨rfl, hk2⟩
    have h2 := hk2.has h1' (fun h => h)
    simp only [RVal.val]
    refine W_store (by simp) (by simp) (store_val (v := num 0) h2) (stab_nil _ _ _) ?_
    have hm2 : IsMach w2 b k s := mach_keep hm0 hk2 (fun h => h)
    simp [rval_row (put_same (o := .cells (num 0).arr 68) (blk_lt h2))]
    have hk3 : Kept (· = b) w w2 := (hk0.trans hk2).mono fun _ _ h => h.elim
    unfold luckyOf
    rw [hnone]
    exact ⟨hk3.put (fun h => absurd h (by omega)) _, rfl, (put_other (Ne.symm hne)).trans hm2⟩
  · have hs : s.luck.toNat < us.length := by omega
    have hsome : us[s.luck.toNat]? = some us[s.luck.toNat] := by simp [hs]
    generalize us[s.luck.toNat] = n at hsome
    have hi : IntKind.i64.wrap (s.luck + 1) = s.luck + 1 := i64w (by omega) (by omega)
    have hi2 : IntKind.i64.wrap s.luck = s.luck := i64w (by omega) (by omega)
    rcases hcase with rfl | ⟨q, off, rfl, hq, hc⟩
    · simp at hs
    have hqb : q ≠ b := fun h => hq (h ▸ hS)
    have hcell := hc _ _ hsome
    refine W_no (by simp [mach_luck hm0, er]; omega) ?_
    simp
    refine W_store (by simp) (by simp [mach_luck hm0]; rfl) (mach_stluck hm0 _) (stab_nil _ _ _) ?_
    have hm1 := mach_put hm0 { s with luck := IntKind.i64.wrap (s.luck + 1) }
    have h2 : (put w1 b (.cells (({ s with luck := IntKind.i64.wrap (s.luck + 1) } : VSt).cells k) 71 (0, 0))).drew.heap[w.heap.size]? = _ := (put_other hne).trans h1'
    have hcell2 : wcell (put w1 b (.cells (({ s with luck := IntKind.i64.wrap (s.luck + 1) } : VSt).cells k) 71 (0, 0))).drew q (off + s.luck.toNat) = some (.int .u64 n) := by
      unfold wcell at hcell ⊢
      rw [drew_heap, put_other hqb]
      exact hcell
    have hk2 : Kept (· = b) w (put w1 b (.cells (({ s with luck := IntKind.i64.wrap (s.luck + 1) } : VSt).cells k) 71 (0, 0))).drew := ((hk0.mono fun _ _ h => h.elim).put (S := (· = b)) (b := b) (fun _ => rfl) _).drew
    have hm1' : IsMach (put w1 b (.cells (({ s with luck := IntKind.i64.wrap (s.luck + 1) } : VSt).cells k) 71 (0, 0))).drew b k { s with luck := IntKind.i64.wrap (s.luck + 1) } := hm1
    simp
    generalize (put w1 b (.cells (({ s with luck := IntKind.i64.wrap (s.luck + 1) } : VSt).cells k) 71 (0, 0))).drew = w3 at h2 hcell2 hk2 hm1' ⊢
    have er3 := mach_random hm1'
    rw [hr] at er3
    have el3 := mach_luck hm1'
    simp only [hi] at el3
    refine W_call0 (by simp [el3, er3, hi2, h0, show s.luck < us.length by omega, hcell2]) (ret_of_T (number_T w3 n)) ?_
    rintro r w4 ⟨rfl, hk4⟩
    have h4 := hk4.has h2 (fun h => h)
    have hm4 := mach_keep hm1' hk4 (fun h => h)
    simp only [RVal.val]
    refine W_store (by simp) (by simp) (store_val (v := num n) h4) (stab_nil _ _ _) ?_
    simp [rval_row (put_same (o := .cells (num n).arr 68) (blk_lt h4))]
    have hk5 : Kept (· = b) w w4 := hk2.trans (hk4.mono fun _ _ h => h.elim)
    unfold luckyOf
    rw [hsome]
    exact ⟨hk5.put (fun h => absurd h (by omega)) _, rfl, (put_other (Ne.symm hne)).trans hm4⟩
def NoMaps (m : RMem) : Prop := ∃ p c, m.maps = .slice p 0 c
theorem map_T (w0 : World) (b : Nat) (m : RMem) (slot : Int) (hm : IsMem w0 b m) (h : NoMaps m) : T Tryz.prog w0 65 [.pointer (some ⟨b, 0, none⟩), .int .i64 slot] = some (.pointer none) :=
  T_of (by kernel_rfl) Tryz.func65 rfl ok_region_Memory_Map (by simpa using blk_lt hm) (by simp) fun B hB => by
    obtain ⟨p, c, h⟩ := h
    have e : wcell w0 b 192 = some (.slice p 0 c) := by rw [wcell_of hm, mem_maps, h]
    have e1 : ∀ l, wcell (ownW B l) b 192 = some (.slice p 0 c) := fun l => own_ext hB e
    by_cases hs : slot < 0
    · simp [c_region_Memory_Map, C_cond_eq, e1, hs]
    · simp [c_region_Memory_Map, C_cond_eq, e1, hs, show (0 : Int) ≤ slot by omega]
theorem argMap_T (w0 : World) (b : Nat) (k : VK) (s : VSt) (m : RMem) (hm : IsMach w0 b k s) (hmm : IsMem w0 k.bm m) (h : NoMaps m) : T Tryz.prog w0 74 [.pointer (some ⟨b, 0, none⟩)] = some (.pointer none) :=
  T_of (by kernel_rfl) Tryz.func74 rfl ok_vm_machine_argMap (by simpa using blk_lt hm) (by simp) fun B hB => by
    have e1 : ∀ l, wcell (ownW B l) b 42 = _ := fun l => own_ext hB (mach_tag1 hm)
    have e2 : ∀ l, wcell (ownW B l) b 44 = _ := fun l => own_ext hB (mach_slot1 hm)
    have e3 : ∀ l, wcell (ownW B l) b 37 = _ := fun l => own_ext hB (mach_bm hm)
    have t := map_T w0 k.bm m (s.r 1).slot hmm h
    by_cases ht : (s.r 1).tag = 4 <;> simp [c_vm_machine_argMap, C_cond_eq, e1, e2, e3, ht, t]
def helpOf (s : VSt) (clock : Int) (us : List Int) (imm : Int) : Option (VSt × RVal) :=
  if imm = 5 then some (s, num clock) else if imm = 7 then some (luckyOf s us) else none
theorem help_ret (b : Nat) (k : VK) (s : VSt) (m : RMem) (S : Nat → Prop) (us : List Int) (imm : Int) (w : World) (hm : IsMach w b k s) (hmm : IsMem w k.bm m) (hno : NoMaps m) (hS : S b) (hu : Luck w S k.random us) (h0 : 0 ≤ s.luck) :
    Ret Tryz.prog 62 [.pointer (some ⟨b, 0, none⟩), .int .i32 imm] w
      fun r w' => Kept (· = b) w w' ∧ r = .tuple #[.agg ((helpOf s k.clock us imm).elim RVal.zero (·.2)).arr, .bool (helpOf s k.clock us imm).isSome] ∧ IsMach w' b k ((helpOf s k.clock us imm).elim s (·.1)) := by
  refine ret_of_W Tryz.func62 rfl ok_vm_machine_help ?_
  have hb := blk_lt hm
  simp only [c_vm_machine_help, zero_val]
  have h1 := hp_new w (.cells RVal.zero.arr 68)
  have hm0 : IsMach (w.alloc (.cells RVal.zero.arr 68)) b k s := hp_old hm _
  have hmm0 : IsMem (w.alloc (.cells RVal.zero.arr 68)) k.bm m := hp_old hmm _
  have hk0 : Kept none' w (w.alloc (.cells RVal.zero.arr 68)) := (Kept.refl _ _).alloc _
  have hne : w.heap.size ≠ b := by omega
  simp
  generalize w.alloc (.cells RVal.zero.arr 68) = w1 at h1 hm0 hmm0 hk0 ⊢
  have hu1 : Luck w1 S k.random us := hu.keep (hk0.mono fun _ _ h => h.elim)
  unfold helpOf
  by_cases h5 : imm = 5
  · subst h5
    refine W_yes (by simp) ?_
    simp
    refine W_call0 (by simp [mach_clock hm0]) (ret_of_T (number_T w1 k.clock)) ?_
    rintro r w2 ⟨rfl, hk2⟩
    have h2 := hk2.has h1 (fun h => h)
    have hm2 : IsMach w2 b k s := mach_keep hm0 hk2 (fun h => h)
    simp
    refine W_store (by simp) (by simp) (store_val (v := num k.clock) h2) (stab_nil _ _ _) ?_
    simp [rval_row (put_same (o := .cells (num k.clock).arr 68) (blk_lt h2))]
    have hk3 : Kept (· = b) w w2 := (hk0.trans hk2).mono fun _ _ h => h.elim
    exact ⟨hk3.put (fun h => absurd h (by omega)) _, (put_other (Ne.symm hne)).trans hm2⟩
  refine W_no (by simp [h5]) ?_
  simp [h5]
  by_cases h7 : imm = 7
  · subst h7
    refine W_yes (by simp) ?_
    simp
    refine W_call0 (by simp) (lucky_ret b k s S us w1 hm0 hS hu1 h0) ?_
    rintro r w2 ⟨hk2, rfl, hm2⟩
    have h2 := hk2.has h1 hne
    generalize luckyOf s us = o at *
    obtain ⟨s', v⟩ := o
    simp at hm2 ⊢
    refine W_store (by simp) (by simp) (store_val (v := v) h2) (stab_nil _ _ _) ?_
    simp [rval_row (put_same (o := .cells v.arr 68) (blk_lt h2))]
    have hk3 : Kept (· = b) w w2 := (hk0.mono fun _ _ h => h.elim).trans hk2
    exact ⟨hk3.put (fun h => absurd h (by omega)) _, (put_other (Ne.symm hne)).trans hm2⟩
  refine W_no (by simp [h7]) ?_
  simp [h7]
  refine W_call0 (by simp) (ret_of_T (argMap_T w1 b k s m hm0 hmm0 hno)) ?_
  rintro r w2 ⟨rfl, hk2⟩
  have h2 := hk2.has h1 (fun h => h)
  have hm2 : IsMach w2 b k s := mach_keep hm0 hk2 (fun h => h)
  simp
  refine W_yes (by simp) ?_
  simp
  refine W_store (by simp) (by simp) (store_val (v := RVal.zero) h2) (stab_nil _ _ _) ?_
  simp [rval_row (put_same (o := .cells RVal.zero.arr 68) (blk_lt h2))]
  have hk3 : Kept (· = b) w w2 := (hk0.trans hk2).mono fun _ _ h => h.elim
  exact ⟨hk3.put (fun h => absurd h (by omega)) _, (put_other (Ne.symm hne)).trans hm2⟩
def clr5 (s : VSt) (n : Nat) : VSt := { s with r := fun i => if 1 ≤ i ∧ i < n then RVal.zero else s.r i }
theorem clr5_one (s : VSt) : clr5 s 1 = s := by
  unfold clr5
  have : (fun i => if 1 ≤ i ∧ i < 1 then RVal.zero else s.r i) = s.r := by funext i; rw [if_neg (by omega)]
  rw [this]
theorem clr5_step (s : VSt) (n : Nat) (h : 1 ≤ n) : ({ clr5 s n with r := fset (clr5 s n).r n RVal.zero } : VSt) = clr5 s (n + 1) := by
  unfold clr5
  have : fset (fun i => if 1 ≤ i ∧ i < n then RVal.zero else s.r i) n RVal.zero = fun i => if 1 ≤ i ∧ i < n + 1 then RVal.zero else s.r i := by
    funext i
    unfold fset
    by_cases hi : i = n
    · rw [if_pos hi, if_pos (by omega)]
    · rw [if_neg hi]
      show (if 1 ≤ i ∧ i < n then RVal.zero else s.r i) = _
      by_cases hl : 1 ≤ i ∧ i < n
      · rw [if_pos hl, if_pos (by omega)]
      · rw [if_neg hl, if_neg (by omega)]
  simp only [this]
def calledOf (s : VSt) (v : RVal) : VSt := { clr5 s 6 with r := fset (clr5 s 6).r 0 v, pos := IntKind.i64.wrap (s.pos + 1) }
def callOf (s : VSt) (clock : Int) (us : List Int) (imm : Int) : Option VSt := (helpOf s clock us imm).map fun q => calledOf q.1 q.2
set_option maxHeartbeats 1000000 in
theorem call_ret (b : Nat) (k : VK) (s : VSt) (m : RMem) (S : Nat → Prop) (us : List Int) (x : Ins) (w : World) (hm : IsMach w b k s) (hmm : IsMem w k.bm m) (hno : NoMaps m) (hS : S b) (hu : Luck w S k.random us) (h0 : 0 ≤ s.luck) :
    Ret Tryz.prog 37 [.pointer (some ⟨b, 0, none⟩), .agg x.arr] w (OutS b k s w (callOf s k.clock us x.imm)) := by
  refine ret_of_W Tryz.func37 rfl ok_vm_machine_call ?_
  have hb := blk_lt hm
  simp only [c_vm_machine_call, zero_val]
  have h3 := hp_new w (.cells x.arr 74)
  have hm0 : IsMach (w.alloc (.cells x.arr 74)) b k s := hp_old hm _
  have hmm0 : IsMem (w.alloc (.cells x.arr 74)) k.bm m := hp_old hmm _
  have hk0 : Kept (· = b) w (w.alloc (.cells x.arr 74)) := (Kept.refl _ _).alloc _
  simp
  generalize w.alloc (.cells x.arr 74) = w1 at h3 hm0 hmm0 hk0 ⊢
  refine W_call0 (by simp [wcell_of h3]) (help_ret b k s m S us x.imm w1 hm0 hmm0 hno hS (hu.keep (hk0.mono fun i _ h => h ▸ hS)) h0) ?_
  rintro r w2 ⟨hk1, rfl, hm2⟩
  have hk2 := hk0.trans hk1
  unfold callOf
  generalize helpOf s k.clock us x.imm = o at *
  have h5 := hp_new w2 (.cells RVal.zero.arr 68)
  have hm3 : IsMach (w2.alloc (.cells RVal.zero.arr 68)) b k _ := hp_old hm2 _
  have hk3 : Kept (· = b) w (w2.alloc (.cells RVal.zero.arr 68)) := hk2.alloc _
  have hne : w2.heap.size ≠ b := by have := blk_lt hm2; omega
  have hge : w.heap.size ≤ w2.heap.size := hk2.size
  simp
  generalize w2.alloc (.cells RVal.zero.arr 68) = w3 at h5 hm3 hk3 ⊢
  generalize w2.heap.size = p5 at *
  cases o with
  | none =>
    simp at hm3 ⊢
    refine W_store (by simp) (by simp) (store_val (v := RVal.zero) h5) (stab_nil _ _ _) ?_
    simp
    refine W_yes (by simp) ?_
    simp
    exact ⟨hk3.put (fun h => absurd h (by omega)) _, rfl, (put_other (Ne.symm hne)).trans hm3⟩
  | some q =>
    obtain ⟨s1, v⟩ := q
    simp at hm3 ⊢
    refine W_store (by simp) (by simp) (store_val (v := v) h5) (stab_nil _ _ _) ?_
    have g5 := put_same (o := .cells v.arr 68) (blk_lt h5)
    have gm : IsMach (put w3 p5 (.cells v.arr 68)) b k s1 := (put_other (Ne.symm hne)).trans hm3
    have gk : Kept (· = b) w (put w3 p5 (.cells v.arr 68)) := hk3.put (fun h => absurd h (by omega)) _
    generalize put w3 p5 (.cells v.arr 68) = w4 at g5 gm gk ⊢
    simp
    refine W_no (by simp) ?_
    simp
    refine W_loop (fun env w' => Kept (· = b) w w' ∧ ∃ i : Nat, env = [.pointer (some ⟨b, 0, none⟩), undef, undef, undef, undef, .pointer (some ⟨p5, 0, none⟩), undef, .int .i64 i] ∧ 1 ≤ i ∧ i ≤ 6 ∧ IsMach w' b k (clr5 s1 i) ∧ w'.heap[p5]? = some (.cells v.arr 68 (0, 0)))
      (fun env _ => 6 - natAt env 7) ?_ ?_
    · exact ⟨gk, 1, by simp, by omega, by omega, by rw [clr5_one]; exact gm, g5⟩
    · rintro env w5 ⟨hk5, i, rfl, h1, h2, hm5, h55⟩
      by_cases hi : i ≤ 5
      · simp
        refine W_yes (by simp; omega) ?_
        simp
        refine W_store (by simp [show (i : Int) < 11 by omega]) (by simp) (mach_streg hm5 i (by omega) RVal.zero) (stab_nil _ _ _) ?_
        simp
        have e2 : IntKind.i64.wrap ((i : Int) + 1) = ((i + 1 : Nat) : Int) := i64w (by omega) (by omega)
        refine ⟨⟨hk5.put (fun _ => rfl) _, i + 1, by simp [e2], by omega, by omega, ?_, (put_other hne).trans h55⟩, by simp [natAt, e2]; omega⟩
        rw [clr5_step s1 i h1]
        exact mach_put hm5 _
      · have : i = 6 := by omega
        subst this
        simp
        refine W_no (by simp) ?_
        have hm6 : IsMach w5.drew b k (clr5 s1 6) := hm5
        have h56 : w5.drew.heap[p5]? = _ := h55
        have hk6 : Kept (· = b) w w5.drew := hk5.drew
        simp
        generalize w5.drew = w6 at hm6 h56 hk6 ⊢
        refine W_store (by simp) (by simp [rval_row h56]) (mach_streg hm6 0 (by omega) v) (stab_nil _ _ _) ?_
        have hm7 := mach_put hm6 { clr5 s1 6 with r := fset (clr5 s1 6).r 0 v }
        have hk7 := hk6.put (S := (· = b)) (b := b) (fun _ => rfl) (.cells (({ clr5 s1 6 with r := fset (clr5 s1 6).r 0 v } : VSt).cells k) 71 (0, 0))
        generalize put w6 b _ = w7 at hm7 hk7 ⊢
        simp
        refine W_store (by simp) (by simp [mach_pos hm7]; rfl) (mach_stpos hm7 _) (stab_nil _ _ _) ?_
        simp
        exact ⟨hk7.put (fun _ => rfl) _, rfl, mach_put hm7 _⟩
def Code (w : World) (S : Nat → Prop) (v : Value) (xs : List Ins) : Prop :=
  ∃ q off c, v = .slice (some ⟨q, off, none⟩) xs.length c ∧ xs.length < 4611686018427387904 ∧ ¬ S q ∧ ∀ i x, xs[i]? = some x → wrow w q (off + i * 5) 5 = some x.arr
theorem wrow_kept {S : Nat → Prop} {w w' : World} {b off n : Nat} {v : Array Value} (hk : Kept S w w') (hs : ¬ S b) (h : wrow w b off n = some v) : wrow w' b off n = some v := by
  unfold wrow at h ⊢
  cases hc : w.heap[b]? with
  | none => rw [hc] at h; cases h
  | some o => rw [hk.has hc hs]; rw [hc] at h; exact h
theorem Code.keep {S : Nat → Prop} {w w' : World} {v : Value} {xs : List Ins} (h : Code w S v xs) (hk : Kept S w w') : Code w' S v xs := by
  obtain ⟨q, off, c, rfl, hl, hq, h⟩ := h
  exact ⟨q, off, c, rfl, hl, hq, fun i x hi => wrow_kept hk hq (h i x hi)⟩
theorem row_cell {w : World} {q off n : Nat} {v : Array Value} (h : wrow w q off n = some v) (j : Nat) (hj : j < n) : wcell w q (off + j) = v[j]? := by
  unfold wrow at h
  unfold wcell
  cases hc : w.heap[q]? with
  | none => rw [hc] at h; cases h
  | some o =>
    rw [hc] at h
    cases o with
    | cells c T fz =>
      simp only [rowOf] at h
      split at h
      · simp at h; rw [← h]; simp [Array.getElem?_extract]; intro h2; omega
      · cases h
    | _ => cases h
set_option maxHeartbeats 4000000 in
theorem wide_none (b : Nat) (k : VK) (s : VSt) (m : RMem) (S : Nat → Prop) (xs : List Ins) (x : Ins) (w : World) (hm : IsMach w b k s) (hmm : IsMem w k.bm m) (hno : NoMaps m) (hc : Code w S k.l xs) (h0 : 0 ≤ s.pos) (h1 : s.pos < xs.length) (hx : x.src ≠ 0)
    (hop : ∀ y ∈ xs, y.op < 256) :
    T Tryz.prog w 42 [.pointer (some ⟨b, 0, none⟩), .agg x.arr] = some (.bool false) :=
  T_of (by kernel_rfl) Tryz.func42 rfl ok_vm_machine_wide (by simpa using blk_lt hm) (by simp) fun B hB => by
    obtain ⟨q, off, c, hl, hlen, hq, hcode⟩ := hc
    have e0 : ∀ l, wcell (ownW B l) b 0 = _ := fun l => own_ext hB (mach_l hm)
    rw [hl] at e0
    have e1 : ∀ l, wcell (ownW B l) b 82 = _ := fun l => own_ext hB (mach_pos hm)
    have e2 : ∀ l, wcell (ownW B l) b 37 = _ := fun l => own_ext hB (mach_bm hm)
    have e3 := i64w (n := s.pos + 1) (by omega) (by omega)
    have t := map_T w k.bm m (IntKind.i64.wrap x.imm) hmm hno
    simp only [c_vm_machine_wide, zero_val]
    by_cases hlt : s.pos + 1 < xs.length
    · obtain ⟨y, hy⟩ : ∃ y, xs[(s.pos + 1).toNat]? = some y := ⟨_, List.getElem?_eq_getElem (by omega)⟩
      have hr := hcode _ _ hy
      have f0 := row_cell hr 0 (by omega)
      have f4 := row_cell hr 4 (by omega)
      have g0 : ∀ l, wcell (ownW B l) q (off + (s.pos + 1).toNat * 5) = _ := fun l => own_ext hB f0
      have g4 : ∀ l, wcell (ownW B l) q (off + (s.pos + 1).toNat * 5 + 4) = _ := fun l => own_ext hB f4
      have u := Of_T w (hop y (List.mem_of_getElem? hy))
      simp only [Parts.val] at u
      have n1 : number_T w 0 = number_T w 0 := rfl
      by_cases hk : (partsOf y.op).kind = 10
      · have tn := number_T w
        by_cases hs1 : x.src = 1
        · simp [C_cond_eq, C_alt, e0, e1, e2, e3, h0, hlt, g0, g4, u, hk, tn, hs1, t, show (0 : Int) ≤ s.pos + 1 by omega, show ¬ (xs.length : Int) ≤ s.pos + 1 by omega]
        · simp [C_cond_eq, C_alt, e0, e1, e2, e3, h0, hlt, g0, g4, u, hk, tn, hs1, hx, ci_eq, t, show (0 : Int) ≤ s.pos + 1 by omega, show ¬ (xs.length : Int) ≤ s.pos + 1 by omega]
      · simp [C_cond_eq, C_alt, e0, e1, e2, e3, h0, hlt, g0, g4, u, hk, show (0 : Int) ≤ s.pos + 1 by omega, show ¬ (xs.length : Int) ≤ s.pos + 1 by omega]
    · simp [C_cond_eq, e0, e1, e3, show (xs.length : Int) ≤ s.pos + 1 by omega]
end Go.Proofs.YtmfgdbapankamaaGreat
namespace Go.Proofs.YtmfgdbapankamaaGreat
open Go.Eng
def vstep1 (clock : Int) (us : List Int) (s : VSt) (m : RMem) (x : Ins) (p : Parts) : Option (VSt × RMem) :=
  if p.kind = 1 then (aluOf s x p).map (·, m)
  else if p.kind = 2 then (jumpOf s x p).map (·, m)
  else if p.kind = 3 then some (jumpedOf s x true, m)
  else if p.kind = 4 then (callOf s clock us x.imm).map (·, m)
  else if p.kind = 5 then (if (s.r 0).tag = 1 then some ({ s with done := true }, m) else none)
  else if p.kind = 6 then (loadStep s m x p).map (·, m)
  else if p.kind = 7 then saveStep s m x p.size (secondOf s x p.reg)
  else if p.kind = 8 then atomicStep s m x p
  else none
def vstep (xs : List Ins) (clock : Int) (us : List Int) (s : VSt) (m : RMem) : Option (VSt × RMem) :=
  if s.pos < 0 then none else
  match xs[s.pos.toNat]? with
  | none => none
  | some x => if 11 ≤ x.dst ∨ 11 ≤ x.src then none else vstep1 clock us s m x (partsOf x.op)
def CodeOk (xs : List Ins) : Prop := ∀ x ∈ xs, x.op < 256 ∧ ((partsOf x.op).kind = 9 → x.src ≠ 0)
set_option maxHeartbeats 4000000 in
theorem step_ret (b : Nat) (k : VK) (s : VSt) (m : RMem) (S : Nat → Prop) (us : List Int) (xs : List Ins) (w : World) (hm : IsMach w b k s) (hmm : IsMem w k.bm m) (hbm : k.bm ≠ b) (hno : NoMaps m) (hS : S b)
    (hu : Luck w S k.random us) (hc : Code w S k.l xs) (hok : CodeOk xs) (ok : SOk s) (mk : MOk m) (h0 : 0 ≤ s.luck) (hdn : s.done = false) :
    Ret Tryz.prog 17 [.pointer (some ⟨b, 0, none⟩)] w (OutM b k s w (vstep xs k.clock us s m)) := by
  refine ret_of_W Tryz.func17 rfl ok_vm_machine_step ?_
  have hb := blk_lt hm
  have hc' := hc
  obtain ⟨q, off, c, hl, hlen, hq, hcode⟩ := hc
  have e0 := mach_l hm
  rw [hl] at e0
  have e1 := mach_pos hm
  have fin : ∀ {w1 : World}, Kept none' w w1 → OutM b k s w none (.bool false) w1 := fun hk => ⟨hk.mono fun _ _ h => h.elim, rfl, mach_keep hm hk (fun h => h), fun q hq => by cases hq⟩
  unfold vstep
  have hz5 : (Value.agg #[.int .i64 0, .int .i64 0, .int .i64 0, .bool false, .bool false]) = .agg Parts.zero.arr := rfl
  have hzi : (Value.agg #[.int .u8 0, .int .u8 0, .int .u8 0, .int .i16 0, .int .i32 0]) = .agg (Ins.mk 0 0 0 0 0).arr := rfl
  simp only [c_vm_machine_step, zero_val, hz5, hzi]
  rw [W_assoc, W_assoc, W_assoc, W_assoc, W_seq]
  by_cases hlo : s.pos < 0
  · rw [if_pos hlo]
    refine W_segX [.any, .v (.bool false), .any, .any, .any, .any, .any, .any, .any, .any, .any, .any, .any, .any, .any, .any, .any, .any, .any, .any, .any, .any, .any, .any, .any, .any, .any, .any, .any, .any] (by simp [hb]) (by simp [slsOk, Sl.ok]) (fun B hB => ?_) ?_
    · have f0 : ∀ l, wcell (ownW B l) b 0 = _ := fun l => own_ext hB e0
      have f1 : ∀ l, wcell (ownW B l) b 82 = _ := fun l => own_ext hB e1
      simp [C_cond_eq, f0, f1, hlo, slsIs, Sl.is]
    · intro w1 hk
      refine open_any fun _ => open_v ?_
      repeat' refine open_any fun _ => ?_
      refine open_nil ?_
      simp
      exact fin hk
  rw [if_neg hlo]
  have hlo' : 0 ≤ s.pos := by omega
  cases hx : xs[s.pos.toNat]? with
  | none =>
    have hge : (xs.length : Int) ≤ s.pos := by
      have := List.getElem?_eq_none_iff.1 hx
      omega
    refine W_segX [.any, .v (.bool false), .any, .any, .any, .any, .any, .any, .any, .any, .any, .any, .any, .any, .any, .any, .any, .any, .any, .any, .any, .any, .any, .any, .any, .any, .any, .any, .any, .any] (by simp [hb]) (by simp [slsOk, Sl.ok]) (fun B hB => ?_) ?_
    · have f0 : ∀ l, wcell (ownW B l) b 0 = _ := fun l => own_ext hB e0
      have f1 : ∀ l, wcell (ownW B l) b 82 = _ := fun l => own_ext hB e1
      simp [C_cond_eq, f0, f1, hlo, hge, slsIs, Sl.is]
    · intro w1 hk
      refine open_any fun _ => open_v ?_
      repeat' refine open_any fun _ => ?_
      refine open_nil ?_
      simp
      exact fin hk
  | some x =>
    have hlt : s.pos < xs.length := by
      have := (List.getElem?_eq_some_iff.1 hx).1
      omega
    have hxm := List.mem_of_getElem? hx
    have hr := hcode _ _ hx
    have hnge : ¬ (xs.length : Int) ≤ s.pos := by omega
    simp only
    by_cases hbad : 11 ≤ x.dst ∨ 11 ≤ x.src
    · rw [if_pos hbad]
      refine W_segX [.any, .v (.bool false), .any, .any, .any, .any, .any, .any, .any, .any, .any, .any, .any, .any, .any, .any, .any, .any, .any, .any, .any, .any, .any, .any, .any, .any, .any, .any, .any, .any] (by simp [hb]) (by simp [slsOk, Sl.ok]) (fun B hB => ?_) ?_
      · have f0 : ∀ l, wcell (ownW B l) b 0 = _ := fun l => own_ext hB e0
        have f1 : ∀ l, wcell (ownW B l) b 82 = _ := fun l => own_ext hB e1
        have f2 : ∀ l, wrow (ownW B l) q (off + s.pos.toNat * 5) 5 = _ := fun l => own_extR hB hr
        have hbad' : (decide ((11 : Int) ≤ x.dst) || decide ((11 : Int) ≤ x.src)) = true := by simp; omega
        simp [C_cond_eq, f0, f1, f2, hlo, hlo', hlt, hnge, hbad', slsIs, Sl.is]
      · intro w1 hk
        refine open_any fun _ => open_v ?_
        repeat' refine open_any fun _ => ?_
        refine open_nil ?_
        simp
        exact fin hk
    rw [if_neg hbad]
    have hd : x.dst < 11 := by omega
    have hsr : x.src < 11 := by omega
    have hop := (hok x hxm).1
    have hwide := (hok x hxm).2
    have tO := Of_T w hop
    generalize partsOf x.op = p at *
    simp only [Parts.val] at tO
    refine W_seg [.v (.pointer (some ⟨b, 0, none⟩)), .v (.bool false), .p 74 x.arr, .any, .any, .p 103 p.arr, .any, .any, .any, .any, .any, .any, .any, .any, .any, .any, .any, .any, .any, .any, .any, .any, .any, .any, .any, .any, .any, .any, .any, .any] (by simp [hb]) (by simp [slsOk, Sl.ok, hb]) (fun B hB => ?_) fun w1 hk =>
      open_v (open_v (open_p fun p2 _ h2 => open_any fun _ => open_any fun _ => open_p fun p5 _ h5 => ?_))
    · have f0 : ∀ l, wcell (ownW B l) b 0 = _ := fun l => own_ext hB e0
      have f1 : ∀ l, wcell (ownW B l) b 82 = _ := fun l => own_ext hB e1
      have f2 : ∀ l, wrow (ownW B l) q (off + s.pos.toNat * 5) 5 = _ := fun l => own_extR hB hr
      have hbad' : (decide ((11 : Int) ≤ x.dst) || decide ((11 : Int) ≤ x.src)) = false := by simp; omega
      simp [C_cond_eq, f0, f1, f2, hlo, hlo', hlt, hnge, hbad', tO, slsIs, Sl.is]
    · repeat' refine open_any fun _ => ?_
      refine open_nil ?_
      have hm1 : IsMach w1 b k s := mach_keep hm hk (fun h => h)
      have hmm1 : IsMem w1 k.bm m := hk.has hmm (fun h => h)
      have hkS : Kept S w w1 := hk.mono fun _ _ h => h.elim
      have hu1 := hu.keep hkS
      have hc1 := hc'.keep hkS
      have hkM : Kept (fun i => i = b ∨ i = k.bm) w w1 := hk.mono fun _ _ h => h.elim
      have r2 : wrow w1 p2 0 5 = some x.arr := by rw [wrow_of h2 (by simp)]; simp
      have r5 : wrow w1 p5 0 5 = some p.arr := by rw [wrow_of h5 (by simp)]; simp
      have c5 : wcell w1 p5 0 = some (.int .i64 p.kind) := by rw [wcell_of h5]; rfl
      have toM : ∀ {o : Option (VSt × RMem)} {r : Value} {w' : World}, OutM b k s w1 o r w' → OutM b k s w o r w' := fun h => ⟨hkM.trans h.1, h.2.1, h.2.2.1, h.2.2.2⟩
      unfold vstep1
      by_cases h1 : p.kind = 1
      · rw [if_pos h1]
        simp [c5, h1]
        refine W_yes (by simp) ?_
        simp
        refine W_call0 (by simp [r2, r5]) (alu_ret b k s x p w1 hm1 hd hsr ok) ?_
        intro r w2 hr
        have h' := toM (hr.toM hmm1 hbm)
        have hv := h'.2.1
        subst hv
        try simp only [Option.isSome_map] at h'
        simp
        exact h'
      rw [if_neg h1]
      simp [c5, h1]
      refine W_no (by simp) ?_
      by_cases h2' : p.kind = 2
      · rw [if_pos h2']
        simp [h2']
        refine W_yes (by simp) ?_
        simp
        refine W_call0 (by simp [r2, r5]) (jump_ret b k s x p w1 hm1 hd hsr ok) ?_
        intro r w2 hr
        have h' := toM (hr.toM hmm1 hbm)
        have hv := h'.2.1
        subst hv
        try simp only [Option.isSome_map] at h'
        simp
        exact h'
      rw [if_neg h2']
      simp [h2']
      refine W_no (by simp) ?_
      by_cases h3 : p.kind = 3
      · rw [if_pos h3]
        have hm2 : IsMach w1.drew b k s := hm1
        have hmm2 : IsMem w1.drew k.bm m := hmm1
        have hk2 : Kept (fun i => i = b ∨ i = k.bm) w w1.drew := hkM.drew
        have r22 : wrow w1.drew p2 0 5 = some x.arr := r2
        simp [h3]
        refine W_yes (by simp) ?_
        simp
        generalize w1.drew = w2 at hm2 hmm2 hk2 r22 ⊢
        refine W_call0 (by simp [r22, mach_pos hm2]) (ret_of_T (target_T w2 s.pos x)) ?_
        rintro r w3 ⟨rfl, hk3⟩
        have hm3 := mach_keep hm2 hk3 (fun h => h)
        have hmm3 : IsMem w3 k.bm m := hk3.has hmm2 (fun h => h)
        simp
        refine W_store (by simp) (by simp; rfl) (mach_stpos hm3 _) (stab_nil _ _ _) ?_
        simp
        exact ⟨(hk2.trans (hk3.mono fun _ _ h => h.elim)).put (fun _ => .inl rfl) _, rfl, mach_put hm3 _, fun q hq => by cases hq; exact (put_other hbm).trans hmm3⟩
      rw [if_neg h3]
      simp [h3]
      refine W_no (by simp) ?_
      by_cases h4 : p.kind = 4
      · rw [if_pos h4]
        simp [h4]
        refine W_yes (by simp) ?_
        simp
        refine W_call0 (by simp [r2, r5]) (call_ret b k s m S us x w1 hm1 hmm1 hno hS hu1 h0) ?_
        intro r w2 hr
        have h' := toM (hr.toM hmm1 hbm)
        have hv := h'.2.1
        subst hv
        try simp only [Option.isSome_map] at h'
        simp
        exact h'
      rw [if_neg h4]
      simp [h4]
      refine W_no (by simp) ?_
      by_cases h5' : p.kind = 5
      · rw [if_pos h5']
        simp [h5']
        refine W_yes (by simp) ?_
        simp
        refine W_store (by simp) (by simp [mach_tag0 hm1]; rfl) (mach_stdone hm1 _) (stab_nil _ _ _) ?_
        have hm2 := mach_put hm1 { s with done := decide ((s.r 0).tag = 1) }
        have hmm2 : IsMem (put w1 b (.cells (({ s with done := decide ((s.r 0).tag = 1) } : VSt).cells k) 71 (0, 0))) k.bm m := (put_other hbm).trans hmm1
        have hk2 := hkM.put (S := fun i => i = b ∨ i = k.bm) (b := b) (fun _ => .inl rfl) (.cells (({ s with done := decide ((s.r 0).tag = 1) } : VSt).cells k) 71 (0, 0))
        generalize put w1 b _ = w2 at hm2 hmm2 hk2 ⊢
        simp [mach_done hm2]
        by_cases ht : (s.r 0).tag = 1
        · rw [if_pos ht]
          simp only [ht, decide_true] at hm2 ⊢
          exact ⟨hk2, rfl, hm2, fun q hq => by cases hq; exact hmm2⟩
        · rw [if_neg ht]
          have : ({ s with done := decide ((s.r 0).tag = 1) } : VSt) = s := by cases s; simp_all
          rw [this] at hm2
          simp only [ht, decide_false]
          exact ⟨hk2, rfl, hm2, fun q hq => by cases hq⟩
      rw [if_neg h5']
      simp [h5']
      refine W_no (by simp) ?_
      by_cases h6 : p.kind = 6
      · rw [if_pos h6]
        simp [h6]
        refine W_yes (by simp) ?_
        simp
        refine W_call0 (by simp [r2, r5]) (vload_ret b k s m x p w1 hm1 hmm1 hd hsr ok mk) ?_
        intro r w2 hr
        have h' := toM (hr.toM hmm1 hbm)
        have hv := h'.2.1
        subst hv
        try simp only [Option.isSome_map] at h'
        simp
        exact h'
      rw [if_neg h6]
      simp [h6]
      refine W_no (by simp) ?_
      by_cases h7 : p.kind = 7
      · rw [if_pos h7]
        have hm2 : IsMach w1.drew b k s := hm1
        have hmm2 : IsMem w1.drew k.bm m := hmm1
        have hk2 : Kept (fun i => i = b ∨ i = k.bm) w w1.drew := hkM.drew
        have r22 : wrow w1.drew p2 0 5 = some x.arr := r2
        have c2 : wcell w1.drew p5 2 = some (.int .i64 p.size) := by rw [wcell_drew, wcell_of h5]; rfl
        have c4 : wcell w1.drew p5 4 = some (.bool p.reg) := by rw [wcell_drew, wcell_of h5]; rfl
        simp [h7]
        refine W_yes (by simp) ?_
        simp only [W_seq, W_draw, W_chk, W_set]
        generalize w1.drew = w2 at hm2 hmm2 hk2 r22 c2 c4 ⊢
        simp [r22, c2]
        refine W_calm (by simp [r22, c4]) (ret_of_T (second_T w2 b k s hm2 x p.reg hsr (fun i => (ok i).1))) fun w3 hk3 => ?_
        have hm3 : IsMach w3 b k s := mach_keep hm2 hk3 (fun h => h)
        have hmm3 : IsMem w3 k.bm m := hk3.has hmm2 (fun h => h)
        have hk4 : Kept (fun i => i = b ∨ i = k.bm) w w3 := hk2.trans (hk3.mono fun _ _ h => h.elim)
        simp
        refine W_call0 (by simp) (vsave_ret b k s m x p.size (secondOf s x p.reg) w3 hm3 hmm3 hbm hd ok (rok_second ok x p.reg)) ?_
        rintro r w4 ⟨g1, rfl, g3, g4⟩
        simp
        exact ⟨hk4.trans g1, rfl, g3, g4⟩
      rw [if_neg h7]
      simp [h7]
      refine W_no (by simp) ?_
      by_cases h8 : p.kind = 8
      · rw [if_pos h8]
        simp [h8]
        refine W_yes (by simp) ?_
        simp
        refine W_call0 (by simp [r2, r5]) (atomic_ret b k s m x p w1 hm1 hmm1 hbm hd hsr ok mk) ?_
        intro r w2 hr
        have h' := toM hr
        have hv := h'.2.1
        subst hv
        try simp only [Option.isSome_map] at h'
        simp
        exact h'
      rw [if_neg h8]
      simp [h8]
      refine W_no (by simp) ?_
      by_cases h9 : p.kind = 9
      · simp [h9]
        refine W_yes (by simp) ?_
        simp
        refine W_call0 (by simp [r2]) (ret_of_T (wide_none b k s m S xs x w1 hm1 hmm1 hno hc1 hlo' hlt (hwide h9) (fun y hy => (hok y hy).1))) ?_
        rintro r w2 ⟨rfl, hk2⟩
        simp
        exact fin (hk.trans hk2)
      simp [h9]
      refine W_no (by simp) ?_
      simp
      exact fin hk
end Go.Proofs.YtmfgdbapankamaaGreat
namespace Go.Proofs.YtmfgdbapankamaaGreat
open Go.Eng
def RE (n : Nat) (v : RVal) : Prop := Ext n (.pointer v.cell) ∧ 0 ≤ v.n
theorem re_num {k : Nat} {n : Int} (h : 0 ≤ n) : RE k (num n) := ⟨by simp [num], h⟩
theorem gplace_T (w0 : World) (v : RVal) (h : Ext w0.heap.size (.pointer v.cell)) : T Tryz.prog w0 70 [.agg v.arr] = some (.bool (placeOf v)) :=
  T_of (by kernel_rfl) Tryz.func70 rfl ok_vm_place (by simpa using rval_ext _ _ h) (by simp) fun B hB => by
    simp only [c_vm_place, zero_val]
    by_cases h2 : v.tag = 2
    · simp [placeOf, h2]
    · by_cases h3 : v.tag = 3
      · simp [placeOf, h3]
      · simp [placeOf, h2, h3]
theorem gfurther_T (w0 : World) (v : RVal) (y : Int) (h : Ext w0.heap.size (.pointer v.cell)) : T Tryz.prog w0 71 [.agg v.arr, .int .u64 y] = some (.agg (furth v y).arr) :=
  T_of (by kernel_rfl) Tryz.func71 rfl ok_vm_further (by simpa using rval_ext _ _ h) (by simpa using rval_ext _ (furth v y) h) fun B hB => by
    simp only [c_vm_further, zero_val]
    simp [furth]
theorem onPlace_ext (n op : Nat) (a b : RVal) (ha : Ext n (.pointer a.cell)) (hb : Ext n (.pointer b.cell)) : Ext n (.pointer (onPlaceOf op a b).1.cell) := by
  unfold onPlaceOf furth
  repeat' split
  all_goals first | exact ha | exact hb | simp [RVal.zero]
set_option maxHeartbeats 1000000 in
theorem gonPlace_T (w0 : World) (op : Nat) (a b : RVal) (ha : Ext w0.heap.size (.pointer a.cell)) (hb : Ext w0.heap.size (.pointer b.cell)) : T Tryz.prog w0 60 [.int .i64 op, .agg a.arr, .agg b.arr] = some (.tuple #[.agg (onPlaceOf op a b).1.arr, .bool (onPlaceOf op a b).2]) :=
  T_of (by kernel_rfl) Tryz.func60 rfl ok_vm_onPlace (by have := rval_ext w0.heap.size a ha; have := rval_ext w0.heap.size b hb; simp_all) (by have := rval_ext w0.heap.size _ (onPlace_ext _ op a b ha hb); simpa using this) fun B hB => by
    have p1 := gplace_T w0 a ha
    have p2 := gplace_T w0 b hb
    have f1 := gfurther_T w0 a b.n ha
    have f2 := gfurther_T w0 a (IntKind.u64.wrap (0 - b.n)) ha
    have f3 := gfurther_T w0 b a.n hb
    simp only [Int.zero_sub] at f2
    simp only [c_vm_onPlace, zero_val]
    unfold onPlaceOf
    by_cases h11 : op = 11
    · subst h11
      by_cases h0 : b.tag = 0 <;> simp [C_cond_eq, h0]
    by_cases h0 : op = 0
    · subst h0
      cases q1 : placeOf a <;> cases q2 : placeOf b <;> rw [q1] at p1 <;> rw [q2] at p2 <;> by_cases h1 : b.tag = 1 <;> by_cases h2 : a.tag = 1 <;> simp [C_cond_eq, p1, p2, f1, f2, f3, h1, h2]
    by_cases h1 : op = 1
    · subst h1
      cases q1 : placeOf a <;> rw [q1] at p1 <;> by_cases h1 : b.tag = 1 <;> simp [C_cond_eq, p1, f2, h1]
    simp [C_cond_eq, ci_eq, h11, h0, h1]
theorem gsecond_T (w0 : World) (b : Nat) (k : VK) (s : VSt) (hm : IsMach w0 b k s) (x : Ins) (reg : Bool) (hx : x.src < 11) (hc : ∀ i, Ext w0.heap.size (.pointer (s.r i).cell)) :
    T Tryz.prog w0 40 [.pointer (some ⟨b, 0, none⟩), .agg x.arr, .bool reg] = some (.agg (secondOf s x reg).arr) :=
  T_of (by kernel_rfl) Tryz.func40 rfl ok_vm_machine_second (by simpa using blk_lt hm) (by
      have : Ext w0.heap.size (.pointer (secondOf s x reg).cell) := by unfold secondOf; split; exact hc _; simp [num]
      simpa using rval_ext _ _ this) fun B hB => by
    have t1 := number_T w0 (IntKind.u64.wrap (IntKind.i64.wrap x.imm))
    have e1 : ∀ l, wrow (ownW B l) b (38 + x.src * 4) 4 = some (s.r x.src).arr := fun l => own_extR hB (mach_rrow hm x.src hx)
    simp only [RVal.val] at t1
    simp only [c_vm_machine_second, zero_val]
    have hx' : ((x.src : Int) < 11) := by omega
    cases reg
    · simp [C_cond_eq, t1, secondOf]
    · simp [C_cond_eq, e1, secondOf, hx']
end Go.Proofs.YtmfgdbapankamaaGreat
