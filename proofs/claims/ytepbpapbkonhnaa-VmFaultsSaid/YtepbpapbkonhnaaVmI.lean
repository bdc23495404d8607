/- Layer 20: a step. -/
import Derived.Test.YtepbpapbkonhnaaVmH
set_option linter.unusedSimpArgs false
set_option linter.unusedVariables false
set_option maxRecDepth 8000
namespace Go.Proofs.Ytepbpapbkonhnaa
open Go.Eng

def vstep1 (clock : Int) (us : List Int) (s : VSt) (m : RMem) (x : Ins) (p : Parts) : Option (VSt × RMem) :=
  if p.kind = 1 then (aluOf s x p).map (·, m)
  else if p.kind = 2 then (jumpOf s x p).map (·, m)
  else if p.kind = 3 then some (jumpedOf s x true, m)
  else if p.kind = 4 then (callOf s clock us x.imm).map (·, m)
  else if p.kind = 5 then (if (s.r 0).tag = 1 then some ({ s with done := true }, m) else none)
  else if p.kind = 6 then (loadStep s m x p).map (·, m)
  else if p.kind = 7 then saveStep s m x p.size (secondOf s x p.reg)
  else if p.kind = 8 then atomicStep s m x p
  else none
def vstep (xs : List Ins) (clock : Int) (us : List Int) (s : VSt) (m : RMem) : Option (VSt × RMem) :=
  if s.pos < 0 then none else
  match xs[s.pos.toNat]? with
  | none => none
  | some x => if 11 ≤ x.dst ∨ 11 ≤ x.src then none else vstep1 clock us s m x (partsOf x.op)

/-- Programs without wide numbers. -/
def CodeOk (xs : List Ins) : Prop := ∀ x ∈ xs, x.op < 256 ∧ ((partsOf x.op).kind = 9 → x.src ≠ 0)

set_option maxHeartbeats 4000000 in
theorem step_ret (b : Nat) (k : VK) (s : VSt) (m : RMem) (S : Nat → Prop) (us : List Int) (xs : List Ins) (w : World) (hm : IsMach w b k s) (hmm : IsMem w k.bm m) (hbm : k.bm ≠ b) (hno : NoMaps m) (hS : S b)
    (hu : Luck w S k.random us) (hc : Code w S k.l xs) (hok : CodeOk xs) (ok : SOk s) (mk : MOk m) (h0 : 0 ≤ s.luck) (hdn : s.done = false) :
    Ret Try.prog 43 [.pointer (some ⟨b, 0, none⟩)] w (OutM b k s w (vstep xs k.clock us s m)) := by
  refine ret_of_W Try.func43 rfl ok_vm_machine_step ?_
  have hb := blk_lt hm
  have hc' := hc
  obtain ⟨q, off, c, hl, hlen, hq, hcode⟩ := hc
  have e0 := mach_l hm
  rw [hl] at e0
  have e1 := mach_pos hm
  have fin : ∀ {w1 : World}, Kept none' w w1 → OutM b k s w none (.bool false) w1 := fun hk => ⟨hk.mono fun _ _ h => h.elim, rfl, mach_keep hm hk (fun h => h), fun q hq => by cases hq⟩
  unfold vstep
  have hz5 : (Value.agg #[.int .i64 0, .int .i64 0, .int .i64 0, .bool false, .bool false]) = .agg Parts.zero.arr := rfl
  have hzi : (Value.agg #[.int .u8 0, .int .u8 0, .int .u8 0, .int .i16 0, .int .i32 0]) = .agg (Ins.mk 0 0 0 0 0).arr := rfl
  simp only [c_vm_machine_step, zero_val, hz5, hzi]
  rw [W_assoc, W_assoc, W_assoc, W_assoc, W_seq]
  by_cases hlo : s.pos < 0
  · rw [if_pos hlo]
    refine W_segX [.any, .v (.bool false), .any, .any, .any, .any, .any, .any, .any, .any, .any, .any, .any, .any, .any, .any, .any, .any, .any, .any, .any, .any, .any, .any, .any, .any, .any, .any, .any, .any] (by simp [hb]) (by simp [slsOk, Sl.ok]) (fun B hB => ?_) ?_
    · have f0 : ∀ l, wcell (ownW B l) b 0 = _ := fun l => own_ext hB e0
      have f1 : ∀ l, wcell (ownW B l) b 82 = _ := fun l => own_ext hB e1
      simp [C_cond_eq, f0, f1, hlo, slsIs, Sl.is]
    · intro w1 hk
      refine open_any fun _ => open_v ?_
      repeat' refine open_any fun _ => ?_
      refine open_nil ?_
      simp
      exact fin hk
  rw [if_neg hlo]
  have hlo' : 0 ≤ s.pos := by omega
  cases hx : xs[s.pos.toNat]? with
  | none =>
    have hge : (xs.length : Int) ≤ s.pos := by
      have := List.getElem?_eq_none_iff.1 hx
      omega
    refine W_segX [.any, .v (.bool false), .any, .any, .any, .any, .any, .any, .any, .any, .any, .any, .any, .any, .any, .any, .any, .any, .any, .any, .any, .any, .any, .any, .any, .any, .any, .any, .any, .any] (by simp [hb]) (by simp [slsOk, Sl.ok]) (fun B hB => ?_) ?_
    · have f0 : ∀ l, wcell (ownW B l) b 0 = _ := fun l => own_ext hB e0
      have f1 : ∀ l, wcell (ownW B l) b 82 = _ := fun l => own_ext hB e1
      simp [C_cond_eq, f0, f1, hlo, hge, slsIs, Sl.is]
    · intro w1 hk
      refine open_any fun _ => open_v ?_
      repeat' refine open_any fun _ => ?_
      refine open_nil ?_
      simp
      exact fin hk
  | some x =>
    have hlt : s.pos < xs.length := by
      have := (List.getElem?_eq_some_iff.1 hx).1
      omega
    have hxm := List.mem_of_getElem? hx
    have hr := hcode _ _ hx
    have hnge : ¬ (xs.length : Int) ≤ s.pos := by omega
    simp only
    by_cases hbad : 11 ≤ x.dst ∨ 11 ≤ x.src
    · rw [if_pos hbad]
      refine W_segX [.any, .v (.bool false), .any, .any, .any, .any, .any, .any, .any, .any, .any, .any, .any, .any, .any, .any, .any, .any, .any, .any, .any, .any, .any, .any, .any, .any, .any, .any, .any, .any] (by simp [hb]) (by simp [slsOk, Sl.ok]) (fun B hB => ?_) ?_
      · have f0 : ∀ l, wcell (ownW B l) b 0 = _ := fun l => own_ext hB e0
        have f1 : ∀ l, wcell (ownW B l) b 82 = _ := fun l => own_ext hB e1
        have f2 : ∀ l, wrow (ownW B l) q (off + s.pos.toNat * 5) 5 = _ := fun l => own_extR hB hr
        have hbad' : (decide ((11 : Int) ≤ x.dst) || decide ((11 : Int) ≤ x.src)) = true := by simp; omega
        simp [C_cond_eq, f0, f1, f2, hlo, hlo', hlt, hnge, hbad', slsIs, Sl.is]
      · intro w1 hk
        refine open_any fun _ => open_v ?_
        repeat' refine open_any fun _ => ?_
        refine open_nil ?_
        simp
        exact fin hk
    rw [if_neg hbad]
    have hd : x.dst < 11 := by omega
    have hsr : x.src < 11 := by omega
    have hop := (hok x hxm).1
    have hwide := (hok x hxm).2
    have tO := Of_T w hop
    generalize partsOf x.op = p at *
    simp only [Parts.val] at tO
    refine W_seg [.v (.pointer (some ⟨b, 0, none⟩)), .v (.bool false), .p 55 x.arr, .any, .any, .p 122 p.arr, .any, .any, .any, .any, .any, .any, .any, .any, .any, .any, .any, .any, .any, .any, .any, .any, .any, .any, .any, .any, .any, .any, .any, .any] (by simp [hb]) (by simp [slsOk, Sl.ok, hb]) (fun B hB => ?_) fun w1 hk =>
      open_v (open_v (open_p fun p2 _ h2 => open_any fun _ => open_any fun _ => open_p fun p5 _ h5 => ?_))
    · have f0 : ∀ l, wcell (ownW B l) b 0 = _ := fun l => own_ext hB e0
      have f1 : ∀ l, wcell (ownW B l) b 82 = _ := fun l => own_ext hB e1
      have f2 : ∀ l, wrow (ownW B l) q (off + s.pos.toNat * 5) 5 = _ := fun l => own_extR hB hr
      have hbad' : (decide ((11 : Int) ≤ x.dst) || decide ((11 : Int) ≤ x.src)) = false := by simp; omega
      simp [C_cond_eq, f0, f1, f2, hlo, hlo', hlt, hnge, hbad', tO, slsIs, Sl.is]
    · repeat' refine open_any fun _ => ?_
      refine open_nil ?_
      have hm1 : IsMach w1 b k s := mach_keep hm hk (fun h => h)
      have hmm1 : IsMem w1 k.bm m := hk.has hmm (fun h => h)
      have hkS : Kept S w w1 := hk.mono fun _ _ h => h.elim
      have hu1 := hu.keep hkS
      have hc1 := hc'.keep hkS
      have hkM : Kept (fun i => i = b ∨ i = k.bm) w w1 := hk.mono fun _ _ h => h.elim
      have r2 : wrow w1 p2 0 5 = some x.arr := by rw [wrow_of h2 (by simp)]; simp
      have r5 : wrow w1 p5 0 5 = some p.arr := by rw [wrow_of h5 (by simp)]; simp
      have c5 : wcell w1 p5 0 = some (.int .i64 p.kind) := by rw [wcell_of h5]; rfl
      have toM : ∀ {o : Option (VSt × RMem)} {r : Value} {w' : World}, OutM b k s w1 o r w' → OutM b k s w o r w' := fun h => ⟨hkM.trans h.1, h.2.1, h.2.2.1, h.2.2.2⟩
      unfold vstep1
      by_cases h1 : p.kind = 1
      · rw [if_pos h1]
        simp [c5, h1]
        refine W_yes (by simp) ?_
        simp
        refine W_call0 (by simp [r2, r5]) (alu_ret b k s x p w1 hm1 hd hsr ok) ?_
        intro r w2 hr
        have h' := toM (hr.toM hmm1 hbm)
        have hv := h'.2.1
        subst hv
        try simp only [Option.isSome_map] at h'
        simp
        exact h'
      rw [if_neg h1]
      simp [c5, h1]
      refine W_no (by simp) ?_
      by_cases h2' : p.kind = 2
      · rw [if_pos h2']
        simp [h2']
        refine W_yes (by simp) ?_
        simp
        refine W_call0 (by simp [r2, r5]) (jump_ret b k s x p w1 hm1 hd hsr ok) ?_
        intro r w2 hr
        have h' := toM (hr.toM hmm1 hbm)
        have hv := h'.2.1
        subst hv
        try simp only [Option.isSome_map] at h'
        simp
        exact h'
      rw [if_neg h2']
      simp [h2']
      refine W_no (by simp) ?_
      by_cases h3 : p.kind = 3
      · rw [if_pos h3]
        have hm2 : IsMach w1.drew b k s := hm1
        have hmm2 : IsMem w1.drew k.bm m := hmm1
        have hk2 : Kept (fun i => i = b ∨ i = k.bm) w w1.drew := hkM.drew
        have r22 : wrow w1.drew p2 0 5 = some x.arr := r2
        simp [h3]
        refine W_yes (by simp) ?_
        simp
        generalize w1.drew = w2 at hm2 hmm2 hk2 r22 ⊢
        refine W_call0 (by simp [r22, mach_pos hm2]) (ret_of_T (target_T w2 s.pos x)) ?_
        rintro r w3 ⟨rfl, hk3⟩
        have hm3 := mach_keep hm2 hk3 (fun h => h)
        have hmm3 : IsMem w3 k.bm m := hk3.has hmm2 (fun h => h)
        simp
        refine W_store (by simp) (by simp; rfl) (mach_stpos hm3 _) (stab_nil _ _ _) ?_
        simp
        exact ⟨(hk2.trans (hk3.mono fun _ _ h => h.elim)).put (fun _ => .inl rfl) _, rfl, mach_put hm3 _, fun q hq => by cases hq; exact (put_other hbm).trans hmm3⟩
      rw [if_neg h3]
      simp [h3]
      refine W_no (by simp) ?_
      by_cases h4 : p.kind = 4
      · rw [if_pos h4]
        simp [h4]
        refine W_yes (by simp) ?_
        simp
        refine W_call0 (by simp [r2, r5]) (call_ret b k s m S us x w1 hm1 hmm1 hno hS hu1 h0) ?_
        intro r w2 hr
        have h' := toM (hr.toM hmm1 hbm)
        have hv := h'.2.1
        subst hv
        try simp only [Option.isSome_map] at h'
        simp
        exact h'
      rw [if_neg h4]
      simp [h4]
      refine W_no (by simp) ?_
      by_cases h5' : p.kind = 5
      · rw [if_pos h5']
        simp [h5']
        refine W_yes (by simp) ?_
        simp
        refine W_store (by simp) (by simp [mach_tag0 hm1]; rfl) (mach_stdone hm1 _) (stab_nil _ _ _) ?_
        have hm2 := mach_put hm1 { s with done := decide ((s.r 0).tag = 1) }
        have hmm2 : IsMem (put w1 b (.cells (({ s with done := decide ((s.r 0).tag = 1) } : VSt).cells k) 107 (0, 0))) k.bm m := (put_other hbm).trans hmm1
        have hk2 := hkM.put (S := fun i => i = b ∨ i = k.bm) (b := b) (fun _ => .inl rfl) (.cells (({ s with done := decide ((s.r 0).tag = 1) } : VSt).cells k) 107 (0, 0))
        generalize put w1 b _ = w2 at hm2 hmm2 hk2 ⊢
        simp [mach_done hm2]
        by_cases ht : (s.r 0).tag = 1
        · rw [if_pos ht]
          simp only [ht, decide_true] at hm2 ⊢
          exact ⟨hk2, rfl, hm2, fun q hq => by cases hq; exact hmm2⟩
        · rw [if_neg ht]
          have : ({ s with done := decide ((s.r 0).tag = 1) } : VSt) = s := by cases s; simp_all
          rw [this] at hm2
          simp only [ht, decide_false]
          exact ⟨hk2, rfl, hm2, fun q hq => by cases hq⟩
      rw [if_neg h5']
      simp [h5']
      refine W_no (by simp) ?_
      by_cases h6 : p.kind = 6
      · rw [if_pos h6]
        simp [h6]
        refine W_yes (by simp) ?_
        simp
        refine W_call0 (by simp [r2, r5]) (vload_ret b k s m x p w1 hm1 hmm1 hd hsr ok mk) ?_
        intro r w2 hr
        have h' := toM (hr.toM hmm1 hbm)
        have hv := h'.2.1
        subst hv
        try simp only [Option.isSome_map] at h'
        simp
        exact h'
      rw [if_neg h6]
      simp [h6]
      refine W_no (by simp) ?_
      by_cases h7 : p.kind = 7
      · rw [if_pos h7]
        have hm2 : IsMach w1.drew b k s := hm1
        have hmm2 : IsMem w1.drew k.bm m := hmm1
        have hk2 : Kept (fun i => i = b ∨ i = k.bm) w w1.drew := hkM.drew
        have r22 : wrow w1.drew p2 0 5 = some x.arr := r2
        have c2 : wcell w1.drew p5 2 = some (.int .i64 p.size) := by rw [wcell_drew, wcell_of h5]; rfl
        have c4 : wcell w1.drew p5 4 = some (.bool p.reg) := by rw [wcell_drew, wcell_of h5]; rfl
        simp [h7]
        refine W_yes (by simp) ?_
        simp only [W_seq, W_draw, W_chk, W_set]
        generalize w1.drew = w2 at hm2 hmm2 hk2 r22 c2 c4 ⊢
        simp [r22, c2]
        refine W_calm (by simp [r22, c4]) (ret_of_T (second_T w2 b k s hm2 x p.reg hsr (fun i => (ok i).1))) fun w3 hk3 => ?_
        have hm3 : IsMach w3 b k s := mach_keep hm2 hk3 (fun h => h)
        have hmm3 : IsMem w3 k.bm m := hk3.has hmm2 (fun h => h)
        have hk4 : Kept (fun i => i = b ∨ i = k.bm) w w3 := hk2.trans (hk3.mono fun _ _ h => h.elim)
        simp
        refine W_call0 (by simp) (vsave_ret b k s m x p.size (secondOf s x p.reg) w3 hm3 hmm3 hbm hd ok (rok_second ok x p.reg)) ?_
        rintro r w4 ⟨g1, rfl, g3, g4⟩
        simp
        exact ⟨hk4.trans g1, rfl, g3, g4⟩
      rw [if_neg h7]
      simp [h7]
      refine W_no (by simp) ?_
      by_cases h8 : p.kind = 8
      · rw [if_pos h8]
        simp [h8]
        refine W_yes (by simp) ?_
        simp
        refine W_call0 (by simp [r2, r5]) (atomic_ret b k s m x p w1 hm1 hmm1 hbm hd hsr ok mk) ?_
        intro r w2 hr
        have h' := toM hr
        have hv := h'.2.1
        subst hv
        try simp only [Option.isSome_map] at h'
        simp
        exact h'
      rw [if_neg h8]
      simp [h8]
      refine W_no (by simp) ?_
      by_cases h9 : p.kind = 9
      · simp [h9]
        refine W_yes (by simp) ?_
        simp
        refine W_call0 (by simp [r2]) (ret_of_T (wide_none b k s m S xs x w1 hm1 hmm1 hno hc1 hlo' hlt (hwide h9) (fun y hy => (hok y hy).1))) ?_
        rintro r w2 ⟨rfl, hk2⟩
        simp
        exact fin (hk.trans hk2)
      simp [h9]
      refine W_no (by simp) ?_
      simp
      exact fin hk
end Go.Proofs.Ytepbpapbkonhnaa
