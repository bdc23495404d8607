/- Layer 20: the walk of a program's run. -/
import Derived.Test.YtepbpapbkonhnaaVmJ
set_option linter.unusedSimpArgs false
set_option linter.unusedVariables false
set_option maxRecDepth 8000
namespace Go.Proofs.Ytepbpapbkonhnaa
open Go.Eng

section
variable (ctx : Nat → Int) (maps : Value) (clock : Int) (random : Value) (fuel : Int)
@[simp] theorem world_size : (WorldArr ctx maps clock random fuel).size = 36 := by simp [WorldArr]
theorem world_at (i : Nat) (h : i < 36) : (WorldArr ctx maps clock random fuel)[i]? = some (if i < 32 then .int .u8 (ctx i) else if i = 32 then maps else if i = 33 then .int .u64 clock else if i = 34 then random else .int .i64 fuel) := by
  simp [WorldArr, h]
theorem world_ctx (i : Nat) (h : i < 32) : ((WorldArr ctx maps clock random fuel).extract 0 32)[i]? = some (.int .u8 (ctx i)) := by
  rw [Array.getElem?_extract, if_pos (by simp; omega), Nat.zero_add, world_at _ _ _ _ _ _ (by omega), if_pos h]
@[simp] theorem world_maps : (WorldArr ctx maps clock random fuel)[32]? = some maps := by rw [world_at _ _ _ _ _ _ (by omega)]; rfl
@[simp] theorem world_fuel : (WorldArr ctx maps clock random fuel)[35]? = some (.int .i64 fuel) := by rw [world_at _ _ _ _ _ _ (by omega)]; rfl
end
@[simp] theorem init_size : initMach.size = 85 := by simp [initMach, mach_size]
theorem init_cells (l : Value) (ctx : Nat → Int) (clock : Int) (random : Value) (fuel : Int) (bm : Nat) :
    (setRow (initMach.setIfInBounds 0 l) 1 (WorldArr ctx (.slice none 0 0) clock random fuel).toList).setIfInBounds 37 (.pointer (some ⟨bm, 0, none⟩)) = VSt.init0.cells ⟨l, ctx, .slice none 0 0, clock, random, fuel, bm⟩ := by
  refine mach_ext (by simp [Go.Eng.setRow_size]) fun i hi => ?_
  rw [Array.getElem?_setIfInBounds, Go.Eng.setRow_size, Array.size_setIfInBounds, init_size]
  by_cases h37 : 37 = i
  · subst h37; rfl
  rw [if_neg h37, setRow_get _ _ _ _ (by simp)]
  by_cases h1 : 1 ≤ i ∧ i < 37
  · rw [if_pos (by simp; omega), Array.getElem?_toList, world_at _ _ _ _ _ _ (by omega)]
    by_cases h2 : i < 33
    · rw [if_pos (by omega)]
      unfold VSt.cellAt
      rw [if_neg (by omega), if_pos h2]
    · have : i = 33 ∨ i = 34 ∨ i = 35 ∨ i = 36 := by omega
      rcases this with rfl | rfl | rfl | rfl <;> rfl
  · rw [if_neg (by simp; omega), Array.getElem?_setIfInBounds, init_size]
    by_cases h0 : 0 = i
    · subst h0; rfl
    · rw [if_neg h0]
      unfold initMach
      rw [Array.getElem?_setIfInBounds, if_neg h37, mach_at _ _ _ hi]
      unfold VSt.cellAt
      simp only [show ¬ i = 0 by omega, show ¬ i < 33 by omega, show ¬ i = 33 by omega, show ¬ i = 34 by omega, show ¬ i = 35 by omega, show ¬ i = 36 by omega, show ¬ i = 37 by omega, if_false]
theorem good_start (ctx : Nat → Int) (hc : ∀ i, 0 ≤ ctx i ∧ ctx i ≤ 255) (p : Option Addr) (c : Nat) : GoodSt startSt (RMem.fresh ctx (.slice p 0 c)) :=
  ⟨fun i => by
    show ROk (fset (fset _ 1 _) 10 _ i)
    unfold fset
    repeat' split
    all_goals exact ⟨rfl, by simp [RVal.zero, VSt.init0], by simp [RVal.zero, VSt.init0]⟩, by simp [startSt, VSt.init0], mok_fresh ctx _ hc, ⟨p, c, rfl⟩⟩
theorem res_box {w : World} {b : Nat} {cs : Array Value} {T : TypeId} (v p n e : Int) (h : w.heap[b]? = some (.cells cs T (0, 0))) (hs : cs.size = 4) : stv w 4 (.pointer (some ⟨b, 0, none⟩)) (.agg (Res v p n e)) = some (put w b (.cells (Res v p n e) T (0, 0))) :=
  box_store h hs rfl (by simp [Res, Value.oneCell'])
@[simp] theorem res_size (v p n e : Int) : (Res v p n e).size = 4 := rfl
@[simp] theorem res_s0 (v p n e x : Int) : (Res v p n e).setIfInBounds 0 (.int .u64 x) = Res x p n e := rfl
@[simp] theorem res_s1 (v p n e x : Int) : (Res v p n e).setIfInBounds 1 (.int .i64 x) = Res v x n e := rfl
@[simp] theorem res_s2 (v p n e x : Int) : (Res v p n e).setIfInBounds 2 (.int .i64 x) = Res v p x e := rfl
@[simp] theorem res_s3 (v p n e x : Int) : (Res v p n e).setIfInBounds 3 (.int .i64 x) = Res v p n x := rfl

set_option maxHeartbeats 4000000 in
theorem run_ret (l : Value) (xs : List Ins) (ctx : Nat → Int) (clock : Int) (random : Value) (us : List Int) (fuel : Int) (w : World) (hc : Code w (fun i => w.heap.size ≤ i) l xs) (hok : CodeOk xs)
    (hu : Luck w (fun i => w.heap.size ≤ i) random us) (hctx : ∀ i, 0 ≤ ctx i ∧ ctx i ≤ 255) (hclk : 0 ≤ clock) (hus : ∀ n ∈ us, 0 ≤ n) (hf : fuel ≤ 9223372036854775807) :
    Ret Try.prog 22 [l, .agg (WorldArr ctx (.slice none 0 0) clock random fuel)] w
      fun r w' => Kept none' w w' ∧ ∃ maps, r = .agg (Res (runOf xs ctx clock us fuel maps).1 (runOf xs ctx clock us fuel maps).2.1 (runOf xs ctx clock us fuel maps).2.2.1 (runOf xs ctx clock us fuel maps).2.2.2) := by
  refine ret_of_W Try.func22 rfl nok_vm_Run ?_
  obtain ⟨cq, co, cc, hcl, hclen, hcq, hcode⟩ := id hc
  obtain ⟨ra, rc, hrv, hrl, hrcase⟩ := id hu
  simp only [nc_vm_Run]
  have h3 := hp_old (hp_new w (.cells (WorldArr ctx (.slice none 0 0) clock random fuel) 62)) (.cells (Res 0 0 0 0) 58)
  have h2 := hp_new (w.alloc (.cells (WorldArr ctx (.slice none 0 0) clock random fuel) 62)) (.cells (Res 0 0 0 0) 58)
  rw [alloc_size] at h2
  have hk0 : Kept none' w ((w.alloc (.cells (WorldArr ctx (.slice none 0 0) clock random fuel) 62)).alloc (.cells (Res 0 0 0 0) 58)).drew := (((Kept.refl _ _).alloc _).alloc _).drew
  have h31 : ((w.alloc (.cells (WorldArr ctx (.slice none 0 0) clock random fuel) 62)).alloc (.cells (Res 0 0 0 0) 58)).drew.heap[w.heap.size]? = _ := h3
  have h21 : ((w.alloc (.cells (WorldArr ctx (.slice none 0 0) clock random fuel) 62)).alloc (.cells (Res 0 0 0 0) 58)).drew.heap[w.heap.size + 1]? = _ := h2
  simp only [W_seq]
  refine W_new' (v := .agg (WorldArr ctx (.slice none 0 0) clock random fuel)) (cs := WorldArr ctx (.slice none 0 0) clock random fuel) (by simp) rfl ?_
  refine W_new' (v := .agg (Res 0 0 0 0)) (cs := Res 0 0 0 0) (by simp) rfl ?_
  simp only [W_seq, W_draw]
  generalize ((w.alloc (.cells (WorldArr ctx (.slice none 0 0) clock random fuel) 62)).alloc (.cells (Res 0 0 0 0) 58)).drew = w1 at h31 h21 hk0 ⊢
  have b3 := blk_lt h31
  have b2 := blk_lt h21
  have hsz1 := hk0.size
  have hvl : varV l = some l := by rw [hcl]; rfl
  have hlc : l.cells = #[l] := by rw [hcl]; rfl
  simp [wrow_box h31 (world_size _ _ _ _ _), hvl]
  have r32 : wrow w1 w.heap.size 0 32 = some ((WorldArr ctx (.slice none 0 0) clock random fuel).extract 0 32) := by rw [wrow_of h31 (by simp)]
  have c32 : wcell w1 w.heap.size 32 = some (.slice none 0 0) := by rw [wcell_of h31]; exact world_maps _ _ _ _ _
  have c35 : wcell w1 w.heap.size 35 = some (.int .i64 fuel) := by rw [wcell_of h31]; exact world_fuel _ _ _ _ _
  refine W_call (vs := [.agg ((WorldArr ctx (.slice none 0 0) clock random fuel).extract 0 32), .slice none 0 0]) (by simp [r32, c32]) (new_ret' _ ctx w1 (by simp) (fun i hi => world_ctx _ _ _ _ _ i hi)) ?_
  rintro r w2 ⟨bm, maps, rfl, hbm, hk2, hmm2, mp, mc, rfl⟩
  refine ⟨stab_calm hk2, ?_⟩
  have h32 := hk2.has h31 (fun h => h)
  have h22 := hk2.has h21 (fun h => h)
  have hk02 := hk0.trans hk2
  simp [wrow_box h32 (world_size _ _ _ _ _), hvl, hlc, Go.Eng.setRow_size, init_cells]
  have h6 := hp_new w2 (.cells (VSt.init0.cells ⟨l, ctx, .slice none 0 0, clock, random, fuel, bm⟩) 107)
  have h33 := hp_old h32 (.cells (VSt.init0.cells ⟨l, ctx, .slice none 0 0, clock, random, fuel, bm⟩) 107)
  have h23 := hp_old h22 (.cells (VSt.init0.cells ⟨l, ctx, .slice none 0 0, clock, random, fuel, bm⟩) 107)
  have hmm3 : IsMem (w2.alloc (.cells (VSt.init0.cells ⟨l, ctx, .slice none 0 0, clock, random, fuel, bm⟩) 107)) bm (RMem.fresh ctx (.slice mp 0 mc)) := hp_old hmm2 _
  have hk3 : Kept none' w (w2.alloc (.cells (VSt.init0.cells ⟨l, ctx, .slice none 0 0, clock, random, fuel, bm⟩) 107)) := hk02.alloc _
  have hbm2 := blk_lt hmm2
  have hsz2 := hk2.size
  generalize hb : w2.heap.size = b at *
  generalize hkk : (⟨l, ctx, .slice none 0 0, clock, random, fuel, bm⟩ : VK) = k at *
  have hm3 : IsMach (w2.alloc (.cells (VSt.init0.cells k) 107)) b k VSt.init0 := h6
  generalize w2.alloc (.cells (VSt.init0.cells k) 107) = w3 at h33 h23 hmm3 hk3 hm3 ⊢
  refine W_store (by simp) (by simp) (mach_streg hm3 1 (by omega) { RVal.zero with tag := 2 }) (stab_nil _ _ _) ?_
  have n3 : w.heap.size ≠ b := by omega
  have n2 : w.heap.size + 1 ≠ b := by omega
  have nb : bm ≠ b := by omega
  have hm4 := mach_put hm3 { VSt.init0 with r := fset VSt.init0.r 1 { RVal.zero with tag := 2 } }
  have h34 := (put_other (o := .cells (({ VSt.init0 with r := fset VSt.init0.r 1 { RVal.zero with tag := 2 } } : VSt).cells k) 107 (0, 0)) n3).trans h33
  have h24 := (put_other (o := .cells (({ VSt.init0 with r := fset VSt.init0.r 1 { RVal.zero with tag := 2 } } : VSt).cells k) 107 (0, 0)) n2).trans h23
  have hmm4 : IsMem _ bm _ := (put_other (o := .cells (({ VSt.init0 with r := fset VSt.init0.r 1 { RVal.zero with tag := 2 } } : VSt).cells k) 107 (0, 0)) nb).trans hmm3
  have hk4 := hk3.putNew (b := b) (by omega) (.cells (({ VSt.init0 with r := fset VSt.init0.r 1 { RVal.zero with tag := 2 } } : VSt).cells k) 107 (0, 0))
  generalize put w3 b _ = w4 at hm4 h34 h24 hmm4 hk4 ⊢
  simp
  refine W_store (by simp) (by simp) (mach_streg hm4 10 (by omega) { RVal.zero with tag := 3 }) (stab_nil _ _ _) ?_
  have hm5 : IsMach _ b k startSt := mach_put hm4 startSt
  have h35 := (put_other (o := .cells (startSt.cells k) 107 (0, 0)) n3).trans h34
  have h25 := (put_other (o := .cells (startSt.cells k) 107 (0, 0)) n2).trans h24
  have hmm5 : IsMem _ bm _ := (put_other (o := .cells (startSt.cells k) 107 (0, 0)) nb).trans hmm4
  have hk5 := hk4.putNew (b := b) (by omega) (.cells (startSt.cells k) 107 (0, 0))
  have hsame : ({ VSt.init0 with r := fset (fset VSt.init0.r 1 { RVal.zero with tag := 2 }) 10 { RVal.zero with tag := 3 } } : VSt) = startSt := rfl
  simp only [hsame]
  generalize put w4 b (.cells (startSt.cells k) 107 (0, 0)) = w5 at hm5 h35 h25 hmm5 hk5 ⊢
  have c355 : wcell w5 w.heap.size 35 = some (.int .i64 fuel) := by rw [wcell_of h35]; exact world_fuel _ _ _ _ _
  simp only [W_seq]
  rw [W_set]
  refine ok_intro (.int .i64 (fuelOf fuel)) ?_ ?_
  · simp [c355]
    unfold fuelOf
    repeat' split
    all_goals omega
  have hF : fuelOf fuel ≤ 4096 := by unfold fuelOf; omega
  generalize hFF : fuelOf fuel = F at *
  simp
  have hR : runOf xs ctx clock us fuel (.slice mp 0 mc) = vrun xs clock us F 0 startSt (RMem.fresh ctx (.slice mp 0 mc)) := by unfold runOf; rw [hFF]
  have fin : ∀ {w' : World} {v p n e : Int}, Kept none' w w' → w'.heap[w.heap.size + 1]? = some (.cells (Res 0 0 0 0) 58 (0, 0)) → runOf xs ctx clock us fuel (.slice mp 0 mc) = (v, p, n, e) →
      Kept none' w (put w' (w.heap.size + 1) (.cells (Res v p n e) 58 (0, 0))) ∧ ∃ maps, Res v p n e = (Res (runOf xs ctx clock us fuel maps).1 (runOf xs ctx clock us fuel maps).2.1 (runOf xs ctx clock us fuel maps).2.2.1 (runOf xs ctx clock us fuel maps).2.2.2) :=
    fun hk h he => ⟨hk.putNew (by omega) _, .slice mp 0 mc, by rw [he]⟩
  have rb : ∀ {w' : World} {v p n e : Int}, w'.heap[w.heap.size + 1]? = some (.cells (Res 0 0 0 0) 58 (0, 0)) → wrow (put w' (w.heap.size + 1) (.cells (Res v p n e) 58 (0, 0))) (w.heap.size + 1) 0 4 = some (Res v p n e) :=
    fun h => wrow_box (put_same (blk_lt h)) rfl
  refine W_loop (fun env w' => Kept none' w w' ∧ w'.heap[w.heap.size + 1]? = some (.cells (Res 0 0 0 0) 58 (0, 0)) ∧
      ∃ (i : Nat) (s : VSt) (m : RMem), env = [undef, undef, .pointer (some ⟨w.heap.size + 1, 0, none⟩), undef, undef, undef, undef, .pointer (some ⟨b, 0, none⟩), .int .i64 F, .int .i64 i, .int .i64 F, undef, undef] ∧ i ≤ F ∧
        IsMach w' b k s ∧ IsMem w' bm m ∧ GoodSt s m ∧ s.done = false ∧ runOf xs ctx clock us fuel (.slice mp 0 mc) = vrun xs clock us (F - i) i s m)
    (fun env _ => F - natAt env 9) ?_ ?_
  · exact ⟨hk5, h25, 0, startSt, _, by simp, by omega, hm5, hmm5, good_start ctx hctx mp mc, rfl, by simpa using hR⟩
  · rintro env w6 ⟨hk6, h26, i, s, m, rfl, hi, hm6, hmm6, hg, hdn, hrun⟩
    have hkk1 : k.bm = bm := by rw [← hkk]
    have hkk2 : k.l = l := by rw [← hkk]
    have hkk3 : k.clock = clock := by rw [← hkk]
    have hkk4 : k.random = random := by rw [← hkk]
    by_cases hiF : i < F
    · simp
      refine W_yes (by simp; omega) ?_
      simp
      have hkS : Kept (fun i => w.heap.size ≤ i) w w6 := hk6.mono fun _ _ h => h.elim
      refine W_call0 (by simp) (step_ret b k s m (fun i => w.heap.size ≤ i) us xs w6 hm6 (by rw [hkk1]; exact hmm6) (by rw [hkk1]; exact nb) hg.no (show w.heap.size ≤ b by omega) (by rw [hkk4]; exact hu.keep hkS) (by rw [hkk2]; exact hc.keep hkS) hok hg.ok hg.mem hg.luck hdn) ?_
      rintro r w7 ⟨hk7, rfl, hm7, hmm7⟩
      rw [hkk1] at hk7 hmm7
      rw [hkk3] at hm7 hmm7 ⊢
      have hk67 : Kept none' w w7 := hk6.then hk7 (fun j hj h => by rcases h with rfl | rfl <;> omega)
      have h27 := hk7.has h26 (by intro h; rcases h with h | h <;> omega)
      obtain ⟨f, hf'⟩ : ∃ f, F - i = f + 1 := ⟨F - i - 1, by omega⟩
      rw [hf'] at hrun
      simp only [vrun] at hrun
      have e2 : IntKind.i64.wrap ((i : Int) + 1) = ((i + 1 : Nat) : Int) := i64w (by omega) (by omega)
      cases hv : vstep xs clock us s m with
      | none =>
        rw [hv] at hm7 hrun
        simp at hm7 hrun ⊢
        refine W_yes (by simp) ?_
        simp [mach_pos hm7]
        refine W_store (by simp) (by simp [mach_pos hm7]) (res_box 0 s.pos i 14 h27 rfl) (stab_nil _ _ _) ?_
        simp [rb h27]
        exact fin hk67 h27 hrun
      | some q =>
        obtain ⟨s', m'⟩ := q
        rw [hv] at hm7 hrun
        have hmm7' := hmm7 _ hv
        have hg' := good_step hg hus hrl hclk hdn hv
        simp at hm7 hmm7' hrun ⊢
        refine W_no (by simp) ?_
        simp [mach_done hm7]
        cases hd' : s'.done with
        | true =>
          rw [hd'] at hrun
          simp at hrun
          refine W_yes (by simp [mach_done hm7, hd']) ?_
          have hm8 : IsMach w7.drew b k s' := hm7
          have h28 : w7.drew.heap[w.heap.size + 1]? = _ := h27
          have hk8 : Kept none' w w7.drew := hk67.drew
          simp only [W_seq, W_draw]
          generalize w7.drew = w8 at hm8 h28 hk8 ⊢
          simp [mach_pos hm8, mach_n0 hm8]
          refine W_store (by simp) (by simp [mach_pos hm8, mach_n0 hm8, e2]) (res_box (s'.r 0).n s'.pos (i + 1 : Nat) 0 h28 rfl) (stab_nil _ _ _) ?_
          simp [rb h28]
          exact fin hk8 h28 hrun
        | false =>
          rw [hd'] at hrun
          simp at hrun
          refine W_no (by simp [mach_done hm7, hd']) ?_
          simp
          refine ⟨⟨hk67, h27, i + 1, e2, by omega, s', hm7, m', hmm7', hg'.1, hd', ?_⟩, ?_⟩
          · rw [hrun, show F - (i + 1) = f by omega]
          · simp [natAt, e2]; omega
    · have : i = F := by omega
      subst this
      simp
      refine W_no (by simp) ?_
      rw [Nat.sub_self] at hrun
      simp only [vrun] at hrun
      simp [mach_pos hm6]
      refine W_store (by simp) (by simp [mach_pos hm6]) (res_box 0 s.pos i 62 h26 rfl) (stab_nil _ _ _) ?_
      simp [rb h26]
      exact fin hk6 h26 hrun
end Go.Proofs.Ytepbpapbkonhnaa
