/- Layer 20: the run of a machine with maps. -/
import Derived.Test.YtmfgdbapankamaaGreatGr30
set_option linter.unusedSimpArgs false
set_option linter.unusedVariables false
set_option maxRecDepth 8000
namespace Go.Proofs.YtmfgdbapankamaaGreat
open Go.Eng
noncomputable def grun (xs : List Ins) (clock : Int) (us : List Int) : Nat → Nat → GSt → (Int × Int × Int × Int) × GSt
  | 0, n, G => ((0, G.s.pos, n, 62), G)
  | f + 1, n, G =>
    match gstep xs clock us G with
    | none => ((0, G.s.pos, n, 14), G)
    | some G' => if G'.s.done = true then (((G'.s.r 0).n, G'.s.pos, (n : Int) + 1, 0), G') else grun xs clock us f (n + 1) G'
def startG (ctx : Nat → Int) (ms : List XMap) (cs : List XCell) : GSt := ⟨startSt, RMem.fresh ctx (.slice none 0 0), ms, cs⟩
noncomputable def grunOf (xs : List Ins) (ctx : Nat → Int) (clock : Int) (us : List Int) (fuel : Int) (ms : List XMap) (cs : List XCell) : (Int × Int × Int × Int) × GSt := grun xs clock us (fuelOf fuel) 0 (startG ctx ms cs)
theorem init_cells' (l : Value) (ctx : Nat → Int) (maps : Value) (clock : Int) (random : Value) (fuel : Int) (bm : Nat) :
    (setRow (initMach.setIfInBounds 0 l) 1 (WorldArr ctx maps clock random fuel).toList).setIfInBounds 37 (.pointer (some ⟨bm, 0, none⟩)) = VSt.init0.cells ⟨l, ctx, maps, clock, random, fuel, bm⟩ := by
  refine mach_ext (by simp [Go.Eng.setRow_size]) fun i hi => ?_
  rw [Array.getElem?_setIfInBounds, Go.Eng.setRow_size, Array.size_setIfInBounds, init_size]
  by_cases h37 : 37 = i
  · subst h37; rfl
  rw [if_neg h37, setRow_get _ _ _ _ (by simp)]
  by_cases h1 : 1 ≤ i ∧ i < 37
  · rw [if_pos (by simp; omega), Array.getElem?_toList, world_at _ _ _ _ _ _ (by omega)]
    by_cases h2 : i < 33
    · rw [if_pos (by omega)]
      unfold VSt.cellAt
      rw [if_neg (by omega), if_pos h2]
    · have : i = 33 ∨ i = 34 ∨ i = 35 ∨ i = 36 := by omega
      rcases this with rfl | rfl | rfl | rfl <;> rfl
  · rw [if_neg (by simp; omega), Array.getElem?_setIfInBounds, init_size]
    by_cases h0 : 0 = i
    · subst h0; rfl
    · rw [if_neg h0]
      unfold initMach
      rw [Array.getElem?_setIfInBounds, if_neg h37, mach_at _ _ _ hi]
      unfold VSt.cellAt
      simp only [show ¬ i = 0 by omega, show ¬ i < 33 by omega, show ¬ i = 33 by omega, show ¬ i = 34 by omega, show ¬ i = 35 by omega, show ¬ i = 36 by omega, show ¬ i = 37 by omega, if_false]
theorem start_ok (ctx : Nat → Int) (hc : ∀ i, 0 ≤ ctx i ∧ ctx i ≤ 255) {ms : List XMap} {cs : List XCell} (hm : ∀ A ∈ ms, AOk A) (hs : ∀ c ∈ cs, c.slot < ms.length) : GOk (startG ctx ms cs) :=
  ⟨fun i => by
    show VOk cs (fset (fset _ 1 _) 10 _ i)
    unfold fset
    repeat' split
    all_goals exact ⟨by simp [RVal.zero, VSt.init0], fun h => by simp [RVal.zero, VSt.init0] at h, fun _ => rfl, fun h => by simp [RVal.zero, VSt.init0] at h ⊢⟩, fun i => vok_zero cs, ⟨fun i => by simp [startG, RMem.fresh], hc⟩, hm, hs, by simp [startG, startSt, VSt.init0]⟩
def RunP (w : World) (N : Names) (cs : List XCell) (o : (Int × Int × Int × Int) × GSt) (r : Value) (w' : World) : Prop :=
  r = .agg (Res o.1.1 o.1.2.1 o.1.2.2.1 o.1.2.2.2) ∧ Kept (N.own cs.length) w w' ∧ ∃ N', Placed w' N' o.2.ms o.2.cs ∧ NExt w N N' cs.length o.2.cs.length
set_option maxHeartbeats 8000000 in
theorem grun_ret (l : Value) (xs : List Ins) (ctx : Nat → Int) (mvs : Value) (clock : Int) (random : Value) (us : List Int) (fuel : Int) (w : World) (N : Names) (ms : List XMap) (cs : List XCell) (hp : Placed w N ms cs) (hmv : MapsAt w mvs (N.mm.map (·.1))) (hmv0 : N.mm.map (·.1) = [] → mvs = .slice none 0 0)
    (hma : ∀ A ∈ ms, AOk A) (hmc : ∀ A ∈ ms, A.clock ≤ 100000)
    (hc : GCode w (fun i => w.heap.size ≤ i ∨ N.own cs.length i) l xs) (hok : ∀ y ∈ xs, y.op < 256)
    (hu : Luck w (fun i => w.heap.size ≤ i ∨ N.own cs.length i) random us) (hctx : ∀ i, 0 ≤ ctx i ∧ ctx i ≤ 255) (hclk : 0 ≤ clock) (hus : ∀ n ∈ us, 0 ≤ n) (hf : fuel ≤ 9223372036854775807) :
    Ret Tryz.prog 5 [l, .agg (WorldArr ctx mvs clock random fuel)] w (RunP w N cs (grunOf xs ctx clock us fuel ms cs)) := by
  refine ret_of_W Tryz.func5 rfl nok_vm_Run ?_
  obtain ⟨ra, rc, hrv, hrl, hrcase⟩ := id hu
  obtain ⟨mq, mcp, hmvl, _⟩ := id hmv
  have hmvv : varV mvs = some mvs := by rw [hmvl]; rfl
  have hmvc : mvs.cells = #[mvs] := by rw [hmvl]; rfl
  simp only [nc_vm_Run]
  have h3 := hp_old (hp_new w (.cells (WorldArr ctx mvs clock random fuel) 39)) (.cells (Res 0 0 0 0) 36)
  have h2 := hp_new (w.alloc (.cells (WorldArr ctx mvs clock random fuel) 39)) (.cells (Res 0 0 0 0) 36)
  rw [alloc_size] at h2
  have hk0 : Kept none' w ((w.alloc (.cells (WorldArr ctx mvs clock random fuel) 39)).alloc (.cells (Res 0 0 0 0) 36)).drew := (((Kept.refl _ _).alloc _).alloc _).drew
  have h31 : ((w.alloc (.cells (WorldArr ctx mvs clock random fuel) 39)).alloc (.cells (Res 0 0 0 0) 36)).drew.heap[w.heap.size]? = _ := h3
  have h21 : ((w.alloc (.cells (WorldArr ctx mvs clock random fuel) 39)).alloc (.cells (Res 0 0 0 0) 36)).drew.heap[w.heap.size + 1]? = _ := h2
  simp only [W_seq]
  refine W_new' (v := .agg (WorldArr ctx mvs clock random fuel)) (cs := WorldArr ctx mvs clock random fuel) (by simp) rfl ?_
  refine W_new' (v := .agg (Res 0 0 0 0)) (cs := Res 0 0 0 0) (by simp) rfl ?_
  simp only [W_seq, W_draw]
  generalize ((w.alloc (.cells (WorldArr ctx mvs clock random fuel) 39)).alloc (.cells (Res 0 0 0 0) 36)).drew = w1 at h31 h21 hk0 ⊢
  have b3 := blk_lt h31
  have b2 := blk_lt h21
  have hsz1 := hk0.size
  have hvl : varV l = some l := by rcases id hc with ⟨_, _, _, e, _⟩ | ⟨_, _, e⟩ <;> rw [e] <;> rfl
  have hlc : l.cells = #[l] := by rcases id hc with ⟨_, _, _, e, _⟩ | ⟨_, _, e⟩ <;> rw [e] <;> rfl
  simp [wrow_box h31 (world_size _ _ _ _ _), hvl]
  have r32 : wrow w1 w.heap.size 0 32 = some ((WorldArr ctx mvs clock random fuel).extract 0 32) := by rw [wrow_of h31 (by simp)]
  have c32 : wcell w1 w.heap.size 32 = some mvs := by rw [wcell_of h31]; exact world_maps _ _ _ _ _
  have c35 : wcell w1 w.heap.size 35 = some (.int .i64 fuel) := by rw [wcell_of h31]; exact world_fuel _ _ _ _ _
  refine W_call (vs := [.agg ((WorldArr ctx mvs clock random fuel).extract 0 32), mvs]) (by simp [r32, c32, hmvv]) (gnew_ret _ ctx mvs (N.mm.map (·.1)) w1 (by simp) (fun i hi => world_ctx _ _ _ _ _ i hi) (hmv.keep hk0 fun _ _ h => h) hmv0) ?_
  rintro r w2 ⟨bm, mv, rfl, hbm, hk2, hmm2, hms2, hml⟩
  refine ⟨stab_calm hk2, ?_⟩
  have h32 := hk2.has h31 (fun h => h)
  have h22 := hk2.has h21 (fun h => h)
  have hk02 := hk0.trans hk2
  simp [wrow_box h32 (world_size _ _ _ _ _), hvl, hlc, Go.Eng.setRow_size, init_cells']
  have h6 := hp_new w2 (.cells (VSt.init0.cells ⟨l, ctx, mvs, clock, random, fuel, bm⟩) 71)
  have h33 := hp_old h32 (.cells (VSt.init0.cells ⟨l, ctx, mvs, clock, random, fuel, bm⟩) 71)
  have h23 := hp_old h22 (.cells (VSt.init0.cells ⟨l, ctx, mvs, clock, random, fuel, bm⟩) 71)
  have hmm3 : IsMem (w2.alloc (.cells (VSt.init0.cells ⟨l, ctx, mvs, clock, random, fuel, bm⟩) 71)) bm (RMem.fresh ctx mv) := hp_old hmm2 _
  have hms3 : MapsAt (w2.alloc (.cells (VSt.init0.cells ⟨l, ctx, mvs, clock, random, fuel, bm⟩) 71)) mv (N.mm.map (·.1)) := hms2.keep ((Kept.refl none' _).alloc _) fun _ _ h => h
  have hk3 : Kept none' w (w2.alloc (.cells (VSt.init0.cells ⟨l, ctx, mvs, clock, random, fuel, bm⟩) 71)) := hk02.alloc _
  have hbm2 := blk_lt hmm2
  have hsz2 := hk2.size
  generalize hb : w2.heap.size = b at *
  generalize hkk : (⟨l, ctx, mvs, clock, random, fuel, bm⟩ : VK) = k at *
  have hm3 : IsMach (w2.alloc (.cells (VSt.init0.cells k) 71)) b k VSt.init0 := h6
  generalize w2.alloc (.cells (VSt.init0.cells k) 71) = w3 at h33 h23 hmm3 hms3 hk3 hm3 ⊢
  refine W_store (by simp) (by simp) (mach_streg hm3 1 (by omega) { RVal.zero with tag := 2 }) (stab_nil _ _ _) ?_
  have n3 : w.heap.size ≠ b := by omega
  have n2 : w.heap.size + 1 ≠ b := by omega
  have nb : bm ≠ b := by omega
  have nms : ∀ j, mv.ownBlock = some j → ¬ (j = b) := fun j hj => by have := hml j hj; omega
  have hm4 := mach_put hm3 { VSt.init0 with r := fset VSt.init0.r 1 { RVal.zero with tag := 2 } }
  have h34 := (put_other (o := .cells (({ VSt.init0 with r := fset VSt.init0.r 1 { RVal.zero with tag := 2 } } : VSt).cells k) 71 (0, 0)) n3).trans h33
  have h24 := (put_other (o := .cells (({ VSt.init0 with r := fset VSt.init0.r 1 { RVal.zero with tag := 2 } } : VSt).cells k) 71 (0, 0)) n2).trans h23
  have hmm4 : IsMem _ bm _ := (put_other (o := .cells (({ VSt.init0 with r := fset VSt.init0.r 1 { RVal.zero with tag := 2 } } : VSt).cells k) 71 (0, 0)) nb).trans hmm3
  have hms4 := hms3.keep (Kept.put (S := (· = b)) (Kept.refl _ w3) (b := b) (fun _ => rfl) (.cells (({ VSt.init0 with r := fset VSt.init0.r 1 { RVal.zero with tag := 2 } } : VSt).cells k) 71 (0, 0))) nms
  have hk4 := hk3.putNew (b := b) (by omega) (.cells (({ VSt.init0 with r := fset VSt.init0.r 1 { RVal.zero with tag := 2 } } : VSt).cells k) 71 (0, 0))
  generalize put w3 b _ = w4 at hm4 h34 h24 hmm4 hms4 hk4 ⊢
  simp
  refine W_store (by simp) (by simp) (mach_streg hm4 10 (by omega) { RVal.zero with tag := 3 }) (stab_nil _ _ _) ?_
  have hm5 : IsMach _ b k startSt := mach_put hm4 startSt
  have h35 := (put_other (o := .cells (startSt.cells k) 71 (0, 0)) n3).trans h34
  have h25 := (put_other (o := .cells (startSt.cells k) 71 (0, 0)) n2).trans h24
  have hmm5 : IsMem _ bm _ := (put_other (o := .cells (startSt.cells k) 71 (0, 0)) nb).trans hmm4
  have hms5 := hms4.keep (Kept.put (S := (· = b)) (Kept.refl _ w4) (b := b) (fun _ => rfl) (.cells (startSt.cells k) 71 (0, 0))) nms
  have hk5 := hk4.putNew (b := b) (by omega) (.cells (startSt.cells k) 71 (0, 0))
  have hsame : ({ VSt.init0 with r := fset (fset VSt.init0.r 1 { RVal.zero with tag := 2 }) 10 { RVal.zero with tag := 3 } } : VSt) = startSt := rfl
  simp only [hsame]
  generalize put w4 b (.cells (startSt.cells k) 71 (0, 0)) = w5 at hm5 h35 h25 hmm5 hms5 hk5 ⊢
  have c355 : wcell w5 w.heap.size 35 = some (.int .i64 fuel) := by rw [wcell_of h35]; exact world_fuel _ _ _ _ _
  simp only [W_seq]
  rw [W_set]
  refine ok_intro (.int .i64 (fuelOf fuel)) ?_ ?_
  · simp [c355]
    unfold fuelOf
    repeat' split
    all_goals omega
  have hF : fuelOf fuel ≤ 4096 := by unfold fuelOf; omega
  generalize hFF : fuelOf fuel = F at *
  simp
  have hR : grunOf xs ctx clock us fuel ms cs = grun xs clock us F 0 (startG ctx ms cs) := by unfold grunOf; rw [hFF]
  have hkk1 : k.bm = bm := by rw [← hkk]
  have hkk2 : k.l = l := by rw [← hkk]
  have hkk3 : k.clock = clock := by rw [← hkk]
  have hkk4 : k.random = random := by rw [← hkk]
  have hG5 : GAt w5 b k N mv (startG ctx ms cs) :=
    ⟨hm5, by rw [hkk1]; exact hmm5, hms5, fun j hj => ⟨fun ho => by have := hp.own_lt ho; have := hml j hj; omega, nms j hj, by rw [hkk1]; have := hml j hj; omega⟩, hp.calm hk5, fun j hj => by rw [hkk1]; exact (hml j hj).2⟩
  have hO5 : GOk (startG ctx ms cs) := start_ok ctx hctx hma fun c hc => by
    obtain ⟨j, hj⟩ := List.mem_iff_getElem?.1 hc
    exact (hp.cell j c hj).1
  have fin : ∀ {w' : World} {N' : Names} {G' : GSt} {v p n e : Int}, Kept (N.own cs.length) w w' → w'.heap[w.heap.size + 1]? = some (.cells (Res 0 0 0 0) 36 (0, 0)) → Placed w' N' G'.ms G'.cs → NExt w N N' cs.length G'.cs.length → grunOf xs ctx clock us fuel ms cs = ((v, p, n, e), G') →
      RunP w N cs (grunOf xs ctx clock us fuel ms cs) (.agg (Res v p n e)) (put w' (w.heap.size + 1) (.cells (Res v p n e) 36 (0, 0))) := by
    intro w' N' G' v p n e hk h hpl hn he
    rw [he]
    refine ⟨rfl, hk.then (Kept.put (S := (· = w.heap.size + 1)) (Kept.refl _ w') (b := w.heap.size + 1) (fun _ => rfl) _) (fun i hi h => by omega), N', hpl.keep (Kept.put (S := (· = w.heap.size + 1)) (Kept.refl _ w') (b := w.heap.size + 1) (fun _ => rfl) _) fun i hi he => ?_, hn⟩
    obtain ⟨cs', T, g1, g2⟩ := hpl.own_ty hi
    refine heap_ne g1 h (by rcases g2 with rfl | rfl | rfl | rfl | rfl <;> decide) he
  generalize grunOf xs ctx clock us fuel ms cs = RO at *
  have rb : ∀ {w' : World} {v p n e : Int}, w'.heap[w.heap.size + 1]? = some (.cells (Res 0 0 0 0) 36 (0, 0)) → wrow (put w' (w.heap.size + 1) (.cells (Res v p n e) 36 (0, 0))) (w.heap.size + 1) 0 4 = some (Res v p n e) :=
    fun h => wrow_box (put_same (blk_lt h)) rfl
  refine W_loop (fun env w' => Kept (N.own cs.length) w w' ∧ w'.heap[w.heap.size + 1]? = some (.cells (Res 0 0 0 0) 36 (0, 0)) ∧
      ∃ (i : Nat) (N' : Names) (G : GSt), env = [undef, undef, .pointer (some ⟨w.heap.size + 1, 0, none⟩), undef, undef, undef, undef, .pointer (some ⟨b, 0, none⟩), .int .i64 F, .int .i64 i, .int .i64 F, undef, undef] ∧ i ≤ F ∧
        GAt w' b k N' mv G ∧ GOk G ∧ NExt w N N' cs.length G.cs.length ∧ (∀ A ∈ G.ms, A.clock ≤ 100000 + i) ∧ G.s.done = false ∧ RO = grun xs clock us (F - i) i G)
    (fun env _ => F - natAt env 9) ?_ ?_
  · exact ⟨hk5.mono fun _ _ h => h.elim, h25, 0, N, startG ctx ms cs, by simp, by omega, hG5, hO5, NExt.refl _ _ _, fun A hA => by have := hmc A hA; omega, rfl, by simpa using hR⟩
  · rintro env w6 ⟨hk6, h26, i, N1, G, rfl, hi, hG, hO, hn, hcl, hdn, hrun⟩
    have pos6 := mach_pos hG.mach
    simp only [vren_pos] at pos6
    by_cases hiF : i < F
    · simp
      refine W_yes (by simp; omega) ?_
      simp
      have hkS : Kept (fun i => w.heap.size ≤ i ∨ N.own cs.length i) w w6 := hk6.mono fun i _ h => .inr h
      have nd : ∀ j, (j = b ∨ j = k.bm ∨ N1.own G.cs.length j) → j ≠ w.heap.size + 1 := fun j hj he => by
        rcases hj with h | h | h
        · omega
        · rw [hkk1] at h; omega
        · obtain ⟨cs', T, g1, g2⟩ := hG.placed.own_ty h
          refine heap_ne g1 h26 (by rcases g2 with rfl | rfl | rfl | rfl | rfl <;> decide) he
      refine W_call0 (by simp) (gstep_ret' hG hO (fun A hA => by have := hcl A hA; omega) (S := fun i => w.heap.size ≤ i ∨ N.own cs.length i) (.inl (by omega)) (us := us) (by rw [hkk4]; exact hu.keep hkS) hus (xs := xs) (by rw [hkk2]; exact hc.keep hkS) hok hdn) ?_
      rintro r w7 ⟨rfl, N2, hG7, hn7, hk7⟩
      rw [hkk3] at hG7 hn7 ⊢
      have hs6 := hk6.size
      have hn17 := hn.trans hn7 hs6
      have hk67 : Kept (N.own cs.length) w w7 := hk6.then hk7 (fun j hj h => by
        rcases h with h | h | h
        · omega
        · rw [hkk1] at h; omega
        · rcases hn.own j h with h | h
          · exact h
          · omega)
      have h27 := hk7.has h26 (fun h => nd _ h rfl)
      obtain ⟨f, hf'⟩ : ∃ f, F - i = f + 1 := ⟨F - i - 1, by omega⟩
      rw [hf'] at hrun
      simp only [grun] at hrun
      have e2 : IntKind.i64.wrap ((i : Int) + 1) = ((i + 1 : Nat) : Int) := i64w (by omega) (by omega)
      cases hv : gstep xs clock us G with
      | none =>
        rw [hv] at hG7 hrun hn17
        simp only [Option.getD_none] at hG7 hn17
        have pos7 := mach_pos hG7.mach
        simp only [vren_pos] at pos7
        simp at hrun ⊢
        refine W_yes (by simp) ?_
        simp [pos7]
        refine W_store (by simp) (by simp [pos7]) (res_box 0 G.s.pos i 14 h27 rfl) (stab_nil _ _ _) ?_
        simp [rb h27]
        exact fin hk67 h27 hG7.placed hn17 hrun
      | some G' =>
        rw [hv] at hG7 hrun hn17
        simp only [Option.getD_some] at hG7 hn17
        obtain ⟨hO', hC'⟩ := gstep_ok hO hG.placed.cbytes hG.placed.eok hclk hus hrl hv
        have pos7 := mach_pos hG7.mach
        simp only [vren_pos] at pos7
        have done7 := mach_done hG7.mach
        simp only [vren_done] at done7
        have n07 := mach_n0 hG7.mach
        simp only [vren_r, ren_n] at n07
        simp at hrun ⊢
        refine W_no (by simp) ?_
        simp [done7]
        cases hd' : G'.s.done with
        | true =>
          rw [hd'] at hrun
          simp at hrun
          refine W_yes (by simp [done7, hd']) ?_
          have hk8 : Kept none' w7 w7.drew := (Kept.refl _ _).drew
          have hG8 := hG7.calm hk8
          have h28 : w7.drew.heap[w.heap.size + 1]? = _ := h27
          have hk08 : Kept (N.own cs.length) w w7.drew := hk67.drew
          have pos8 := mach_pos hG8.mach
          simp only [vren_pos] at pos8
          have n08 := mach_n0 hG8.mach
          simp only [vren_r, ren_n] at n08
          simp only [W_seq, W_draw]
          generalize w7.drew = w8 at *
          simp [pos8, n08]
          refine W_store (by simp) (by simp [pos8, n08, e2]) (res_box (G'.s.r 0).n G'.s.pos (i + 1 : Nat) 0 h28 rfl) (stab_nil _ _ _) ?_
          simp [rb h28]
          exact fin hk08 h28 hG8.placed hn17 hrun
        | false =>
          rw [hd'] at hrun
          simp at hrun
          refine W_no (by simp [done7, hd']) ?_
          simp
          refine ⟨⟨hk67, h27, i + 1, e2, by omega, N2, G', hG7, hO', hn17, fun A hA => ?_, hd', ?_⟩, ?_⟩
          · have := hC'.2 _ hcl A hA
            omega
          · rw [hrun, show F - (i + 1) = f by omega]
          · simp [natAt, e2]; omega
    · have : i = F := by omega
      subst this
      simp
      refine W_no (by simp) ?_
      rw [Nat.sub_self] at hrun
      simp only [grun] at hrun
      simp [pos6]
      refine W_store (by simp) (by simp [pos6]) (res_box 0 G.s.pos i 62 h26 rfl) (stab_nil _ _ _) ?_
      simp [rb h26]
      exact fin hk6 h26 hG.placed hn hrun
end Go.Proofs.YtmfgdbapankamaaGreat
namespace Go.Proofs.YtmfgdbapankamaaGreat
open Go.Eng
def absM (M : BMap) (n : Nat) : XMap := ⟨M.ty, M.ks, M.vs, M.cap, M.l.mapIdx fun j e => ⟨e.key, n + j, e.used⟩, M.frozen, M.clock⟩
def absC (M : BMap) (i : Nat) : List XCell := M.l.map fun e => ⟨i, e.val⟩
theorem vsOf_left {ms : List XMap} {i : Nat} (h : i < ms.length) (A : XMap) : vsOf (ms ++ [A]) i = vsOf ms i := by
  unfold vsOf
  rw [List.getElem?_append_left h]
theorem vsOf_last (ms : List XMap) (A : XMap) : vsOf (ms ++ [A]) ms.length = A.vs := by
  unfold vsOf
  rw [List.getElem?_append_right (Nat.le_refl _)]
  simp
theorem last_or {α : Type} {l : List α} {a x : α} {i : Nat} (h : (l ++ [a])[i]? = some x) : (i < l.length ∧ l[i]? = some x) ∨ (i = l.length ∧ x = a) := by
  have hi := (List.getElem?_eq_some_iff.1 h).1
  simp at hi
  by_cases e : i < l.length
  · rw [List.getElem?_append_left e] at h
    exact .inl ⟨e, h⟩
  · have : i = l.length := by omega
    subst this
    rw [List.getElem?_append_right (Nat.le_refl _)] at h
    simp at h
    exact .inr ⟨rfl, h.symm⟩
def cbAdd (N : Names) (n : Nat) (M : BMap) (c : Nat) : Nat := if c < n then N.cb c else ((M.l[c - n]?).map (·.cb)).getD 0
def vbAdd (N : Names) (n : Nat) (M : BMap) (c : Nat) : Nat := if c < n then N.vb c else ((M.l[c - n]?).map (·.vb)).getD 0
def Names.add (N : Names) (n b : Nat) (M : BMap) : Names := ⟨cbAdd N n M, vbAdd N n M, N.mm ++ [(b, M)]⟩
set_option maxHeartbeats 1000000 in
theorem Placed.add {w w' : World} {N : Names} {ms : List XMap} {cs : List XCell} {b : Nat} {M : BMap} (h : Placed w N ms cs) (hk : Kept none' w w') (hm : MapAt w' b M) (hlow : ∀ j, M.own b j → w.heap.size ≤ j) :
    Placed w' (N.add cs.length b M) (ms ++ [absM M cs.length]) (cs ++ absC M ms.length) ∧ ∀ j, (N.add cs.length b M).own (cs ++ absC M ms.length).length j → N.own cs.length j ∨ w.heap.size ≤ j := by
  have hlen := h.len
  have hcl : (cs ++ absC M ms.length).length = cs.length + M.l.length := by simp [absC]
  have oldc : ∀ c, c < cs.length → cbAdd N cs.length M c = N.cb c := fun c hc => by unfold cbAdd; rw [if_pos hc]
  have oldv : ∀ c, c < cs.length → vbAdd N cs.length M c = N.vb c := fun c hc => by unfold vbAdd; rw [if_pos hc]
  have newc : ∀ (j : Nat) (e : BEnt), M.l[j]? = some e → cbAdd N cs.length M (cs.length + j) = e.cb := fun j e hj => by
    unfold cbAdd; rw [if_neg (by omega), Nat.add_sub_cancel_left, hj]; rfl
  have newv : ∀ (j : Nat) (e : BEnt), M.l[j]? = some e → vbAdd N cs.length M (cs.length + j) = e.vb := fun j e hj => by
    unfold vbAdd; rw [if_neg (by omega), Nat.add_sub_cancel_left, hj]; rfl
  have getc : ∀ (c : Nat) (x : XCell), (cs ++ absC M ms.length)[c]? = some x → (c < cs.length ∧ cs[c]? = some x) ∨ ∃ j e, c = cs.length + j ∧ M.l[j]? = some e ∧ x = ⟨ms.length, e.val⟩ := by
    intro c x hx
    by_cases hc : c < cs.length
    · rw [List.getElem?_append_left hc] at hx
      exact .inl ⟨hc, hx⟩
    · rw [List.getElem?_append_right (by omega)] at hx
      unfold absC at hx
      rw [List.getElem?_map, Option.map_eq_some_iff] at hx
      obtain ⟨e, he, rfl⟩ := hx
      exact .inr ⟨c - cs.length, e, by omega, he, rfl⟩
  have cases : ∀ c, c < cs.length + M.l.length → c < cs.length ∨ ∃ j e, c = cs.length + j ∧ M.l[j]? = some e := by
    intro c hc
    by_cases h1 : c < cs.length
    · exact .inl h1
    · exact .inr ⟨c - cs.length, M.l[c - cs.length]'(by omega), by omega, List.getElem?_eq_getElem (by omega)⟩
  have ltc : ∀ c, c < cs.length → N.cb c < w.heap.size := fun c hc => h.own_lt (.inr ⟨c, hc, .inl rfl⟩)
  have ltv : ∀ c, c < cs.length → N.vb c < w.heap.size := fun c hc => h.own_lt (.inr ⟨c, hc, .inr rfl⟩)
  have gec : ∀ (j : Nat) (e : BEnt), M.l[j]? = some e → w.heap.size ≤ e.cb ∧ w.heap.size ≤ e.vb ∧ w.heap.size ≤ e.eb := fun j e hj =>
    ⟨hlow _ (.inr (.inr ⟨e, List.mem_of_getElem? hj, .inr (.inl rfl)⟩)), hlow _ (.inr (.inr ⟨e, List.mem_of_getElem? hj, .inr (.inr rfl)⟩)), hlow _ (.inr (.inr ⟨e, List.mem_of_getElem? hj, .inl rfl⟩))⟩
  have hap : ∀ (i j : Nat) (e e' : BEnt), M.l[i]? = some e → M.l[j]? = some e' → (e.cb = e'.cb ∨ e.vb = e'.vb) → i = j := fun i j e e' hi hj he =>
    pairwise_get (R := apart) (fun a b hab => ⟨hab.1.symm, hab.2.1.symm, hab.2.2.symm⟩) hm.apart hi hj fun hab => by rcases he with he | he; exact hab.2.1 he; exact hab.2.2 he
  refine ⟨⟨by simp [Names.add, hlen], ?_, ?_, ?_, ?_, ?_⟩, ?_⟩
  · intro i A q hA hq
    rcases last_or hA with ⟨hi, hA⟩ | ⟨hi, rfl⟩
    · rcases last_or (l := N.mm) hq with ⟨_, hq⟩ | ⟨hi', _⟩
      · obtain ⟨g1, g2⟩ := h.map i A q hA hq
        refine ⟨g1.keep hk fun _ _ h => h, g2.ty, g2.ks, g2.vs, g2.cap, g2.frozen, g2.clock, g2.len, fun j e he => ?_⟩
        obtain ⟨p, c, k1, k2, k3, k4, k5, k6, k7, k8⟩ := g2.ent j e he
        have hlt := (List.getElem?_eq_some_iff.1 k2).1
        exact ⟨p, c, k1, by rw [List.getElem?_append_left hlt]; exact k2, k3, k4, k5, k6.trans (oldc _ hlt).symm, k7.trans (oldv _ hlt).symm, k8⟩
      · omega
    · rcases last_or (l := N.mm) hq with ⟨hi', hq⟩ | ⟨_, rfl⟩
      · omega
      · refine ⟨hm, rfl, rfl, rfl, rfl, rfl, rfl, by simp [absM], fun j e he => ?_⟩
        unfold absM at he
        simp only at he
        rw [List.getElem?_mapIdx, Option.map_eq_some_iff] at he
        obtain ⟨p, hp, rfl⟩ := he
        refine ⟨p, ⟨ms.length, p.val⟩, hp, ?_, hi.symm ▸ rfl, rfl, rfl, (newc j p hp).symm, (newv j p hp).symm, rfl⟩
        rw [List.getElem?_append_right (by simp), Nat.add_sub_cancel_left]
        unfold absC
        rw [List.getElem?_map, hp]
        rfl
  · intro c x hx
    rcases getc c x hx with ⟨hc, hx⟩ | ⟨j, e, rfl, hj, rfl⟩
    · obtain ⟨g1, g2⟩ := h.cell c x hx
      refine ⟨by simp; omega, ?_⟩
      rw [vsOf_left g1]
      show CellAt w' (cbAdd N cs.length M c) (vbAdd N cs.length M c) _ _
      rw [oldc c hc, oldv c hc]
      exact g2.keep hk (fun h => h) (fun h => h)
    · refine ⟨by simp, ?_⟩
      rw [vsOf_last]
      show CellAt w' (cbAdd N cs.length M (cs.length + j)) (vbAdd N cs.length M (cs.length + j)) _ _
      rw [newc j e hj, newv j e hj]
      exact ent_cell (hm.ents e (List.mem_of_getElem? hj))
  · intro c d hc hd hcd
    rw [hcl] at hc hd
    have hcd : cbAdd N cs.length M c = cbAdd N cs.length M d := hcd
    rcases cases c hc with hc | ⟨i, e, rfl, he⟩
    · rcases cases d hd with hd | ⟨j, e', rfl, he'⟩
      · rw [oldc c hc, oldc d hd] at hcd; exact h.icb c d hc hd hcd
      · rw [oldc c hc, newc j e' he'] at hcd
        have := ltc c hc; have := (gec j e' he').1; omega
    · rcases cases d hd with hd | ⟨j, e', rfl, he'⟩
      · rw [oldc d hd, newc i e he] at hcd
        have := ltc d hd; have := (gec i e he).1; omega
      · rw [newc i e he, newc j e' he'] at hcd
        rw [hap i j e e' he he' (.inl hcd)]
  · intro c d hc hd hcd
    rw [hcl] at hc hd
    have hcd : vbAdd N cs.length M c = vbAdd N cs.length M d := hcd
    rcases cases c hc with hc | ⟨i, e, rfl, he⟩
    · rcases cases d hd with hd | ⟨j, e', rfl, he'⟩
      · rw [oldv c hc, oldv d hd] at hcd; exact h.ivb c d hc hd hcd
      · rw [oldv c hc, newv j e' he'] at hcd
        have := ltv c hc; have := (gec j e' he').2.1; omega
    · rcases cases d hd with hd | ⟨j, e', rfl, he'⟩
      · rw [oldv d hd, newv i e he] at hcd
        have := ltv d hd; have := (gec i e he).2.1; omega
      · rw [newv i e he, newv j e' he'] at hcd
        rw [hap i j e e' he he' (.inr hcd)]
  · have old : ∀ (i : Nat) (q : Nat × BMap), N.mm[i]? = some q → q.1 < w.heap.size ∧ (∀ g, q.2.L.ownBlock = some g → g < w.heap.size) ∧ ∀ e ∈ q.2.l, e.eb < w.heap.size := fun i q hq =>
      ⟨h.own_lt (.inl ⟨q, List.mem_of_getElem? hq, .inl rfl⟩), fun g hg => h.own_lt (.inl ⟨q, List.mem_of_getElem? hq, .inr (.inl hg)⟩), fun e he => h.own_lt (.inl ⟨q, List.mem_of_getElem? hq, .inr (.inr ⟨e, he, rfl⟩)⟩)⟩
    have hb : w.heap.size ≤ b := hlow b (.inl rfl)
    have hL : ∀ g, M.L.ownBlock = some g → w.heap.size ≤ g := fun g hg => hlow g (.inr (.inl hg))
    have he : ∀ e ∈ M.l, w.heap.size ≤ e.eb := fun e he => hlow _ (.inr (.inr ⟨e, he, .inl rfl⟩))
    intro i j q r hq hr hij
    rcases last_or (l := N.mm) hq with ⟨hi, hq⟩ | ⟨hi, rfl⟩
    · rcases last_or (l := N.mm) hr with ⟨hj, hr⟩ | ⟨hj, rfl⟩
      · exact h.sep i j q r hq hr hij
      · obtain ⟨o1, o2, o3⟩ := old i q hq
        exact ⟨by show q.1 ≠ b; omega, fun g hg hg2 => by have := o2 g hg; have := hL g hg2; omega, fun e h1 e' h2 h3 => by have := o3 e h1; have := he e' h2; omega⟩
    · rcases last_or (l := N.mm) hr with ⟨hj, hr⟩ | ⟨hj, rfl⟩
      · obtain ⟨o1, o2, o3⟩ := old j r hr
        exact ⟨by show b ≠ r.1; omega, fun g hg hg2 => by have := o2 g hg2; have := hL g hg; omega, fun e h1 e' h2 h3 => by have := o3 e' h2; have := he e h1; omega⟩
      · omega
  · intro j hj
    rcases hj with ⟨q, hq, hj⟩ | ⟨c, hc, hj⟩
    · rcases List.mem_append.1 hq with hq | hq
      · exact .inl (.inl ⟨q, hq, hj⟩)
      · cases List.mem_singleton.1 hq
        refine .inr (hlow j ?_)
        rcases hj with hj | hj | ⟨e, he, hj⟩
        · exact .inl hj
        · exact .inr (.inl hj)
        · exact .inr (.inr ⟨e, he, .inl hj⟩)
    · rw [hcl] at hc
      have hj : j = cbAdd N cs.length M c ∨ j = vbAdd N cs.length M c := hj
      rcases cases c hc with hc | ⟨i, e, rfl, he⟩
      · rw [oldc c hc, oldv c hc] at hj
        exact .inl (.inr ⟨c, hc, hj⟩)
      · rw [newc i e he, newv i e he] at hj
        have := gec i e he
        exact .inr (by omega)
end Go.Proofs.YtmfgdbapankamaaGreat
