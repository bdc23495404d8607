/- BmapCells: the walk. -/
import Derived.Test.YtihaopoehhnbkaaBmM
import Derived.Test.YtihaopoehhnbkaaFlagsW
import Derived.Test.YtihaopoehhnbkaaCmdsCel
set_option linter.unusedSimpArgs false
set_option linter.unusedVariables false
set_option maxRecDepth 8000
namespace Go.Proofs.Ytihaopoehhnbkaa
open Go.Eng

/-- One entry, whose blocks stay. -/
structure CeSt (w0 w : World) (b kb : Nat) (K : ByteArray) (M : BMap) (e : BEnt) (c : Int) : Prop where
  mp : Mp w0 w b M
  ty : M.ty = 1
  ks : M.ks = 4
  vs : M.vs = 1
  cap : M.cap = 4
  fr : M.frozen = false
  one : M.l = [e]
  key : e.key = K
  ka : KeyAt w (.slice (some ⟨kb, 0, none⟩) 4 4) K
  kout : ¬ M.own b kb
  klt : kb < w.heap.size
  clock : M.clock ≤ c

theorem CeSt.calm {w0 w w' : World} {b kb : Nat} {K : ByteArray} {M : BMap} {e : BEnt} {c : Int} (h : CeSt w0 w b kb K M e c) (hk : Kept none' w w') (hK : K.size = 4) : CeSt w0 w' b kb K M e c :=
  ⟨h.mp.calm hk, h.ty, h.ks, h.vs, h.cap, h.fr, h.one, h.key, h.ka.same kb 0 4 (by rw [hK]) (hk.block kb h.klt (fun h => h)), h.kout, Nat.lt_of_lt_of_le h.klt hk.size, h.clock⟩

theorem bitXor_range (a : Int) : 0 ≤ bitXor .u8 a 7 ∧ bitXor .u8 a 7 ≤ 255 := by
  unfold bitXor
  rw [IntKind.wrap_u8]
  omega

/-- A value's byte is turned from outside, through its cell. -/
theorem MapAt.poke {w : World} {b : Nat} {M : BMap} {e : BEnt} {y : Int} (h : MapAt w b M) (hl : M.l = [e]) (hv : M.vs = 1) (hy : 0 ≤ y ∧ y ≤ 255) :
    ∃ w', stv w 1 (.pointer (some ⟨e.vb, 0, none⟩)) (.int .u8 y) = some w' ∧ Kept (fun j => j = e.vb) w w' ∧ MapAt w' b { M with l := [{ e with val := fun _ => y }] } := by
  have hi : M.l[0]? = some e := by rw [hl]; rfl
  have hE := h.mem hi
  obtain ⟨c0, hc0, hcell⟩ := hE.cell
  obtain ⟨cs, hval, hv1, hv2⟩ := hE.val
  rw [hv] at hv1
  have hst : stv w 1 (.pointer (some ⟨e.vb, 0, none⟩)) (.int .u8 y) = some (put w e.vb (.cells (cs.setIfInBounds 0 (.int .u8 y)) 5 (0, 0))) := by
    rw [stv_of (n := 1) (v := .int .u8 y) hval rfl (by omega) (.inl (by simp)) (by simp [Value.oneCell'])]
    simp
  have hk : Kept (fun j => j = e.vb) w (put w e.vb (.cells (cs.setIfInBounds 0 (.int .u8 y)) 5 (0, 0))) := (Kept.refl (fun j => j = e.vb) w).put (b := e.vb) (fun _ => rfl) _
  have hnew : (put w e.vb (.cells (cs.setIfInBounds 0 (.int .u8 y)) 5 (0, 0))).heap[e.vb]? = some (.cells (cs.setIfInBounds 0 (.int .u8 y)) 5 (0, 0)) := put_same (blk_lt hval)
  refine ⟨_, hst, hk, ?_⟩
  have hE1 : EntAt (put w e.vb (.cells (cs.setIfInBounds 0 (.int .u8 y)) 5 (0, 0))) M.vs { e with val := fun _ => y } := by
    refine ⟨hk.has hE.ent (fun q => heap_ne hE.ent hval (by decide) q), ⟨c0, hc0, hk.has hcell (fun q => heap_ne hcell hval (by decide) q)⟩, ⟨_, hnew, by rw [hv]; simpa using hv1, ?_⟩, fun _ => hy⟩
    intro j hj
    have : j = 0 := by rw [hv] at hj; omega
    subst this
    rw [Array.getElem?_setIfInBounds_self_of_lt (by omega)]
  have := h.set (x := M.clock) hi hE1 rfl rfl rfl (hk.has h.blk (fun q => heap_ne h.blk hval (by decide) q)) h.clock (hk.mono fun j _ hj => .inr (.inr (.inr hj)))
  rw [hl] at this
  exact this

section
variable {w0 w w' : World} {b kb : Nat} {K : ByteArray} {M : BMap} {e : BEnt} {c : Int}
theorem CeSt.get (h : CeSt w0 w b kb K M e c) : M.l[0]? = some e := by rw [h.one]; rfl
theorem CeSt.only (h : CeSt w0 w b kb K M e c) {i : Nat} {e' : BEnt} (hi : M.l[i]? = some e') : i = 0 ∧ e' = e := by
  rw [h.one] at hi
  have := (List.getElem?_eq_some_iff.1 hi).1
  have h0 : i = 0 := by simp at this; exact this
  subst h0
  simp at hi
  exact ⟨rfl, hi.symm⟩
theorem CeSt.step {M' : BMap} {e' : BEnt} {c' : Int} (h : CeSt w0 w b kb K M e c) (hK : K.size = 4) (hk : Kept (M.own b) w w') (hm : Mp w0 w' b M') (ho : Out M M' b w) (h1 : M'.ty = M.ty) (h2 : M'.ks = M.ks) (h3 : M'.vs = M.vs) (h4 : M'.cap = M.cap) (h5 : M'.frozen = M.frozen)
    (hl : M'.l = [e']) (he : e'.key = e.key) (hc : M'.clock ≤ c') : CeSt w0 w' b kb K M' e' c' :=
  ⟨hm, h1.trans h.ty, h2.trans h.ks, h3.trans h.vs, h4.trans h.cap, h5.trans h.fr, hl, he.trans h.key, h.ka.same kb 0 4 (by rw [hK]) (hk.block kb h.klt h.kout), fun hc => h.kout (ho kb h.klt hc), Nat.lt_of_lt_of_le h.klt hk.size, hc⟩
theorem CeSt.used (h : CeSt w0 w b kb K M e c) (hK : K.size = 4) (hk : Kept (fun j => j = b ∨ j = e.eb) w w') (hm : MapAt w' b (usedM M 0 e)) : CeSt w0 w' b kb K (usedM M 0 e) { e with used := M.clock + 1 } (c + 1) :=
  h.step hK (hk.mono fun j _ hj => own_ent h.get hj) (h.mp.used h.get hk hm) (out_used h.get) rfl rfl rfl rfl rfl (by simp [usedM, h.one]) rfl (by have := h.clock; show M.clock + 1 ≤ c + 1; omega)
theorem CeSt.written {x : Nat → Int} (h : CeSt w0 w b kb K M e c) (hK : K.size = 4) (hk : Kept (M.own b) w w') (hm : MapAt w' b (writtenM M 0 e x)) : CeSt w0 w' b kb K (writtenM M 0 e x) { e with used := M.clock + 1, val := x } (c + 1) :=
  h.step hK hk (h.mp.written h.get hk hm) (out_written h.get) rfl rfl rfl rfl rfl (by simp [writtenM, h.one]) rfl (by have := h.clock; show M.clock + 1 ≤ c + 1; omega)
theorem CeSt.poked {y : Int} (h : CeSt w0 w b kb K M e c) (hK : K.size = 4) (hk : Kept (fun j => j = e.vb) w w') (hm : MapAt w' b { M with l := [{ e with val := fun _ => y }] }) : CeSt w0 w' b kb K { M with l := [{ e with val := fun _ => y }] } { e with val := fun _ => y } c := by
  have ho : ∀ j, BMap.own { M with l := [{ e with val := fun _ => y }] } b j → M.own b j := by
    rintro j (hj | hj | ⟨a, ha, hj⟩)
    · exact .inl hj
    · exact .inr (.inl hj)
    · simp at ha
      subst ha
      exact .inr (.inr ⟨e, by rw [h.one]; simp, hj⟩)
  have hk' : Kept (M.own b) w w' := hk.mono fun j _ hj => .inr (.inr ⟨e, by rw [h.one]; simp, .inr (.inr hj)⟩)
  exact h.step hK hk' (h.mp.step hk' hm fun j hj => .inl (ho j hj)) (fun j _ hj => ho j hj) rfl rfl rfl rfl rfl rfl rfl h.clock
theorem CeSt.cell (h : CeSt w0 w b kb K M e c) : ∃ c0, wcell w e.cb 0 = some (.slice (some ⟨e.vb, 0, none⟩) 1 c0) ∧ 1 ≤ c0 ∧ wcell w e.vb 0 = some (.int .u8 (e.val 0)) := by
  have hE := h.mp.map.mem h.get
  obtain ⟨c0, hc0, hcell⟩ := hE.cell
  obtain ⟨cs, hval, hv1, hv2⟩ := hE.val
  rw [h.vs] at hcell hc0 hv2
  exact ⟨c0, by rw [wcell_of hcell]; rfl, hc0, by rw [wcell_of hval]; exact hv2 0 (by omega)⟩
end

set_option maxHeartbeats 4000000 in
theorem cells_ret (v0 v1 : Value) (xs ys : List Int) (w : World) (h0 : Octs w v0 xs) (h1 : Octs w v1 ys) : Ret Try.prog 10 [v0, v1] w fun v w' => v = .bool true ∧ Kept none' w w' := by
  refine ret_of_W Try.func10 rfl ok_tipstafflaw09_BmapCells ?_
  obtain ⟨ka, kn, kc, rfl, hkn, hkc, hkmax, hkx, hkrow⟩ := h0
  obtain ⟨fa, fn, fc, rfl, hfn, hfc, hfmax, hfx, hfrow⟩ := h1
  simp [c_tipstafflaw09_BmapCells]
  refine W_call0 (by simp; rfl) (newmap_ret 1 4 1 4 w (by unfold specOk; omega) (by decide)) ?_
  rintro v w1 ⟨b, rfl, hb, hk1, hm1⟩
  have hMp1 : Mp w w1 b (newM 1 4 1 4) := ⟨hk1, hm1, fun i hi => by
      rcases hi with rfl | hi | ⟨e, he, _⟩
      · exact hb
      · simp [newM, Value.ownBlock] at hi
      · simp [newM] at he⟩
  simp
  have hnew := hp_new w1 (.cells (Array.replicate 4 (Value.int .u8 0)) 5)
  have hkA : Kept none' w1 (w1.alloc (.cells (Array.replicate 4 (Value.int .u8 0)) 5)) := (Kept.refl _ _).alloc _
  have hMpA := hMp1.calm hkA
  have hsA : (w1.alloc (.cells (Array.replicate 4 (Value.int .u8 0)) 5)).heap.size = w1.heap.size + 1 := by simp
  generalize w1.alloc (.cells (Array.replicate 4 (Value.int .u8 0)) 5) = wA at hnew hkA hMpA hsA ⊢
  have hown1 : ∀ j, BMap.own (newM 1 4 1 4) b j → j < w1.heap.size := fun j hj => hMp1.lt hj
  have hw1 := hMp1.kept.size
  generalize hkb : w1.heap.size = kb at *
  have hcopy := run_copy_min (w := wA) (b := kb) (o := 0) (n := 4) (dCap := 4) (sn := kn) (sCap := kc) (sa := ka) (x := fun j => .int .u8 (xs.getD j 0)) (m := Nat.min kn 4) rfl hnew (by simp) (by
    by_cases h0 : kn = 0
    · left; rw [h0]; rfl
    · right
      obtain ⟨sb, so, rfl, hc⟩ := hkrow.resolve_left h0
      exact ⟨sb, so, rfl, fun j hj => wcell_kept hMpA.kept (fun h => h) (hc j (Nat.lt_of_lt_of_le hj (Nat.min_le_left _ _)))⟩) (fun _ _ => rfl)
  refine W_bi (by simp) hcopy (stab_nil _ _ _) ?_
  obtain ⟨xk, hxk, hkc4, hkB⟩ : ∃ xk : Nat → Nat, (∀ j, xk j ≤ 255) ∧ (∀ j, j < 4 → wcell (if Nat.min kn 4 = 0 then wA else put wA kb (.cells (setRow (Array.replicate 4 (Value.int .u8 0)) 0 (List.ofFn (n := Nat.min kn 4) fun j => Value.int .u8 (xs.getD j.val 0))) 5 (0, 0))) kb (0 + j) = some (.int .u8 (xk j))) ∧
      Kept (fun j => j = kb) wA (if Nat.min kn 4 = 0 then wA else put wA kb (.cells (setRow (Array.replicate 4 (Value.int .u8 0)) 0 (List.ofFn (n := Nat.min kn 4) fun j => Value.int .u8 (xs.getD j.val 0))) 5 (0, 0))) := by
    refine ⟨fun j => if j < Nat.min kn 4 then (xs.getD j 0).toNat else 0, fun j => ?_, fun j hj => ?_, ?_⟩
    · have := hkx j
      show (if j < Nat.min kn 4 then (xs.getD j 0).toNat else 0) ≤ 255
      split <;> omega
    · rw [Nat.zero_add]
      by_cases h0 : Nat.min kn 4 = 0
      · rw [if_pos h0, wcell_of hnew]
        have : ¬ (j < Nat.min kn 4) := by omega
        dsimp only
        rw [if_neg this]
        simp [hj]
      · rw [if_neg h0, wcell_of (put_same (blk_lt hnew))]
        have hle : Nat.min kn 4 ≤ 4 := Nat.min_le_right _ _
        dsimp only
        rw [setRow_get _ _ _ _ (by simpa using hle)]
        by_cases hjm : j < Nat.min kn 4
        · rw [if_pos (by simp; omega), List.getElem?_ofFn]
          have hx := hkx j
          simp only [Nat.sub_zero]
          rw [dif_pos hjm, if_pos hjm]
          congr 2
          omega
        · rw [if_neg (by simp; omega), if_neg hjm]
          simp [hj]
    · split
      · exact Kept.refl _ _
      · exact (Kept.refl (fun j => j = kb) wA).put (b := kb) (fun _ => rfl) _
  generalize (if Nat.min kn 4 = 0 then wA else put wA kb (.cells (setRow (Array.replicate 4 (Value.int .u8 0)) 0 (List.ofFn (n := Nat.min kn 4) fun j => Value.int .u8 (xs.getD j.val 0))) 5 (0, 0))) = wB at hkc4 hkB ⊢
  clear hcopy
  have hkey := keyAt4 (c := 4) hxk hkc4
  generalize hKK : key4 xk = K at hkey
  have hK4 : K.size = 4 := by rw [← hKK]; rfl
  have hMpB := hMpA.other hkB (fun j hj => by subst hj; exact ⟨fun hc => by have := hown1 _ hc; omega, by omega⟩)
  have hsB := hkB.size
  simp
  refine W_call0 (by simp) (maps_ret wB) ?_
  rintro v wC ⟨rfl, hkC⟩
  have hMpC := hMpB.calm hkC
  have hsC := hkC.size
  have hkeyC := hkey.same (w' := wC) kb 0 4 (by rw [hK4]) (hkC.block kb (by omega) (fun h => h))
  simp
  refine W_yes (by simp) ?_
  simp
  refine W_yes (by simp) ?_
  have hp9 := hp_new wC (.cells #[.int .u8 1] 5)
  have hkD : Kept none' wC (wC.alloc (.cells #[.int .u8 1] 5)) := (Kept.refl _ _).alloc _
  have hMpD := hMpC.calm hkD
  have hsD : (wC.alloc (.cells #[.int .u8 1] 5)).heap.size = wC.heap.size + 1 := by simp
  have hkeyD := hkeyC.same (w' := wC.alloc (.cells #[.int .u8 1] 5)) kb 0 4 (by rw [hK4]) (hkD.block kb (by omega) (fun h => h))
  generalize wC.alloc (.cells #[.int .u8 1] 5) = wD at hp9 hkD hMpD hsD hkeyD ⊢
  have hu := update_ret b (newM 1 4 1 4) _ K wC.heap.size 0 1 (fun _ => 1) 0 wD hMpD.map hkeyD (by decide) (by decide) (by decide) (by rw [hK4]; rfl) (by decide) rfl (by decide) (by decide) (by decide) (by omega)
    (fun j hj => by have : j = 0 := by (have : (newM 1 4 1 4).vs = 1 := rfl); omega
                    subst this; rw [wcell_of hp9]; rfl) (fun j => by omega) ⟨by omega, fun ho => by have := hown1 _ ho; omega⟩ ⟨kb, 0, 4, by rw [hK4], by omega, fun ho => by have := hown1 _ ho; omega⟩
  refine W_call0 (by simp [newM]) hu ?_
  clear hu
  rintro v wE (⟨i, e, hi, _⟩ | ⟨_, ⟨q, _⟩ | ⟨_, q, _⟩ | ⟨_, _, q, _⟩ | ⟨_, _, rfl, hkE, lo, L', a, hlo, hak, hav, hau, hf1, hf2, hf3, hL', hmE⟩⟩)
  · simp [newM] at hi
  · exact absurd q (by decide)
  · exact absurd q (by decide)
  · exact absurd (by decide) q
  have hlo' : lo = [] := by
    rcases hlo with ⟨_, rfl⟩ | ⟨_, q, _⟩
    · rfl
    · exact absurd q (by decide)
  subst hlo'
  have hMpE := hMpD.pushed (lo := []) hkE (fun c hc => by cases hc) hf1 hf2 hf3 hL' hmE
  have hkout : ∀ j, j < wD.heap.size → ¬ BMap.own (newM 1 4 1 4) b j → ¬ BMap.own { newM 1 4 1 4 with clock := (newM 1 4 1 4).clock + 1, L := L', l := [] ++ [a] } b j := fun j hj hn hc => hn (out_pushed (M := newM 1 4 1 4) (fun c hc => by cases hc) hf1 hf2 hf3 hL' j hj hc)
  have hS : CeSt w wE b kb K { newM 1 4 1 4 with clock := (newM 1 4 1 4).clock + 1, L := L', l := [] ++ [a] } a 1 :=
    ⟨hMpE, rfl, rfl, rfl, rfl, rfl, rfl, hak, hkeyD.same kb 0 4 (by rw [hK4]) (hkE.block kb (by omega) (fun ho => by have := hown1 _ ho; omega)), hkout kb (by omega) (fun ho => by have := hown1 _ ho; omega), by have := hkE.size; omega, by show (0 : Int) + 1 ≤ 1; omega⟩
  generalize ({ newM 1 4 1 4 with clock := (newM 1 4 1 4).clock + 1, L := L', l := [] ++ [a] } : BMap) = M at hS
  simp
  refine W_no (by simp) ?_
  simp
  refine W_call0 (by simp) (cell_ret b M _ K wE hS.mp.map hS.ka (by rw [hS.ty]; decide) (by rw [hS.ty]; decide) (by rw [hS.ty]; decide) (by rw [hS.ks, hK4]; rfl) (by have := hS.clock; omega)) ?_
  rintro v wF (⟨i, e, hi, hek, rfl, hkF, hmF⟩ | ⟨hno, _, _⟩)
  rotate_left
  · exact absurd hS.key (hno a (by rw [hS.one]; simp))
  obtain ⟨rfl, rfl⟩ := hS.only hi
  have hSF := hS.used hK4 hkF hmF
  clear hi hek
  generalize hcb : e.cb = cb
  have hcbF : ({ e with used := M.clock + 1 } : BEnt).cb = cb := hcb
  generalize ({ e with used := M.clock + 1 } : BEnt) = eF at hSF hcbF
  generalize usedM M 0 e = MF at hSF
  simp
  refine W_no (by simp) ?_
  simp
  refine W_loop (fun env w' => ∃ (i : Nat) (M : BMap) (e : BEnt), env = [undef, .slice fa fn fc, undef, undef, .pointer (some ⟨b, 0, none⟩), undef, undef, .slice (some ⟨kb, 0, none⟩) 4 4, undef, undef, undef, undef, .pointer (some ⟨cb, 0, none⟩), undef, .int .i64 i, undef, undef, undef, undef, undef, undef, undef, undef, undef, undef] ∧ i ≤ 20 ∧ e.cb = cb ∧ CeSt w w' b kb K M e (2 * i + 2)) (fun env _ => 20 - natAt env 14) ?_ ?_
  · exact ⟨0, MF, eF, by simp, by omega, hcbF, by simpa using hSF⟩
  rintro env w3 ⟨i, M, e, rfl, hi, hce, hS⟩
  by_cases hgo : i < fn ∧ i < 20
  · simp
    refine W_yes (by simp; omega) ?_
    obtain ⟨fb, fo, rfl, hfcells⟩ := hfrow.resolve_left (by omega)
    have hx := wcell_kept hS.mp.kept (fun h => h) (hfcells i hgo.1)
    have hfb := wcell_lt (hfcells i hgo.1)
    have hxr := hfx i
    generalize ys.getD i 0 = x at hx hxr
    have hSd := hS.calm (Kept.refl none' w3).drew hK4
    have hxd : wcell w3.drew fb (fo + i) = some (.int .u8 x) := hx
    have e1 : IntKind.i64.wrap ((i : Int) + 1) = ((i + 1 : Nat) : Int) := i64w (by omega) (by omega)
    have b1 : ¬ (fc = i) := by omega
    have b2 : (i : Int) + 1 ≤ fc := by omega
    have b4 : ((i : Int) + 1).toNat - i = 1 := by omega
    have b5 : (i : Int) ≤ i + 1 := by omega
    have hck := hS.clock
    have hfo : ¬ M.own b fb := fun hc => by have := hS.mp.low fb hc; omega
    simp
    generalize w3.drew = w4 at hSd hxd ⊢
    have hup := update_ret b M _ K fb (fo + i) (fc - i) (fun _ => x) 0 w4 hSd.mp.map hSd.ka (by rw [hS.ty]; decide) (by rw [hS.ty]; decide) (by rw [hS.ty]; decide) (by rw [hS.ks, hK4]; rfl) (by omega) hS.fr (by rw [hS.cap]; decide) (by rw [hS.vs]; decide) (by rw [hS.one]; simp) (by omega)
      (fun j hj => by
        have : j = 0 := by rw [hS.vs] at hj; omega
        subst this; exact hxd) (fun _ => hxr) ⟨by have := hSd.mp.kept.size; omega, hfo⟩ ⟨kb, 0, 4, by rw [hK4], hSd.klt, hSd.kout⟩
    rw [hS.vs] at hup
    refine W_call0 (by simp [e1, b1, b2, b4, b5]) hup ?_
    clear hup
    rintro r w5 (⟨i', e', hi', hek, ⟨q, _⟩ | ⟨_, rfl, hk5, hm5⟩⟩ | ⟨hno, _⟩)
    · exact absurd q (by decide)
    rotate_left
    · exact absurd hS.key (hno e (by rw [hS.one]; simp))
    obtain ⟨rfl, rfl⟩ := hS.only hi'
    have hS5 := hSd.written hK4 hk5 hm5
    have hx5 : wcell w5 fb (fo + i) = some (.int .u8 x) := wcell_kept hk5 hfo hxd
    have hce5 : ({ e' with used := M.clock + 1, val := fun _ => x } : BEnt).cb = cb := hce
    have hv5 : ({ e' with used := M.clock + 1, val := fun _ => x } : BEnt).val 0 = x := rfl
    clear hi' hek hk5 hm5
    generalize ({ e' with used := M.clock + 1, val := fun _ => x } : BEnt) = e5 at hS5 hce5 hv5
    generalize writtenM M 0 e' (fun _ => x) = M5 at hS5
    obtain ⟨c5, hcc5, hc51, hcv5⟩ := hS5.cell
    rw [hce5] at hcc5
    rw [hv5] at hcv5
    simp
    refine W_no (by simp [hcc5, hcv5, hx5, hgo.1]) ?_
    have hS6 := hS5.calm (Kept.refl none' w5).drew hK4
    have hcc6 : wcell w5.drew cb 0 = _ := hcc5
    have hx6 : wcell w5.drew fb (fo + i) = _ := hx5
    obtain ⟨y0, y1⟩ := bitXor_range x
    obtain ⟨w7, hst, hk7, hm7⟩ := hS6.mp.map.poke hS6.one hS6.vs ⟨y0, y1⟩
    simp
    generalize w5.drew = w6 at hS6 hcc6 hx6 hst hk7 ⊢
    refine W_store (by simp [hcc6]) (by simp [hx6, hgo.1]) hst (stab_nil _ _ _) ?_
    have hS7 := hS6.poked hK4 hk7 hm7
    have hx7 : wcell w7 fb (fo + i) = some (.int .u8 x) := wcell_kept hk7 (fun q => by
      have := hS6.mp.low fb (.inr (.inr ⟨e5, by rw [hS6.one]; simp, .inr (.inr q)⟩)); omega) hx6
    have hv7 : ({ e5 with val := fun _ => bitXor .u8 x 7 } : BEnt).val 0 = bitXor .u8 x 7 := rfl
    have hce7 : ({ e5 with val := fun _ => bitXor .u8 x 7 } : BEnt).cb = cb := hce5
    generalize ({ e5 with val := fun _ => bitXor .u8 x 7 } : BEnt) = e7 at hS7 hv7 hce7
    generalize ({ M5 with l := [e7] } : BMap) = M7 at hS7
    simp
    refine W_call0 (by simp) (lookup_ret b M7 _ K w7 hS7.mp.map hS7.ka (by rw [hS7.ty]; decide) (by rw [hS7.ty]; decide) (by rw [hS7.ty]; decide) (by rw [hS7.ks, hK4]; rfl) (by have := hS7.clock; omega) (by rw [hS7.vs]; decide)) ?_
    rintro r w8 (⟨i', e', nb, c, hi', hek, rfl, hc, hnb, hby, hk8, hm8⟩ | ⟨hno, _, _⟩)
    rotate_left
    · exact absurd hS7.key (hno e7 (by rw [hS7.one]; simp))
    obtain ⟨rfl, rfl⟩ := hS7.only hi'
    have hS8 := hS7.used hK4 hk8 hm8
    have hb0 := hby 0 (by rw [hS7.vs]; omega)
    rw [hv7] at hb0
    rw [hS7.vs]
    have hx8 : wcell w8 fb (fo + i) = some (.int .u8 x) := wcell_kept hk8 (fun q => by have := hS7.mp.low fb (own_ent hS7.get q); omega) hx7
    have hS9 := hS8.calm (Kept.refl none' w8).drew hK4
    have hb9 : wcell w8.drew nb 0 = _ := hb0
    have hx9 : wcell w8.drew fb (fo + i) = _ := hx8
    simp
    generalize w8.drew = w9 at hS9 hb9 hx9 ⊢
    refine W_no (by simp [hb9, hx9, hgo.1]) ?_
    simp
    refine ⟨⟨i + 1, e1, by omega, usedM M7 0 e', { e' with used := M7.clock + 1 }, hce7, ?_⟩, by simp [natAt, e1]; omega⟩
    exact { hS9 with clock := by have := hS9.clock; omega }
  · simp
    refine W_no (by simp; omega) ?_
    simp
    have hck := hS.clock
    refine W_call0 (by simp) (mapdelete_ret b M _ K w3 hS.mp.map hS.ka (by rw [hS.ty]; decide) (by rw [hS.ty]; decide) (by rw [hS.ty]; decide) (by rw [hS.ty]; decide) (by rw [hS.ks, hK4]; rfl) hS.fr) ?_
    rintro r w4 (⟨i', e', L4, hi', hek, rfl, hk4, hL4, hm4⟩ | ⟨hno, _, _⟩)
    rotate_left
    · exact absurd hS.key (hno e (by rw [hS.one]; simp))
    obtain ⟨rfl, rfl⟩ := hS.only hi'
    obtain ⟨c3, hcc3, hc31, hcv3⟩ := hS.cell
    have hM := hS.mp.map
    have hE := hM.mem hS.get
    obtain ⟨c0, hc0, hcell⟩ := hE.cell
    obtain ⟨cs, hval, hv1, hv2⟩ := hE.val
    rw [hS.vs] at hcell hv1
    have hrow : ∀ {j : Nat} {c : Array Value} {T : TypeId} {f : Nat × Nat}, w3.heap[j]? = some (.cells c T f) → T ≠ 106 → T ≠ 105 → ¬ (j = b ∨ M.L.ownBlock = some j) := by
      intro j c T f hj hT hT2 ho
      rcases ho with ho | ho
      · exact heap_ne hj hM.blk hT2 ho
      · rcases hM.row with ⟨hL, _⟩ | ⟨g, cap, cur, hL, hg, _⟩
        · rw [hL] at ho; simp [Value.ownBlock] at ho
        · rw [hL] at ho
          simp [Value.ownBlock] at ho
          subst ho
          exact heap_ne hj hg hT rfl
    have hcell4 := hk4.has hcell (hrow hcell (by decide) (by decide))
    have hval4 := hk4.has hval (hrow hval (by decide) (by decide))
    have herase : M.l.eraseIdx 0 = [] := by rw [hS.one]; rfl
    rw [herase] at hm4
    have hk4' : Kept (M.own b) w3 w4 := hk4.mono fun j _ hj => by
      rcases hj with hj | hj
      · exact .inl hj
      · exact .inr (.inl hj)
    have hout4 : ∀ j, BMap.own { M with L := L4, l := [] } b j → M.own b j := by
      rintro j (hj | hj | ⟨a, ha, _⟩)
      · exact .inl hj
      · exact .inr (.inl (by rw [← hL4]; exact hj))
      · cases ha
    have hMp4 := hS.mp.step hk4' hm4 fun j hj => .inl (hout4 j hj)
    have hka4 := hS.ka.same (w' := w4) kb 0 4 (by rw [hK4]) (hk4'.block kb hS.klt hS.kout)
    have hs4 := hk4.size
    have hklt := hS.klt
    have hkout4 : ¬ BMap.own { M with L := L4, l := [] } b kb := fun hc => hS.kout (hout4 kb hc)
    have hcn4 : ¬ BMap.own { M with L := L4, l := [] } b e'.cb := by
      rintro (hj | hj | ⟨a, ha, _⟩)
      · exact hrow hcell (by decide) (by decide) (.inl hj)
      · exact hrow hcell (by decide) (by decide) (.inr (by rw [← hL4]; exact hj))
      · cases ha
    have hvn4 : ¬ BMap.own { M with L := L4, l := [] } b e'.vb := by
      rintro (hj | hj | ⟨a, ha, _⟩)
      · exact hrow hval (by decide) (by decide) (.inl hj)
      · exact hrow hval (by decide) (by decide) (.inr (by rw [← hL4]; exact hj))
      · cases ha
    have hlowv := hS.mp.low e'.vb (.inr (.inr ⟨e', by rw [hS.one]; simp, .inr (.inr rfl)⟩))
    have hty := hS.ty
    have hks := hS.ks
    have hvs := hS.vs
    have hcap := hS.cap
    have hfr := hS.fr
    simp
    refine W_yes (by simp) ?_
    simp
    refine W_yes (by simp) ?_
    have hp20 := hp_new w4 (.cells #[.int .u8 9] 5)
    have hk5 : Kept none' w4 (w4.alloc (.cells #[.int .u8 9] 5)) := (Kept.refl _ _).alloc _
    have hMp5 := hMp4.calm hk5
    have hs5 : (w4.alloc (.cells #[.int .u8 9] 5)).heap.size = w4.heap.size + 1 := by simp
    have hka5 := hka4.same (w' := w4.alloc (.cells #[.int .u8 9] 5)) kb 0 4 (by rw [hK4]) (hk5.block kb (by omega) (fun h => h))
    have hown4 : ∀ j, BMap.own { M with L := L4, l := [] } b j → j < w4.heap.size := fun j hj => hMp4.lt hj
    have hcell5 := hk5.has hcell4 (fun h => h)
    have hval5 := hk5.has hval4 (fun h => h)
    generalize w4.alloc (.cells #[.int .u8 9] 5) = w5 at hp20 hk5 hMp5 hs5 hka5 hcell5 hval5 ⊢
    have hup := update_ret b { M with L := L4, l := [] } _ K w4.heap.size 0 1 (fun _ => 9) 1 w5 hMp5.map hka5 (by show M.ty ≠ 5; omega) (by show M.ty ≠ 3; omega) (by show M.ty ≠ 4; omega) (by rw [hK4]; exact hks.symm) (by show M.clock + 1 ≤ 1000000; omega) hfr (by show 0 < M.cap; omega) (by show M.vs ≤ 1000; omega) (by simp) (by omega)
      (fun j hj => by
        have : j = 0 := by (have : j < M.vs := hj); omega
        subst this; rw [wcell_of hp20]; rfl) (fun j => by omega) ⟨by omega, fun ho => by have := hown4 _ ho; omega⟩ ⟨kb, 0, 4, by rw [hK4], by omega, hkout4⟩
    refine W_call0 (by simp [hvs]) hup ?_
    clear hup
    rintro r w6 (⟨i, e, hi, _⟩ | ⟨_, ⟨q, _⟩ | ⟨_, q, _⟩ | ⟨_, _, q, _⟩ | ⟨_, _, rfl, hk6, lo, L6, a, hlo, hak, hav, hau, hf1, hf2, hf3, hL6, hm6⟩⟩)
    · simp at hi
    · exact absurd q (by show M.ty ≠ 0; omega)
    · exact absurd q (by decide)
    · exact absurd (by show (0 : Int) < M.cap; omega) q
    have hlo' : lo = [] := by
      rcases hlo with ⟨_, rfl⟩ | ⟨q, _⟩
      · rfl
      · exact absurd (by show (0 : Int) < M.cap; omega) q
    subst hlo'
    have hMp6 := hMp5.pushed (lo := []) hk6 (fun c hc => by cases hc) hf1 hf2 hf3 hL6 hm6
    have hout6 : Out { M with L := L4, l := [] } { M with L := L6, l := [] ++ [a], clock := M.clock + 1 } b w5 := out_pushed (M := { M with L := L4, l := [] }) (fun c hc => by cases hc) hf1 hf2 hf3 hL6
    have hcell6 := hk6.has hcell5 hcn4
    have hval6 := hk6.has hval5 hvn4
    have hvlt := blk_lt hval5
    have hclt := blk_lt hcell5
    have hka6 := hka5.same (w' := w6) kb 0 4 (by rw [hK4]) (hk6.block kb (by omega) hkout4)
    simp
    refine W_no (by simp) ?_
    have hst : stv w6 1 (.pointer (some ⟨e'.vb, 0, none⟩)) (.int .u8 5) = some (put w6 e'.vb (.cells (cs.setIfInBounds 0 (.int .u8 5)) 5 (0, 0))) := by
      rw [stv_of (n := 1) (v := .int .u8 5) hval6 rfl (by omega) (.inl (by simp)) (by simp [Value.oneCell'])]
      simp
    rw [← hce]
    simp
    refine W_store (by simp [wcell_of hcell6]) (by simp) hst (stab_nil _ _ _) ?_
    have hk7 : Kept (fun j => j = e'.vb) w6 (put w6 e'.vb (.cells (cs.setIfInBounds 0 (.int .u8 5)) 5 (0, 0))) := (Kept.refl (fun j => j = e'.vb) w6).put (b := e'.vb) (fun _ => rfl) _
    have hMp7 := hMp6.other hk7 (fun j hj => by subst hj; exact ⟨fun hc => hvn4 (hout6 _ hvlt hc), hlowv⟩)
    have hka7 := hka6.same (w' := put w6 e'.vb (.cells (cs.setIfInBounds 0 (.int .u8 5)) 5 (0, 0))) kb 0 4 (by rw [hK4]) (hk7.block kb (by have := hk6.size; omega) (fun q => hS.kout (.inr (.inr ⟨e', by rw [hS.one]; simp, .inr (.inr q)⟩))))
    generalize put w6 e'.vb (.cells (cs.setIfInBounds 0 (.int .u8 5)) 5 (0, 0)) = w7 at hk7 hMp7 hka7 ⊢
    simp
    refine W_call0 (by simp) (lookup_ret b _ _ K w7 hMp7.map hka7 (by show M.ty ≠ 5; omega) (by show M.ty ≠ 3; omega) (by show M.ty ≠ 4; omega) (by rw [hK4]; exact hks.symm) (by show M.clock + 1 + 1 ≤ 1000000; omega) (by show M.vs ≤ 1000; omega)) ?_
    rintro r w8 (⟨i', e8, nb, c, hi', hek, rfl, hc, hnb, hby, hk8, hm8⟩ | ⟨hno, _, _⟩)
    rotate_left
    · exact absurd hak (hno a (by simp))
    obtain rfl : e8 = a := by have := List.mem_of_getElem? hi'; simpa using this
    have hb0 := hby 0 (by show 0 < M.vs; omega)
    rw [hav] at hb0
    have hM8 := hMp7.used hi' hk8 hm8
    simp [hvs, hb0]
    exact hM8.kept
end Go.Proofs.Ytihaopoehhnbkaa
