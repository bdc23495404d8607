/- Layer 20: bytes read and written at once by a machine with maps. -/
import Derived.Test.YtmfgdbapankamaaGreatGr25
import Derived.Test.YtmfgdbapankamaaGreatGr4
import Derived.Test.YtmfgdbapankamaaGreatProg
set_option linter.unusedSimpArgs false
set_option linter.unusedVariables false
set_option maxRecDepth 8000
namespace Go.Proofs.YtmfgdbapankamaaGreat
open Go.Eng
def bytesL (f : Nat → Int) (n : Nat) : List Nat := (List.range n).map fun j => (f j).toNat
@[simp] theorem bytesL_len (f : Nat → Int) (n : Nat) : (bytesL f n).length = n := by simp [bytesL]
theorem bytesL_get {f : Nat → Int} (hf : ∀ j, 0 ≤ f j ∧ f j ≤ 255) {n j x : Nat} (h : (bytesL f n)[j]? = some x) : j < n ∧ f j = (x : Nat) := by
  have hlt := (List.getElem?_eq_some_iff.1 h).1
  rw [bytesL_len] at hlt
  refine ⟨hlt, ?_⟩
  unfold bytesL at h
  rw [List.getElem?_map, List.getElem?_range hlt] at h
  simp at h
  have := hf j
  omega
theorem bytesL_le {f : Nat → Int} (hf : ∀ j, 0 ≤ f j ∧ f j ≤ 255) {n : Nat} : ∀ x ∈ bytesL f n, x ≤ 255 := by
  intro x hx
  obtain ⟨j, hj⟩ := List.mem_iff_getElem?.1 hx
  have := (bytesL_get hf hj).2
  have := hf j
  omega
def cellOf (G : GSt) (a : RVal) : Option XCell := a.cell.bind fun p => G.cs[p.block]?
noncomputable def gbytesOf (G : GSt) (a : RVal) (n : Nat) : Option (List Nat) :=
  open Classical in
  if a.tag = 2 then (if 0 ≤ IntKind.i64.wrap a.n ∧ IntKind.i64.wrap a.n + n ≤ 32 then some (bytesL (fun j => G.m.ctx ((IntKind.i64.wrap a.n).toNat + j)) n) else none)
  else if a.tag = 3 then (if bytesOkS G.m (IntKind.i64.wrap a.n) n = true then some (bytesL (fun j => G.m.stack ((IntKind.i64.wrap a.n + 64).toNat + j)) n) else none)
  else if a.tag = 5 then match cellOf G a with
    | none => none
    | some c => if 0 ≤ IntKind.i64.wrap a.n ∧ IntKind.i64.wrap a.n + n ≤ vsOf G.ms c.slot then some (bytesL (fun j => c.val ((IntKind.i64.wrap a.n).toNat + j)) n) else none
  else none
def BytP (w : World) (n : Nat) (o : Option (List Nat)) (v : Value) (w' : World) : Prop :=
  match o with
  | some l => l.length = n ∧ (∀ x ∈ l, x ≤ 255) ∧ ∃ nb c, v = .tuple #[.slice (some ⟨nb, 0, none⟩) n c, .int .i64 0] ∧ n ≤ c ∧ w.heap.size ≤ nb ∧ ∀ (j x : Nat), l[j]? = some x → wcell w' nb j = some (.int .u8 x)
  | none => v = .tuple #[.slice none 0 0, .int .i64 14]
theorem byt_some {w w' : World} {n nb c : Nat} {f : Nat → Int} (hf : ∀ j, 0 ≤ f j ∧ f j ≤ 255) (h1 : n ≤ c) (h2 : w.heap.size ≤ nb) (h3 : ∀ j, j < n → wcell w' nb j = some (.int .u8 (f j))) : BytP w n (some (bytesL f n)) (.tuple #[.slice (some ⟨nb, 0, none⟩) n c, .int .i64 0]) w' :=
  ⟨by simp, bytesL_le hf, nb, c, rfl, h1, h2, fun j x hj => by
    obtain ⟨g1, g2⟩ := bytesL_get hf hj
    rw [← g2]
    exact h3 j g1⟩
theorem view_no (b : Nat) (a : RVal) (n : Nat) (w : World) (h2 : a.tag ≠ 2) (h3 : a.tag ≠ 3) (h5 : a.tag ≠ 5) (hn : n ≤ 64) :
    Ret Tryz.prog 80 [.pointer (some ⟨b, 0, none⟩), a.val, .int .i64 0, .int .i64 n] w fun v w' => Kept none' w w' ∧ v = .tuple #[.slice none 0 0, .int .i64 0, .bool false] :=
  view_none b a 0 n w h2 h3 h5
theorem addr_if (q base cap f n : Nat) (h : f + n ≤ cap) : ∃ o, (if cap = f then (⟨q, base, none⟩ : Addr) else ⟨q, base + f, none⟩) = ⟨q, o, none⟩ ∧ (0 < n → o = base + f) := by
  by_cases hc : cap = f
  · exact ⟨base, if_pos hc, fun h => by omega⟩
  · exact ⟨base + f, if_neg hc, fun _ => rfl⟩
section
variable {w : World} {b : Nat} {k : VK} {N : Names} {mv : Value} {G : GSt}
theorem gbytes_ret (h : GAt w b k N mv G) (ok : GOk G) {a : RVal} (ha : VOk G.cs a) {n : Nat} (hn : n ≤ 64) :
    Ret Tryz.prog 99 [.pointer (some ⟨k.bm, 0, none⟩), (a.ren N.cb).val, .int .i64 n] w fun v w' => Kept none' w w' ∧ BytP w n (gbytesOf G a n) v w' := by
  unfold gbytesOf
  by_cases h2 : a.tag = 2
  · rw [if_pos h2]
    have hmem := h.mem
    refine (bytes_other k.bm (a.ren N.cb) n (fun j => G.m.ctx ((IntKind.i64.wrap a.n).toNat + j)) (decide (0 ≤ IntKind.i64.wrap a.n ∧ IntKind.i64.wrap a.n + n ≤ 32)) w (by rw [ren_tag]; omega) hn (fun w' hk => ?_)).mono fun v w' hv => ⟨hv.1, ?_⟩
    · refine (view_ctx k.bm (a.ren N.cb) 0 n w' h2 (by omega) (by omega) (by omega) (by omega)).mono fun r w2 hr => ⟨hr.1, ?_⟩
      have hr2 := hr.2
      simp only [ren_n, Int.add_zero] at hr2
      by_cases hin : 0 ≤ IntKind.i64.wrap a.n ∧ IntKind.i64.wrap a.n + n ≤ 32
      · rw [if_pos hin] at hr2
        rw [if_pos (by simpa using hin)]
        obtain ⟨f, hf, rfl⟩ := hr2
        have hm2 := hr.1.has (hk.has hmem fun h => h) fun h => h
        obtain ⟨o, ho, ho2⟩ := addr_if k.bm 0 32 f n (by omega)
        refine ⟨k.bm, o, 32 - f, f, by rw [ho]; rfl, by omega, fun j hj => ?_⟩
        rw [ho2 (by omega), wcell_of hm2, show 0 + f + j = (IntKind.i64.wrap a.n).toNat + j by omega, mem_ctx _ _ (by omega)]
        rfl
      · rw [if_neg hin] at hr2
        rw [if_neg (by simpa using hin)]
        exact hr2
    · have hv2 := hv.2
      by_cases hin : 0 ≤ IntKind.i64.wrap a.n ∧ IntKind.i64.wrap a.n + n ≤ 32
      · rw [if_pos (by simpa using hin)] at hv2
        rw [if_pos hin]
        obtain ⟨nb, c, rfl, g1, g2, g3⟩ := hv2
        exact byt_some (fun j => ok.bytes.2 _) g1 g2 g3
      · rw [if_neg (by simpa using hin)] at hv2
        rw [if_neg hin]
        exact hv2
  rw [if_neg h2]
  by_cases h3 : a.tag = 3
  · rw [if_pos h3]
    refine (bytes_ret k.bm _ (a.ren N.cb) n w h.mem h3 (by omega)).mono fun v w' hv => ⟨hv.1, ?_⟩
    have hv2 := hv.2
    have hb : bytesOkS (G.m.ren N.cb mv) (IntKind.i64.wrap (a.ren N.cb).n) n = bytesOkS G.m (IntKind.i64.wrap a.n) n := rfl
    rw [hb] at hv2
    cases hq : bytesOkS G.m (IntKind.i64.wrap a.n) n with
    | true =>
      rw [hq, if_pos rfl] at hv2
      rw [if_pos rfl]
      obtain ⟨nb, c, rfl, g1, g2, g3⟩ := hv2
      rw [Int.toNat_natCast] at *
      exact byt_some (fun j => ok.bytes.1 _) g1 g2 g3
    | false =>
      rw [hq, if_neg (by simp)] at hv2
      rw [if_neg (by simp)]
      exact hv2
  rw [if_neg h3]
  by_cases h5 : a.tag = 5
  · rw [if_pos h5]
    obtain ⟨id, c, h1, hc, hs⟩ := ha.five h5
    obtain ⟨hsl, hcell⟩ := h.placed.cell id c hc
    obtain ⟨cap, hbox⟩ := hcell.box
    have hcl : (a.ren N.cb).cell = some ⟨N.cb id, 0, none⟩ := by unfold RVal.ren; rw [h1]; rfl
    have hco : cellOf G a = some c := by unfold cellOf; rw [h1]; exact hc
    rw [hco]
    simp only
    have hVs := vs_small ok.maps c.slot
    refine (bytes_other k.bm (a.ren N.cb) n (fun j => c.val ((IntKind.i64.wrap a.n).toNat + j)) (decide (0 ≤ IntKind.i64.wrap a.n ∧ IntKind.i64.wrap a.n + n ≤ vsOf G.ms c.slot)) w (by rw [ren_tag]; omega) hn (fun w' hk => ?_)).mono fun v w' hv => ⟨hv.1, ?_⟩
    · refine (view_cell k.bm (N.cb id) (N.vb id) (vsOf G.ms c.slot) cap (a.ren N.cb) 0 n w' h5 hcl ⟨hbox.1, hk.has hbox.2 (fun h => h)⟩ (by omega) (by omega) (by omega) (by omega) (by omega)).mono fun r w2 hr => ⟨hr.1, ?_⟩
      have hr2 := hr.2
      simp only [ren_n, Int.add_zero] at hr2
      by_cases hin : 0 ≤ IntKind.i64.wrap a.n ∧ IntKind.i64.wrap a.n + n ≤ vsOf G.ms c.slot
      · rw [if_pos hin] at hr2
        rw [if_pos (by simpa using hin)]
        obtain ⟨f, hf, rfl⟩ := hr2
        obtain ⟨us, hu1, hu2, hu3⟩ := VBytes.keep (VBytes.keep hcell.val hk fun h => h) hr.1 fun h => h
        have hcap := hbox.1
        obtain ⟨o, ho, ho2⟩ := addr_if (N.vb id) 0 cap f n (by omega)
        refine ⟨N.vb id, o, cap - f, f, by rw [ho]; rfl, by omega, fun j hj => ?_⟩
        rw [ho2 (by omega), wcell_of hu1, show 0 + f + j = (IntKind.i64.wrap a.n).toNat + j by omega]
        exact hu3 _ (by omega)
      · rw [if_neg hin] at hr2
        rw [if_neg (by simpa using hin)]
        exact hr2
    · have hv2 := hv.2
      by_cases hin : 0 ≤ IntKind.i64.wrap a.n ∧ IntKind.i64.wrap a.n + n ≤ vsOf G.ms c.slot
      · rw [if_pos (by simpa using hin)] at hv2
        rw [if_pos hin]
        obtain ⟨nb, c', rfl, g1, g2, g3⟩ := hv2
        exact byt_some (fun j => hcell.byte _) g1 g2 g3
      · rw [if_neg (by simpa using hin)] at hv2
        rw [if_neg hin]
        exact hv2
  rw [if_neg h5]
  refine (bytes_other k.bm (a.ren N.cb) n (fun _ => 0) false w h3 hn (fun w' hk => ?_)).mono fun v w' hv => ⟨hv.1, ?_⟩
  · refine (view_no k.bm (a.ren N.cb) n w' h2 h3 h5 hn).mono fun r w2 hr => ⟨hr.1, ?_⟩
    rw [if_neg (by simp)]
    exact hr.2
  · have hv2 := hv.2
    rw [if_neg (by simp)] at hv2
    exact hv2
def gfillOf (G : GSt) (a : RVal) (y : Nat → Int) (n : Nat) : GSt × Int :=
  if a.tag = 3 then (if -64 ≤ IntKind.i64.wrap a.n ∧ IntKind.i64.wrap a.n + n ≤ 0 then ({ G with m := fillS G.m (IntKind.i64.wrap a.n + 64).toNat n y }, 0) else (G, 14))
  else if a.tag = 5 then match a.cell with
    | none => (G, 14)
    | some p => match G.cs[p.block]? with
      | none => (G, 14)
      | some c => if frozenX G.ms c.slot = false ∧ 0 ≤ IntKind.i64.wrap a.n ∧ IntKind.i64.wrap a.n + n ≤ vsOf G.ms c.slot then ({ G with cs := G.cs.set p.block { c with val := rowV c.val (IntKind.i64.wrap a.n).toNat n y } }, 0) else (G, 14)
  else (G, 14)
theorem fillS_ren (f : Nat → Nat) (mv : Value) (m : RMem) (i n : Nat) (y : Nat → Int) : fillS (m.ren f mv) i n y = (fillS m i n y).ren f mv := by
  unfold fillS
  have : withRow (m.ren f mv) i (i + n) y = (withRow m i (i + n) y).ren f mv := rfl
  rw [this, mark_ren]
theorem gfill_ret (h : GAt w b k N mv G) (ok : GOk G) {a : RVal} (ha : VOk G.cs a) {n : Nat} (hn : n ≤ 64) {y : Nat → Int} (hyb : ∀ j, 0 ≤ y j ∧ y j ≤ 255) {sb so sc : Nat} (hy : ∀ j, j < n → wcell w sb (so + j) = some (.int .u8 (y j))) :
    Ret Tryz.prog 94 [.pointer (some ⟨k.bm, 0, none⟩), (a.ren N.cb).val, .slice (some ⟨sb, so, none⟩) n sc] w (SavP b k N mv G w (gfillOf G a y n)) := by
  unfold gfillOf
  by_cases h3 : a.tag = 3
  · rw [if_pos h3]
    refine (fill_stack k.bm _ (a.ren N.cb) _ n sc y w h.mem h3 (by omega) (.inr ⟨sb, so, rfl, hy⟩)).mono fun r w' hr => ?_
    obtain ⟨hk, hr⟩ := hr
    rw [ren_n] at hr
    by_cases hin : -64 ≤ IntKind.i64.wrap a.n ∧ IntKind.i64.wrap a.n + n ≤ 0
    · rw [if_pos hin] at hr ⊢
      obtain ⟨rfl, hmm⟩ := hr
      rw [fillS_ren] at hmm
      exact ⟨rfl, N, ⟨hk.has h.mach (fun e => h.ne e.symm), hmm, h.maps.keep hk fun j hj => (h.apart j hj).2.2, h.apart, h.placed.keep hk fun i hi e => h.nm (e ▸ hi), h.low⟩, NExt.refl _ _ _, hk.mono fun j _ hj => .inl hj⟩
    · rw [if_neg hin] at hr ⊢
      obtain ⟨rfl, hmm⟩ := hr
      exact ⟨rfl, N, ⟨hk.has h.mach (fun e => h.ne e.symm), hmm, h.maps.keep hk fun j hj => (h.apart j hj).2.2, h.apart, h.placed.keep hk fun i hi e => h.nm (e ▸ hi), h.low⟩, NExt.refl _ _ _, hk.mono fun j _ hj => .inl hj⟩
  rw [if_neg h3]
  by_cases h5 : a.tag = 5
  · rw [if_pos h5]
    obtain ⟨id, c, h1, hc, hs⟩ := ha.five h5
    obtain ⟨hsl, hcell⟩ := h.placed.cell id c hc
    obtain ⟨cap, hbox⟩ := hcell.box
    have hcl : (a.ren N.cb).cell = some ⟨N.cb id, 0, none⟩ := by unfold RVal.ren; rw [h1]; rfl
    have hA : G.ms[c.slot]? = some G.ms[c.slot] := List.getElem?_eq_getElem hsl
    generalize G.ms[c.slot] = A at hA
    obtain ⟨mb, M, hq, hM, hl⟩ := h.placed.get hA
    have hmap : mapAt (N.mm.map (·.1)) (a.ren N.cb).slot = some mb := by rw [ren_slot, hs]; exact map_at h.placed hq
    have hfz : frozenX G.ms c.slot = M.frozen := by unfold frozenX; rw [hA, hl.frozen]; rfl
    have hVs := vs_small ok.maps c.slot
    rw [h1]
    simp only [hc]
    cases hf : M.frozen with
    | true =>
      rw [if_neg (by rw [hfz, hf]; simp)]
      refine (fill_cell_no k.bm (N.cb id) (N.vb id) (vsOf G.ms c.slot) cap mb n sc _ (G.m.ren N.cb mv) M _ (a.ren N.cb) w h.mem h.maps h5 hcl hmap hM hbox (by omega) hf hn).mono fun r w' hr => ?_
      obtain ⟨rfl, hk⟩ := hr
      exact sav_same h hk 14
    | false =>
      refine (fill_cell k.bm (N.cb id) (N.vb id) (vsOf G.ms c.slot) cap mb (G.m.ren N.cb mv) M _ c.val y (a.ren N.cb) sb so sc n w h.mem h.maps h5 hcl hmap hM hf hbox hcell.val (by omega) hn hy).mono fun r w' hr => ?_
      unfold FilC at hr
      rw [ren_n] at hr
      by_cases hin : 0 ≤ IntKind.i64.wrap a.n ∧ IntKind.i64.wrap a.n + n ≤ vsOf G.ms c.slot
      · rw [if_pos hin] at hr
        rw [if_pos ⟨by rw [hfz, hf], hin⟩]
        obtain ⟨rfl, hk, hvb⟩ := hr
        have hout := h.placed.write hc hk hvb (fun j => by
          unfold rowV
          split
          · exact hyb _
          · exact hcell.byte _)
        obtain ⟨N', g1, g2, g3⟩ := h.outp hout (by rw [List.length_set]; exact Nat.le_refl _) ok.reg ok.kept
        exact ⟨rfl, N', g1, g2, g3.mono fun j _ hj => .inr hj⟩
      · rw [if_neg hin] at hr
        rw [if_neg (fun h => hin h.2)]
        obtain ⟨rfl, hk⟩ := hr
        exact sav_same h hk 14
  rw [if_neg h5]
  refine (fill_no k.bm n sc _ (a.ren N.cb) w hn (fun w' hk => ?_) (fun w' hk => writes_no k.bm (a.ren N.cb) w' h3 h5)).mono fun r w' hr => ?_
  · by_cases h2 : a.tag = 2
    · refine (view_ctx k.bm (a.ren N.cb) 0 n w' h2 (by omega) (by omega) (by omega) (by omega)).mono fun r w2 hr => ⟨hr.1, ?_⟩
      have hr2 := hr.2
      split at hr2
      · rename_i hin
        obtain ⟨f, hf, rfl⟩ := hr2
        obtain ⟨o, ho, _⟩ := addr_if k.bm 0 32 f n (by omega)
        exact .inl ⟨k.bm, o, _, _, f, by rw [ho]⟩
      · exact .inr hr2
    · exact (view_no k.bm (a.ren N.cb) n w' h2 h3 h5 hn).mono fun r w2 hr => ⟨hr.1, .inr hr.2⟩
  · obtain ⟨rfl, hk⟩ := hr
    exact sav_same h hk 14
end
end Go.Proofs.YtmfgdbapankamaaGreat
namespace Go.Proofs.YtmfgdbapankamaaGreat
open Go.Eng
def c_vm_machine_find : Cmd := (.seq (.seq (.new (some 2) 68 (.const (.agg #[(.int .i64 0), (.int .u64 0), (.int .i64 0), (.pointer none)])) []) (.set 3 (.const (.bool false)))) (.seq (.seq (.chk [(.var 0)]) (.seq (.call (some 4) 88 [(.var 1)] []) (.seq (.call (some 5) 87 [(.var 0), (.const (.int .i64 2)), (.part none 1 (.var 4))] []) (.seq (.chk [(.proj 1 (.var 5))]) (.seq (.set 6 (.proj 0 (.var 5))) (.set 7 (.proj 1 (.var 5)))))))) (.seq (.seq (.seq (.chk [(.pick (.un .not (.var 7)) (.const (.bool false)) (.var 1))]) (.cond (.pick (.un .not (.var 7)) (.const (.bool false)) (.const (.bool true))) (.call (some 8) 89 [(.var 1)] []) (.clr [8]))) (.cond (.pick (.un .not (.var 7)) (.const (.bool true)) (.var 8)) (.seq (.seq (.store 4 (.var 2) (.const (.agg #[(.int .i64 0), (.int .u64 0), (.int .i64 0), (.pointer none)])) []) (.set 3 (.const (.bool false)))) .ret) .skip)) (.seq (.seq (.call (some 9) 90 [(.var 1), (.var 6)] []) (.seq (.chk [(.proj 1 (.var 9))]) (.seq (.set 10 (.proj 0 (.var 9))) (.set 11 (.proj 1 (.var 9)))))) (.seq (.cond (.bin .neq (.var 11) (.const (.int .i64 0))) (.seq (.seq (.call (some 12) 57 [(.const (.int .u64 0))] []) (.seq (.store 4 (.var 2) (.var 12) []) (.set 3 (.const (.bool true))))) .ret) .skip) (.seq (.seq (.chk [(.upd 3 1 (.upd 2 1 (.upd 0 1 (.const (.agg #[(.int .i64 0), (.int .u64 0), (.int .i64 0), (.pointer none)])) (.const (.int .i64 5))) (.ld none (.offp 2 (.ixArr 11 4 (.offp 38 (.nn (.var 0))) (.const (.int .i64 1)))))) (.var 10))]) (.seq (.store 4 (.var 2) (.upd 3 1 (.upd 2 1 (.upd 0 1 (.const (.agg #[(.int .i64 0), (.int .u64 0), (.int .i64 0), (.pointer none)])) (.const (.int .i64 5))) (.ld none (.offp 2 (.ixArr 11 4 (.offp 38 (.nn (.var 0))) (.const (.int .i64 1)))))) (.var 10)) []) (.set 3 (.const (.bool true))))) .ret))))))
abbrev v_vm_machine_find : List Nat := [0, 1, 4, 5, 13, 15, 6, 7, 22, 28, 8, 9, 33]
abbrev k_vm_machine_find : List (List Nat) := []
abbrev r_vm_machine_find : List Ex := [(.ld (some 4) (.var 2)), (.var 3)]
theorem ok_vm_machine_find : compile Tryz.prog Tryz.f75 v_vm_machine_find k_vm_machine_find = some (c_vm_machine_find, r_vm_machine_find) := by kernel_rfl
def c_vm_machine_change : Cmd := (.seq (.seq (.new (some 3) 68 (.const (.agg #[(.int .i64 0), (.int .u64 0), (.int .i64 0), (.pointer none)])) []) (.set 4 (.const (.bool false)))) (.seq (.seq (.chk [(.var 0)]) (.seq (.call (some 5) 88 [(.var 2)] []) (.seq (.call (some 6) 87 [(.var 0), (.const (.int .i64 2)), (.part none 1 (.var 5))] []) (.seq (.chk [(.proj 1 (.var 6))]) (.seq (.set 7 (.proj 0 (.var 6))) (.set 8 (.proj 1 (.var 6)))))))) (.seq (.seq (.seq (.chk [(.pick (.un .not (.var 8)) (.const (.bool false)) (.var 2))]) (.seq (.cond (.pick (.un .not (.var 8)) (.const (.bool false)) (.const (.bool true))) (.call (some 9) 89 [(.var 2)] []) (.clr [9])) (.seq (.chk [(.pick (.pick (.un .not (.var 8)) (.const (.bool true)) (.var 9)) (.const (.bool false)) (.var 2))]) (.cond (.pick (.pick (.un .not (.var 8)) (.const (.bool true)) (.var 9)) (.const (.bool false)) (.const (.bool true))) (.call (some 10) 91 [(.var 2)] []) (.clr [10]))))) (.cond (.pick (.pick (.un .not (.var 8)) (.const (.bool true)) (.var 9)) (.const (.bool true)) (.var 10)) (.seq (.seq (.store 4 (.var 3) (.const (.agg #[(.int .i64 0), (.int .u64 0), (.int .i64 0), (.pointer none)])) []) (.set 4 (.const (.bool false)))) .ret) .skip)) (.seq (.cond (.bin .eql (.var 1) (.const (.int .i32 3))) (.seq (.seq (.call (some 11) 93 [(.var 2), (.var 7)] []) (.seq (.call (some 12) 92 [(.var 11)] []) (.seq (.call (some 13) 88 [(.var 2)] []) (.seq (.chk [(.bin .neq (.part none 0 (.var 13)) (.const (.int .i64 0)))]) (.seq (.store 4 (.var 3) (.var 12) []) (.set 4 (.bin .neq (.part none 0 (.var 13)) (.const (.int .i64 0))))))))) .ret) .skip) (.seq (.seq (.chk [(.var 0)]) (.seq (.call (some 14) 88 [(.var 2)] []) (.seq (.call (some 15) 87 [(.var 0), (.const (.int .i64 3)), (.part none 2 (.var 14))] []) (.seq (.chk [(.proj 1 (.var 15))]) (.seq (.set 16 (.proj 0 (.var 15))) (.set 8 (.proj 1 (.var 15)))))))) (.seq (.cond (.pick (.un .not (.var 8)) (.const (.bool true)) (.bin .neq (.ld none (.offp 0 (.ixArr 11 4 (.offp 38 (.nn (.var 0))) (.const (.int .i64 4))))) (.const (.int .i64 1)))) (.seq (.seq (.store 4 (.var 3) (.const (.agg #[(.int .i64 0), (.int .u64 0), (.int .i64 0), (.pointer none)])) []) (.set 4 (.const (.bool false)))) .ret) .skip) (.seq (.seq (.call (some 17) 11 [(.var 2), (.var 7), (.var 16), (.ld none (.offp 1 (.ixArr 11 4 (.offp 38 (.nn (.var 0))) (.const (.int .i64 4)))))] []) (.seq (.call (some 18) 92 [(.var 17)] []) (.seq (.store 4 (.var 3) (.var 18) []) (.set 4 (.const (.bool true)))))) .ret)))))))
abbrev v_vm_machine_change : List Nat := [0, 1, 2, 6, 7, 14, 16, 8, 9, 23, 27, 34, 35, 37, 43, 45, 10, 69, 70]
abbrev k_vm_machine_change : List (List Nat) := []
abbrev r_vm_machine_change : List Ex := [(.ld (some 4) (.var 3)), (.var 4)]
theorem ok_vm_machine_change : compile Tryz.prog Tryz.f76 v_vm_machine_change k_vm_machine_change = some (c_vm_machine_change, r_vm_machine_change) := by kernel_rfl
def c_vm_machine_add : Cmd := (.seq (.seq (.new (some 2) 68 (.const (.agg #[(.int .i64 0), (.int .u64 0), (.int .i64 0), (.pointer none)])) []) (.set 3 (.const (.bool false)))) (.seq (.seq (.chk [(.var 0)]) (.seq (.call (some 4) 88 [(.var 1)] []) (.seq (.call (some 5) 87 [(.var 0), (.const (.int .i64 2)), (.part none 2 (.var 4))] []) (.seq (.chk [(.proj 1 (.var 5))]) (.seq (.set 6 (.proj 0 (.var 5))) (.set 7 (.proj 1 (.var 5)))))))) (.seq (.seq (.seq (.chk [(.pick (.un .not (.var 7)) (.const (.bool false)) (.var 1))]) (.seq (.cond (.pick (.un .not (.var 7)) (.const (.bool false)) (.const (.bool true))) (.call (some 8) 89 [(.var 1)] []) (.clr [8])) (.seq (.chk [(.pick (.pick (.un .not (.var 7)) (.const (.bool true)) (.un .not (.var 8))) (.const (.bool false)) (.var 1))]) (.cond (.pick (.pick (.un .not (.var 7)) (.const (.bool true)) (.un .not (.var 8))) (.const (.bool false)) (.const (.bool true))) (.call (some 9) 91 [(.var 1)] []) (.clr [9]))))) (.cond (.pick (.pick (.pick (.un .not (.var 7)) (.const (.bool true)) (.un .not (.var 8))) (.const (.bool true)) (.var 9)) (.const (.bool true)) (.bin .neq (.ld none (.offp 0 (.ixArr 11 4 (.offp 38 (.nn (.var 0))) (.const (.int .i64 3))))) (.const (.int .i64 1)))) (.seq (.seq (.store 4 (.var 2) (.const (.agg #[(.int .i64 0), (.int .u64 0), (.int .i64 0), (.pointer none)])) []) (.set 3 (.const (.bool false)))) .ret) .skip)) (.seq (.seq (.call (some 10) 13 [(.var 1), (.var 6), (.ld none (.offp 1 (.ixArr 11 4 (.offp 38 (.nn (.var 0))) (.const (.int .i64 3)))))] []) (.seq (.call (some 11) 92 [(.var 10)] []) (.seq (.store 4 (.var 2) (.var 11) []) (.set 3 (.const (.bool true)))))) .ret))))
abbrev v_vm_machine_add : List Nat := [0, 1, 4, 5, 11, 13, 6, 7, 20, 25, 45, 46]
abbrev k_vm_machine_add : List (List Nat) := []
abbrev r_vm_machine_add : List Ex := [(.ld (some 4) (.var 2)), (.var 3)]
theorem ok_vm_machine_add : compile Tryz.prog Tryz.f77 v_vm_machine_add k_vm_machine_add = some (c_vm_machine_add, r_vm_machine_add) := by kernel_rfl
def c_vm_machine_next : Cmd := (.seq (.seq (.new (some 3) 68 (.const (.agg #[(.int .i64 0), (.int .u64 0), (.int .i64 0), (.pointer none)])) []) (.set 4 (.const (.bool false)))) (.seq (.seq (.seq .draw (.seq (.call (some 5) 89 [(.var 2)] []) (.seq (.chk [(.pick (.un .not (.var 5)) (.const (.bool false)) (.pick (.bin .eql (.var 1) (.const (.int .i32 88))) (.var 2) (.const (.bool false))))]) (.seq (.cond (.pick (.un .not (.var 5)) (.const (.bool false)) (.pick (.bin .eql (.var 1) (.const (.int .i32 88))) (.const (.bool true)) (.const (.bool false)))) (.call (some 6) 91 [(.var 2)] []) (.clr [6])) (.seq (.chk [(.pick (.pick (.un .not (.var 5)) (.const (.bool true)) (.pick (.bin .eql (.var 1) (.const (.int .i32 88))) (.var 6) (.const (.bool false)))) (.const (.bool false)) (.offp 37 (.nn (.var 0))))]) (.seq (.cond (.pick (.pick (.un .not (.var 5)) (.const (.bool true)) (.pick (.bin .eql (.var 1) (.const (.int .i32 88))) (.var 6) (.const (.bool false)))) (.const (.bool false)) (.const (.bool true))) (.set 9 (.ld none (.offp 37 (.nn (.var 0))))) (.clr [9])) (.seq (.chk [(.pick (.pick (.un .not (.var 5)) (.const (.bool true)) (.pick (.bin .eql (.var 1) (.const (.int .i32 88))) (.var 6) (.const (.bool false)))) (.const (.bool false)) (.ixArr 11 4 (.offp 38 (.nn (.var 0))) (.const (.int .i64 2))))]) (.seq (.cond (.pick (.pick (.un .not (.var 5)) (.const (.bool true)) (.pick (.bin .eql (.var 1) (.const (.int .i32 88))) (.var 6) (.const (.bool false)))) (.const (.bool false)) (.const (.bool true))) (.set 10 (.ld (some 4) (.ixArr 11 4 (.offp 38 (.nn (.var 0))) (.const (.int .i64 2))))) (.clr [10])) (.seq (.chk [(.pick (.pick (.un .not (.var 5)) (.const (.bool true)) (.pick (.bin .eql (.var 1) (.const (.int .i32 88))) (.var 6) (.const (.bool false)))) (.const (.bool false)) (.var 2))]) (.seq (.cond (.pick (.pick (.un .not (.var 5)) (.const (.bool true)) (.pick (.bin .eql (.var 1) (.const (.int .i32 88))) (.var 6) (.const (.bool false)))) (.const (.bool false)) (.const (.bool true))) (.call (some 7) 88 [(.var 2)] [(.ld (some 4) (.ixArr 11 4 (.offp 38 (.nn (.var 0))) (.const (.int .i64 2)))), (.ld none (.offp 37 (.nn (.var 0))))]) (.clr [7])) (.seq (.chk [(.pick (.pick (.un .not (.var 5)) (.const (.bool true)) (.pick (.bin .eql (.var 1) (.const (.int .i32 88))) (.var 6) (.const (.bool false)))) (.const (.bool false)) (.part none 2 (.var 7)))]) (.seq (.cond (.pick (.pick (.un .not (.var 5)) (.const (.bool true)) (.pick (.bin .eql (.var 1) (.const (.int .i32 88))) (.var 6) (.const (.bool false)))) (.const (.bool false)) (.const (.bool true))) (.sem (some 8) (.mk 51) [(.part none 2 (.var 7)), (.part none 2 (.var 7))] [(.ld (some 4) (.ixArr 11 4 (.offp 38 (.nn (.var 0))) (.const (.int .i64 2)))), (.ld none (.offp 37 (.nn (.var 0))))]) (.clr [8])) (.cond (.pick (.pick (.un .not (.var 5)) (.const (.bool true)) (.pick (.bin .eql (.var 1) (.const (.int .i32 88))) (.var 6) (.const (.bool false)))) (.const (.bool false)) (.const (.bool true))) (.call (some 11) 94 [(.var 9), (.var 10), (.var 8)] []) (.clr [11])))))))))))))) (.cond (.pick (.pick (.un .not (.var 5)) (.const (.bool true)) (.pick (.bin .eql (.var 1) (.const (.int .i32 88))) (.var 6) (.const (.bool false)))) (.const (.bool true)) (.bin .neq (.var 11) (.const (.int .i64 0)))) (.seq (.seq (.store 4 (.var 3) (.const (.agg #[(.int .i64 0), (.int .u64 0), (.int .i64 0), (.pointer none)])) []) (.set 4 (.const (.bool false)))) .ret) .skip)) (.seq (.seq (.call (some 12) 95 [(.var 2)] []) (.seq (.chk [(.proj 1 (.var 12))]) (.seq (.set 13 (.proj 0 (.var 12))) (.set 14 (.proj 1 (.var 12)))))) (.seq (.cond (.bin .eql (.var 1) (.const (.int .i32 88))) (.seq (.call (some 15) 96 [(.var 2)] []) (.seq (.chk [(.proj 1 (.var 15))]) (.seq (.set 13 (.proj 0 (.var 15))) (.set 14 (.proj 1 (.var 15)))))) .skip) (.seq (.cond (.bin .neq (.var 14) (.const (.int .i64 0))) (.seq (.seq (.call (some 16) 92 [(.var 14)] []) (.seq (.store 4 (.var 3) (.var 16) []) (.set 4 (.const (.bool true))))) .ret) .skip) (.seq (.seq .draw (.seq (.chk [(.var 14)]) (.seq (.set 18 (.ld none (.offp 37 (.nn (.var 0))))) (.seq (.set 19 (.ld (some 4) (.ixArr 11 4 (.offp 38 (.nn (.var 0))) (.const (.int .i64 2))))) (.seq (.chk [(.var 13)]) (.seq (.call (some 17) 92 [(.var 14)] [(.ld (some 4) (.ixArr 11 4 (.offp 38 (.nn (.var 0))) (.const (.int .i64 2)))), (.ld none (.offp 37 (.nn (.var 0))))]) (.seq (.call (some 20) 94 [(.var 18), (.var 19), (.var 13)] []) (.seq (.chk [(.bin .eql (.var 20) (.const (.int .i64 0)))]) (.seq (.store 4 (.var 3) (.var 17) []) (.set 4 (.bin .eql (.var 20) (.const (.int .i64 0))))))))))))) .ret))))))
abbrev v_vm_machine_next : List Nat := [0, 1, 2, 6, 7, 11, 18, 32, 34, 25, 30, 35, 41, 8, 9, 48, 54, 56, 60, 65, 67]
abbrev k_vm_machine_next : List (List Nat) := []
abbrev r_vm_machine_next : List Ex := [(.ld (some 4) (.var 3)), (.var 4)]
theorem ok_vm_machine_next : compile Tryz.prog Tryz.f78 v_vm_machine_next k_vm_machine_next = some (c_vm_machine_next, r_vm_machine_next) := by kernel_rfl
def c_vm_machine_bytes : Cmd := (.seq (.seq (.set 3 (.const (.slice none 0 0))) (.set 4 (.const (.bool false)))) (.seq (.seq .draw (.seq (.call (some 5) 99 [(.ld none (.offp 37 (.nn (.var 0)))), (.ld (some 4) (.ixArr 11 4 (.offp 38 (.nn (.var 0))) (.var 1))), (.var 2)] []) (.seq (.chk [(.proj 1 (.var 5))]) (.seq (.set 6 (.proj 0 (.var 5))) (.set 7 (.proj 1 (.var 5))))))) (.seq (.seq (.chk [(.bin .eql (.var 7) (.const (.int .i64 0)))]) (.seq (.set 3 (.var 6)) (.set 4 (.bin .eql (.var 7) (.const (.int .i64 0)))))) .ret)))
abbrev v_vm_machine_bytes : List Nat := [0, 1, 2, 6, 7, 22, 8, 9]
abbrev k_vm_machine_bytes : List (List Nat) := []
abbrev r_vm_machine_bytes : List Ex := [(.var 3), (.var 4)]
theorem ok_vm_machine_bytes : compile Tryz.prog Tryz.f87 v_vm_machine_bytes k_vm_machine_bytes = some (c_vm_machine_bytes, r_vm_machine_bytes) := by kernel_rfl
def c_vm_minus : Cmd := (.seq (.new (some 1) 68 (.const (.agg #[(.int .i64 0), (.int .u64 0), (.int .i64 0), (.pointer none)])) []) (.seq (.seq (.call (some 2) 57 [(.un .neg (.conv .u64 (.var 0)))] []) (.store 4 (.var 1) (.var 2) [])) .ret))
abbrev v_vm_minus : List Nat := [0, 2, 6]
abbrev k_vm_minus : List (List Nat) := []
abbrev r_vm_minus : List Ex := [(.ld (some 4) (.var 1))]
theorem ok_vm_minus : compile Tryz.prog Tryz.f92 v_vm_minus k_vm_minus = some (c_vm_minus, r_vm_minus) := by kernel_rfl
def c_vm_lined : Cmd := (.seq (.set 1 (.const (.bool false))) (.seq (.seq (.call (some 2) 88 [(.var 0)] []) (.set 3 (.part none 0 (.var 2)))) (.seq (.set 1 (.pick (.bin .eql (.var 3) (.const (.int .i64 3))) (.const (.bool true)) (.bin .eql (.var 3) (.const (.int .i64 4))))) .ret)))
abbrev v_vm_lined : List Nat := [0, 2, 5, 3]
abbrev k_vm_lined : List (List Nat) := []
abbrev r_vm_lined : List Ex := [(.var 1)]
theorem ok_vm_lined : compile Tryz.prog Tryz.f89 v_vm_lined k_vm_lined = some (c_vm_lined, r_vm_lined) := by kernel_rfl
def c_bmap_Map_Spec : Cmd := (.seq (.new (some 1) 48 (.const (.agg (Array.replicate 4 (.int .i64 0)))) []) (.seq (.cond (.isnil 0 false (.var 0)) (.seq (.store 4 (.var 1) (.const (.agg (Array.replicate 4 (.int .i64 0)))) []) .ret) .skip) (.seq (.store 4 (.var 1) (.ld (some 4) (.offp 0 (.nn (.var 0)))) []) .ret)))
abbrev v_bmap_Map_Spec : List Nat := [0, 2]
abbrev k_bmap_Map_Spec : List (List Nat) := []
abbrev r_bmap_Map_Spec : List Ex := [(.ld (some 4) (.var 1))]
theorem ok_bmap_Map_Spec : compile Tryz.prog Tryz.f88 v_bmap_Map_Spec k_bmap_Map_Spec = some (c_bmap_Map_Spec, r_bmap_Map_Spec) := by kernel_rfl
end Go.Proofs.YtmfgdbapankamaaGreat
namespace Go.Proofs.YtmfgdbapankamaaGreat
open Go.Eng
def minusOf (e : Int) : RVal := num (IntKind.u64.wrap (-(IntKind.u64.wrap e)))
theorem minus_T (w0 : World) (e : Int) : T Tryz.prog w0 92 [.int .i64 e] = some (minusOf e).val :=
  T_of (by kernel_rfl) Tryz.func92 rfl ok_vm_minus (by simp) (by simpa using rval_ext0 _ (minusOf e) rfl) fun B hB => by
    have t1 := number_T w0 (IntKind.u64.wrap (-(IntKind.u64.wrap e)))
    simp only [RVal.val] at t1
    simp only [c_vm_minus, zero_val]
    simp [t1, RVal.zero, minusOf]
theorem minus_ok (cs : List XCell) (e : Int) : VOk cs (minusOf e) := vok_num cs (by rw [IntKind.wrap_u64]; omega)
def specArr (M : BMap) : Array Value := #[.int .i64 M.ty, .int .i64 M.ks, .int .i64 M.vs, .int .i64 M.cap]
theorem mspec_T {w0 : World} {b : Nat} {M : BMap} (h : MapAt w0 b M) : T Tryz.prog w0 88 [.pointer (some ⟨b, 0, none⟩)] = some (.agg (specArr M)) :=
  T_of (by kernel_rfl) Tryz.func88 rfl ok_bmap_Map_Spec (by simpa using blk_lt h.blk) (by simp [specArr]) fun B hB => by
    have hr : wrow w0 b 0 4 = some (specArr M) := by
      rw [wrow_of h.blk (by simp [BMap.cells])]
      rfl
    have e : ∀ l, wrow (ownW B l) b 0 4 = some (specArr M) := fun l => own_extR hB hr
    simp [c_bmap_Map_Spec, C_cond_eq, e]
    simp [specArr]
theorem lined_T {w0 : World} {b : Nat} {M : BMap} (h : MapAt w0 b M) : T Tryz.prog w0 89 [.pointer (some ⟨b, 0, none⟩)] = some (.bool (decide (M.ty = 3) || decide (M.ty = 4))) :=
  T_of (by kernel_rfl) Tryz.func89 rfl ok_vm_lined (by simpa using blk_lt h.blk) (by simp) fun B hB => by
    have e := mspec_T h
    simp [c_vm_lined, e, specArr]
section
variable {w : World} {b : Nat} {k : VK} {N : Names} {mv : Value} {G : GSt}
def MBytP (w : World) (n : Nat) (o : Option (List Nat)) (v : Value) (w' : World) : Prop :=
  match o with
  | some l => l.length = n ∧ (∀ x ∈ l, x ≤ 255) ∧ ∃ nb c, v = .tuple #[.slice (some ⟨nb, 0, none⟩) n c, .bool true] ∧ n ≤ c ∧ w.heap.size ≤ nb ∧ ∀ (j x : Nat), l[j]? = some x → wcell w' nb j = some (.int .u8 x)
  | none => v = .tuple #[.slice none 0 0, .bool false]
theorem mbytes_ret (h : GAt w b k N mv G) (ok : GOk G) (r : Nat) (hr : r < 11) {n : Nat} (hn : n ≤ 64) :
    Ret Tryz.prog 87 [.pointer (some ⟨b, 0, none⟩), .int .i64 r, .int .i64 n] w fun v w' => Kept none' w w' ∧ MBytP w n (gbytesOf G (G.s.r r) n) v w' := by
  refine ret_of_W Tryz.func87 rfl ok_vm_machine_bytes ?_
  have hr' : (r : Int) < 11 := by omega
  have hkd : Kept none' w w.drew := (Kept.refl _ _).drew
  have h1 := h.calm hkd
  simp [c_vm_machine_bytes]
  generalize w.drew = w1 at *
  have hrow := mach_rrow h1.mach r hr
  refine W_calmP (by simp [mach_bm h1.mach, hrow, hr', hr]) (gbytes_ret h1 ok (ok.reg r) hn) ?_
  intro v w2 hk2 hv
  have hs := hkd.size
  unfold BytP at hv
  unfold MBytP
  generalize gbytesOf G (G.s.r r) n = o at *
  cases o with
  | none =>
    simp only at hv
    subst hv
    simp
    exact hkd.trans hk2
  | some l =>
    simp only at hv
    obtain ⟨g1, g2, nb, c, rfl, g3, g4, g5⟩ := hv
    simp
    exact ⟨hkd.trans hk2, g1, g2, nb, c, ⟨rfl, rfl⟩, g3, by omega, g5⟩
def HelpP (b : Nat) (k : VK) (N : Names) (mv : Value) (G : GSt) (w : World) (o : Option (GSt × RVal)) (r : Value) (w' : World) : Prop :=
  ∃ (u : RVal) (N' : Names), r = .tuple #[.agg u.arr, .bool o.isSome] ∧ (∀ q, o = some q → u = q.2.ren N'.cb) ∧ GAt w' b k N' mv (o.elim G (·.1)) ∧ NExt w N N' G.cs.length (o.elim G (·.1)).cs.length ∧ Kept (fun j => j = b ∨ j = k.bm ∨ N.own G.cs.length j) w w'
theorem help_none (h : GAt w b k N mv G) {w' : World} (hk : Kept none' w w') (u : RVal) : HelpP b k N mv G w none (.tuple #[.agg u.arr, .bool false]) w' :=
  ⟨u, N, rfl, fun q hq => (by cases hq), h.calm hk, NExt.refl _ _ _, hk.mono fun _ _ h => h.elim⟩
theorem NExt.before {N' : Names} {n n' : Nat} {w1 : World} (h : NExt w1 N N' n n') (hs : w.heap.size ≤ w1.heap.size) : NExt w N N' n n' :=
  ⟨h.cb, h.vb, h.mb, fun j hj => by
    rcases h.own j hj with h1 | h1
    · exact .inl h1
    · exact .inr (Nat.le_trans hs h1), h.le⟩
theorem help_end (h0 : GAt w b k N mv G) {w1 : World} {b2 : Nat} (hk1 : Kept none' w w1) (hb2 : w.heap.size ≤ b2) (hb1 : b2 < w1.heap.size) {G' : GSt} {N' : Names} {w2 : World} (hG : GAt w2 b k N' mv G') (hn : NExt w1 N N' G.cs.length G'.cs.length)
    (hk2 : Kept (fun j => j = b ∨ j = k.bm ∨ N.own G.cs.length j) w1 w2) (u : RVal) : HelpP b k N mv G w (some (G', u)) (.tuple #[.agg (u.ren N'.cb).arr, .bool true]) (put w2 b2 (.cells (u.ren N'.cb).arr 68)) := by
  have lb := blk_lt h0.mach
  have lm := blk_lt h0.mem
  have own2 : ¬ N'.own G'.cs.length b2 := fun ho => by
    rcases hn.own b2 ho with h1 | h1
    · have := h0.placed.own_lt h1; omega
    · omega
  have hkp : Kept (· = b2) w2 (put w2 b2 (.cells (u.ren N'.cb).arr 68)) := (Kept.refl (· = b2) w2).put (b := b2) (fun _ => rfl) _
  have hk02 : Kept (fun j => j = b ∨ j = k.bm ∨ N.own G.cs.length j) w w2 := (hk1.mono fun _ _ h => h.elim).trans hk2
  refine ⟨u.ren N'.cb, N', rfl, fun q hq => by cases hq; rfl, ⟨hkp.has hG.mach (by omega), hkp.has hG.mem (by omega), hG.maps.keep hkp fun j hj => ?_, hG.apart, hG.placed.keep hkp fun i hi e => own2 (e ▸ hi), hG.low⟩, NExt.before hn hk1.size, hk02.then hkp fun i hi e => ?_⟩
  · have := h0.low j hj; omega
  · omega
theorem key_of_bytes {w : World} {l : List Nat} {nb c : Nat} (hle : ∀ x ∈ l, x ≤ 255) (hc : l.length ≤ c) (h : ∀ (j x : Nat), l[j]? = some x → wcell w nb j = some (.int .u8 x)) : KeyP w (.slice (some ⟨nb, 0, none⟩) l.length c) (bs l) :=
  KeyP.of hle hc fun j x hj => by rw [Nat.zero_add]; exact h j x hj
theorem bs_len (l : List Nat) : (bs l).size = l.length := by simp [bs, ByteArray.size]
noncomputable def hfindOf (G : GSt) (i : Nat) (A : XMap) : Option (GSt × RVal) :=
  match gbytesOf G (G.s.r 2) A.ks.toNat with
  | none => none
  | some l => if linedX A = true then none else match cellX A (bs l) with
    | none => some (G, num 0)
    | some (A', id) => some ({ G with ms := G.ms.set i A' }, ⟨5, 0, (G.s.r 1).slot, some ⟨id, 0, none⟩⟩)
set_option maxHeartbeats 4000000 in
theorem hfind_ret (h : GAt w b k N mv G) (ok : GOk G) {i mb : Nat} {A : XMap} {M : BMap} (hA : G.ms[i]? = some A) (hq : N.mm[i]? = some (mb, M)) (hc : A.clock + 1 ≤ 1000000) :
    Ret Tryz.prog 75 [.pointer (some ⟨b, 0, none⟩), .pointer (some ⟨mb, 0, none⟩)] w (HelpP b k N mv G w (hfindOf G i A)) := by
  refine ret_of_W Tryz.func75 rfl ok_vm_machine_find ?_
  have okA := ok.maps A (List.mem_of_getElem? hA)
  obtain ⟨s1, s2, s3, s4, s5, s6, s7, s8, s9, _⟩ := spec_facts okA
  have hb := blk_lt h.mach
  simp only [c_vm_machine_find, zero_val, W_seq]
  refine W_new' (v := .agg RVal.zero.arr) (cs := RVal.zero.arr) (by simp) rfl ?_
  have h2 := hp_new w (.cells RVal.zero.arr 68)
  have hk1 : Kept none' w (w.alloc (.cells RVal.zero.arr 68)) := (Kept.refl _ _).alloc _
  have hb2 : w.heap.size ≤ w.heap.size := Nat.le_refl _
  generalize hbb : w.heap.size = b2 at *
  generalize w.alloc (.cells RVal.zero.arr 68) = w1 at *
  simp only [W_set, W_seq]
  refine ok_intro (.bool false) (by simp) ?_
  refine W_chkIn [.pointer (some ⟨b, 0, none⟩)] (by simp) ?_
  have h1 := h.calm hk1
  obtain ⟨hm1, hl1⟩ := h1.placed.low hA hq
  try simp only [W_seq]
  refine W_calm (vs := [.pointer (some ⟨mb, 0, none⟩)]) (by simp) (ret_of_T (mspec_T hm1)) fun w3 hk3 => ?_
  have h3 := h1.calm hk3
  try simp only [W_seq]
  have hks : ((A.ks.toNat : Nat) : Int) = A.ks := by omega
  refine W_calmP (vs := [.pointer (some ⟨b, 0, none⟩), .int .i64 ((2 : Nat) : Int), .int .i64 ((A.ks.toNat : Nat) : Int)]) (by simp [specArr, hl1.ks, hks]) (mbytes_ret h3 ok 2 (by omega) (n := A.ks.toNat) (by omega)) ?_
  intro v w4 hk4 hv
  have h4 := h3.calm hk4
  have hk14 := hk3.trans hk4
  have hk04 := hk1.trans hk14
  have g2 := hk14.has h2 fun h => h
  unfold MBytP at hv
  unfold hfindOf
  generalize gbytesOf G (G.s.r 2) A.ks.toNat = o at *
  cases o with
  | none =>
    simp only at hv ⊢
    subst hv
    simp
    refine W_no (by simp) ?_
    simp
    refine W_yes (by simp) ?_
    simp
    refine W_store (by simp) (by simp) (store_val (v := RVal.zero) g2) (stab_nil _ _ _) ?_
    simp [rval_row (put_same (o := .cells RVal.zero.arr 68) (blk_lt g2))]
    exact help_none h (hk04.putNew (by omega) _) _
  | some l =>
    simp only at hv ⊢
    obtain ⟨g1, gle, nb, c, rfl, g3, g4, g5⟩ := hv
    have hm4 := (h4.placed.low hA hq).1
    simp
    refine W_yes (by simp) ?_
    refine W_calm (by simp) (ret_of_T (lined_T hm4)) fun w5 hk5 => ?_
    have h5 := h4.calm hk5
    have hk15 := hk14.trans hk5
    have hk05 := hk1.trans hk15
    have g25 := hk15.has h2 fun h => h
    have hlin : (decide (M.ty = 3) || decide (M.ty = 4)) = linedX A := by unfold linedX; rw [hl1.ty]
    rw [hlin]
    cases hlx : linedX A with
    | true =>
      rw [if_pos rfl]
      refine W_yes (by simp) ?_
      simp
      refine W_store (by simp) (by simp) (store_val (v := RVal.zero) g25) (stab_nil _ _ _) ?_
      simp [rval_row (put_same (o := .cells RVal.zero.arr 68) (blk_lt g25))]
      exact help_none h (hk05.putNew (by omega) _) _
    | false =>
      rw [if_neg (by simp)]
      refine W_no (by simp) ?_
      simp
      rw [← g1]
      have hkey : KeyP w5 (.slice (some ⟨nb, 0, none⟩) l.length c) (bs l) := key_of_bytes gle (by omega) fun j x hj => wcell_kept hk5 (fun h => h) (g5 j x hj)
      refine W_call0 (by simp) (pcell_ret h5.placed hA hq okA hkey (by rw [bs_len]; omega) hc) ?_
      intro r w6 hr
      unfold CellP at hr
      cases hcx : cellX A (bs l) with
      | none =>
        rw [hcx] at hr
        obtain ⟨⟨e, he, rfl⟩, hk6⟩ := hr
        have h6 := h5.calm hk6
        simp
        refine W_yes (by simp [he]) ?_
        simp
        refine W_calm (by simp) (ret_of_T (number_T w6 0)) fun w7 hk7 => ?_
        have h7 := h6.calm hk7
        have hk17 := (hk15.trans hk6).trans hk7
        have g27 := hk17.has h2 fun h => h
        simp
        refine W_store (by simp) (by simp) (store_val (v := num 0) g27) (stab_nil _ _ _) ?_
        simp [rval_row (put_same (o := .cells (num 0).arr 68) (blk_lt g27))]
        exact help_end h hk1 (by omega) (blk_lt h2) h7 (NExt.refl _ _ _) (hk17.mono fun _ _ h => h.elim) (num 0)
      | some p =>
        obtain ⟨A', id⟩ := p
        rw [hcx] at hr
        obtain ⟨rfl, ⟨cc, hcc, hcs⟩, hout⟩ := hr
        obtain ⟨N', hG6, hn6, hk6⟩ := h5.outp hout (Nat.le_refl _) ok.reg ok.kept
        have g26 := hk6.has g25 (fun ho => by have := h.placed.own_lt ho; omega)
        have hm6 := hG6.mach
        have hcb := hn6.cb id (List.getElem?_eq_some_iff.1 hcc).1
        have hu : (⟨5, 0, (G.s.r 1).slot, some ⟨N.cb id, 0, none⟩⟩ : RVal) = (⟨5, 0, (G.s.r 1).slot, some ⟨id, 0, none⟩⟩ : RVal).ren N'.cb := by
          unfold RVal.ren
          simp [hcb]
        have c44 := mach_slot1 hm6
        simp only [vren_r, ren_slot] at c44
        simp [c44]
        refine W_no (by simp) ?_
        simp [c44]
        refine W_store (vv := .agg (⟨5, 0, (G.s.r 1).slot, some ⟨N.cb id, 0, none⟩⟩ : RVal).arr) (by simp) (by simp [c44, RVal.zero]) (store_val (v := ⟨5, 0, (G.s.r 1).slot, some ⟨N.cb id, 0, none⟩⟩) g26) (stab_nil _ _ _) ?_
        simp [rval_row (put_same (o := .cells (⟨5, 0, (G.s.r 1).slot, some ⟨N.cb id, 0, none⟩⟩ : RVal).arr 68) (blk_lt g26))]
        rw [hu]
        exact help_end h hk1 (by omega) (blk_lt h2) hG6 (NExt.before hn6 hk15.size) ((hk15.mono fun _ _ h => h.elim).trans (hk6.mono fun j _ hj => .inr (.inr hj))) _
end
end Go.Proofs.YtmfgdbapankamaaGreat
