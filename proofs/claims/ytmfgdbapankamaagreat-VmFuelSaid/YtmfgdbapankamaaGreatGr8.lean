/- Layer 19, part J: New. -/
import Derived.Test.YtmfgdbapankamaaGreatGr7
import Derived.ArgAppend
set_option linter.unusedSimpArgs false
set_option linter.unusedVariables false
set_option maxRecDepth 8000
namespace Go.Proofs.YtmfgdbapankamaaGreat
open Go.Eng
def RMem.fresh (c : Nat → Int) (maps : Value) : RMem := ⟨c, fun _ => 0, fun _ => false, fun _ => RVal.zero, maps⟩
def freshMem : Array Value := (RMem.fresh (fun _ => 0) (.slice none 0 0)).cells
def c_region_New : Cmd :=
  (.seq
   (.seq
    (.new (some 3) 23 (.var 0) [])
   (.set 2 (.const (.pointer none))))
  (.seq
   (.seq
    .draw
   (.seq
    (.set 6 (.ld (some 32) (.var 3)))
   (.seq
    (.chk [(.var 1)])
   (.seq
    (.row (some 4) 45 0 (.const (.agg #[])) [(.ld (some 32) (.var 3))])
   (.seq
    (.bi (some 5) .append [30, 30] 30 [(.var 4), (.var 1)] [(.ld (some 32) (.var 3))])
   (.seq
    (.chk [(.upd 192 1 (.upd 0 32 (.const (.agg freshMem)) (.var 6)) (.var 5))])
   (.seq
    (.new (some 7) 101 (.upd 192 1 (.upd 0 32 (.const (.agg freshMem)) (.var 6)) (.var 5)) [])
   (.set 2 (.var 7)))))))))
  .ret))
abbrev v_region_New : List Nat := [0, 1, 4, 2, 6, 8, 5, 10]
abbrev k_region_New : List (List Nat) := []
abbrev r_region_New : List Ex := [(.var 2)]
theorem ok_region_New : compile Tryz.prog Tryz.f16 v_region_New k_region_New = some (c_region_New, r_region_New) := by kernel_rfl
theorem append_none {P : Program} {t ty e : TypeId} (ht : P.underlying t = some (.slice e)) (hi' : (P.info? e).isSome = true) (a : Addr) (n c : Nat) (hn : n ≤ c) (w : World) :
    (builtin .append #[t, t] ty #[] #[.slice (some a) n c, .slice none 0 0]).run P w = .ok (.value (.slice (some a) n c)) w := by
  obtain ⟨i, hi⟩ := Option.isSome_iff_exists.1 hi'
  simp [builtin, Builtin.append_, run_underlying ht, sizeOf, typeInfo, hi, Builtin.lenOf, hn, Builtin.firstCells, loadCells, loadCellsFrom]
  rfl
theorem setRow_get : ∀ (vs : List Value) (cs : Array Value) (off j : Nat), off + vs.length ≤ cs.size → (setRow cs off vs)[j]? = if off ≤ j ∧ j < off + vs.length then vs[j - off]? else cs[j]?
  | [], cs, off, j, h => by simp [setRow]; omega
  | v :: r, cs, off, j, h => by
    simp only [List.length_cons] at h
    show (setRow (cs.setIfInBounds off v) (off + 1) r)[j]? = _
    rw [setRow_get r _ _ _ (by simp; omega), Array.getElem?_setIfInBounds]
    simp only [List.length_cons]
    by_cases h1 : off = j
    · subst h1
      rw [if_neg (by omega), if_pos rfl, if_pos (by omega), if_pos (by omega)]
      simp
    · by_cases h2 : off + 1 ≤ j ∧ j < off + 1 + r.length
      · rw [if_pos h2, if_pos (by omega)]
        obtain ⟨k, hk⟩ : ∃ k, j - off = k + 1 := ⟨j - off - 1, by omega⟩
        rw [hk, show j - (off + 1) = k from by omega]
        simp
      · rw [if_neg h2, if_neg h1, if_neg (by omega)]
theorem fresh_cells (cs : Array Value) (c : Nat → Int) (maps : Value) (hs : cs.size = 32) (hc : ∀ i, i < 32 → cs[i]? = some (.int .u8 (c i))) : (setRow freshMem 0 cs.toList).setIfInBounds 192 maps = (RMem.fresh c maps).cells := by
  apply Array.ext_getElem?
  intro j
  have h0 : freshMem.size = 193 := mem_size _
  rw [Array.getElem?_setIfInBounds, setRow_get _ _ _ _ (by simp [hs, h0]), Go.Eng.setRow_size]
  by_cases hj : j < 193
  · rw [mem_at _ j hj]
    by_cases h1 : 192 = j
    · subst h1; rw [if_pos rfl, if_pos (by omega)]; rfl
    · rw [if_neg h1]
      by_cases h2 : j < 32
      · rw [if_pos (by simp [hs]; omega)]
        simp [hc j h2, RMem.at, h2, RMem.fresh]
      · rw [if_neg (by simp [hs]; omega)]
        unfold freshMem
        rw [mem_at _ j hj]
        have h3 : j < 192 := by omega
        simp only [RMem.at, RMem.fresh, if_neg h2, if_pos h3]
  · have e2 : (RMem.fresh c maps).cells[j]? = none := by simp [mem_size]; omega
    have e1 : freshMem[j]? = none := by simp [h0]; omega
    rw [e2, if_neg (by omega), if_neg (by simp [hs]; omega), e1]
theorem new_ret' (cs : Array Value) (c : Nat → Int) (w : World) (hs : cs.size = 32) (hc : ∀ i, i < 32 → cs[i]? = some (.int .u8 (c i))) : Ret Tryz.prog 16 [.agg cs, .slice none 0 0] w
    fun v w' => ∃ b maps, v = .pointer (some ⟨b, 0, none⟩) ∧ w.heap.size ≤ b ∧ Kept none' w w' ∧ IsMem w' b (RMem.fresh c maps) ∧ ∃ p c, maps = .slice p 0 c := by
  refine ret_of_W Tryz.func16 rfl ok_region_New ?_
  simp [c_region_New, hs]
  refine W_bi (by simp; rfl) (append_none (e := 45) (by kernel_rfl) (by kernel_rfl) _ 0 0 (Nat.le_refl _) _) (fun e _ v h => h) ?_
  have hk : Kept none' w ((w.alloc (.cells cs 23)).drew.alloc (.cells #[] 45)) := ((Kept.refl _ _).alloc _).drew.alloc _
  have hsz : freshMem.size = 193 := mem_size _
  simp [hs, hsz]
  have hsz2 : (setRow freshMem 0 cs.toList).size = 193 := by rw [Go.Eng.setRow_size]; exact hsz
  simp [hsz2, fresh_cells cs c _ hs hc]
  have hN : ((w.alloc (.cells cs 23)).drew.alloc (.cells #[] 45)).heap.size = w.heap.size + 1 + 1 := by simp
  generalize (w.alloc (.cells cs 23)).drew.alloc (.cells #[] 45) = w2 at hk hN ⊢
  rw [← hN]
  exact ⟨by omega, hk.alloc _, _, hp_new _ _, _, _, rfl⟩
end Go.Proofs.YtmfgdbapankamaaGreat
namespace Go.Proofs.YtmfgdbapankamaaGreat
open Go.Eng
theorem bytesOk_fresh (c : Nat → Int) (maps : Value) (hc : ∀ i, 0 ≤ c i ∧ c i ≤ 255) : BytesOk (RMem.fresh c maps) := ⟨fun i => by simp [RMem.fresh], hc⟩
theorem bytesOk_mark {m : RMem} (h : BytesOk m) (f n : Nat) : BytesOk (mark m f n) := h
theorem bytesOk_withBytes {m : RMem} (h : BytesOk m) (f e : Nat) (n : Int) : BytesOk (withBytes m f e n) := ⟨fun i => by
  simp only [withBytes]
  split
  · exact byteN_range _ _
  · exact h.1 i, h.2⟩
theorem bytesOk_saveS {m : RMem} (h : BytesOk m) (s k : Int) (v : RVal) : BytesOk (saveS m s k v).1 := by
  unfold saveS
  split
  · split
    · exact bytesOk_mark (bytesOk_withBytes h _ _ _) _ _
    · split
      · exact h
      · exact h
  · exact h
theorem isMem_kept {w w' : World} {b : Nat} {m : RMem} (hk : Kept none' w w') (hm : IsMem w b m) : IsMem w' b m := hk.has hm (fun h => h)
end Go.Proofs.YtmfgdbapankamaaGreat
namespace Go.Proofs.YtmfgdbapankamaaGreat
open Go.Eng
theorem arr_at (v : RVal) (j : Nat) (h : j < 4) : v.arr[j]? = some (v.at j) := by
  have : j = 0 ∨ j = 1 ∨ j = 2 ∨ j = 3 := by omega
  rcases this with rfl | rfl | rfl | rfl <;> rfl
structure Keeps (m : RMem) (g : Nat → RVal) : Prop where
  ok : BytesOk m
  kept : ∀ k, k < 7 → m.kept k = g k
  cell : ∀ k, k < 7 → (g k).cell = none
  bare : ∀ k, k < 7 → (g k).tag = 0 → ∀ j, j / 8 = k → m.written j = false
theorem wcell_kept {S : Nat → Prop} {w w' : World} {b off : Nat} {v : Value} (hk : Kept S w w') (hs : ¬ S b) (h : wcell w b off = some v) : wcell w' b off = some v := by
  unfold wcell at h ⊢
  cases hb : w.heap[b]? with
  | none => rw [hb] at h; cases h
  | some o => rw [hk.has hb hs]; rw [hb] at h; exact h
end Go.Proofs.YtmfgdbapankamaaGreat
namespace Go.Proofs.YtmfgdbapankamaaGreat
open Go.Eng
theorem wcell_cell {w : World} {b off : Nat} {v : Value} (h : wcell w b off = some v) : w.cell? ⟨b, off, none⟩ = some v := by
  unfold wcell at h
  unfold World.cell?
  cases hb : w.heap[b]? with
  | none => rw [hb] at h; cases h
  | some o => rw [hb] at h; cases o <;> first | exact h | cases h
theorem append_copy {P : Program} {t ty e : TypeId} (ht : P.underlying t = some (.slice e)) (hi0 : (P.info? e).any (fun i => i.size == 1 && decide (i.bytes ≤ 64) && i.zero.isSome) = true) {w : World} {nb b off n c : Nat} {x : Nat → Value}
    (hx : ∀ j, j < n → wcell w b (off + j) = some (x j)) (hn : n ≤ 1000000) :
    ∃ nb' c' w', (builtin .append #[t, t] ty #[] #[.slice (some ⟨nb, 0, none⟩) 0 0, .slice (some ⟨b, off, none⟩) n c]).run P w = .ok (.value (.slice (some ⟨nb', 0, none⟩) n c')) w' ∧ Kept none' w w' ∧
      n ≤ c' ∧ (nb' = nb ∨ nb' = w.heap.size) ∧ (∀ j, j < n → wcell w' nb' j = some (x j)) := by
  obtain ⟨i, hi, hi1⟩ : ∃ i, P.info? e = some i ∧ (i.size == 1 && decide (i.bytes ≤ 64) && i.zero.isSome) = true := by
    cases h : P.info? e with
    | none => rw [h] at hi0; cases hi0
    | some i => rw [h] at hi0; exact ⟨i, rfl, hi0⟩
  simp only [Bool.and_eq_true, beq_iff_eq, decide_eq_true_eq] at hi1
  obtain ⟨⟨hs, hy⟩, hz0⟩ := hi1
  obtain ⟨z, hz⟩ := Option.isSome_iff_exists.1 hz0
  have hb : ∀ v w', (Builtin.append_ #[t, t] ty #[.slice (some ⟨nb, 0, none⟩) 0 0, .slice (some ⟨b, off, none⟩) n c]).run P w = .ok v w' →
      (builtin .append #[t, t] ty #[] #[.slice (some ⟨nb, 0, none⟩) 0 0, .slice (some ⟨b, off, none⟩) n c]).run P w = .ok (.value v) w' := by
    intro v w' h
    simp only [builtin, map_eq_pure_bind, Sem.run_bind, h]
    rfl
  by_cases h0 : n = 0
  · subst h0
    refine ⟨nb, 0, w, hb _ _ ?_, Kept.refl _ _, by omega, .inl rfl, fun j hj => by omega⟩
    have hr := run_append_room_cells (P := P) w t ty e i ht hi nb 0 0 0 ⟨b, off, none⟩ 0 c [] (by simp) (by simp) (by simp) (by omega) (by simp) (by simp)
    have hw : w.setCells nb 0 [] = w := rfl
    simpa [hw] using hr
  · have hl : (List.ofFn (n := n) fun j => x j.val).length = n * i.size := by simp [hs]
    have hnews : ∀ j v, (List.ofFn (n := n) fun j => x j.val)[j]? = some v → w.cell? (Addr.add ⟨b, off, none⟩ j) = some v := by
      intro j v hv
      have hj : j < n := by have := (List.getElem?_eq_some_iff.1 hv).1; simpa using this
      rw [List.getElem?_ofFn] at hv
      simp [hj] at hv
      subst hv
      rw [Addr.add_lit]
      exact wcell_cell (hx j hj)
    have hr := run_append_grow (P := P) w t ty e i z ht hi hz ⟨nb, 0, none⟩ 0 0 [] (by simp) (by simp) ⟨b, off, none⟩ n c _ hl hnews (by omega) (by omega) ?_
    · have hge := grownCap_ge w (0 + n) 0 e
      refine ⟨_, _, _, hb _ _ (by rw [hr, Nat.zero_add]), ((Kept.refl _ _).drew).alloc _, ?_, .inr rfl, ?_⟩
      · rw [Nat.zero_add] at hge; exact hge
      · intro j hj
        have hsz : w.heap.size = w.drew.heap.size := rfl
        rw [hsz, wcell_new]
        rw [Array.getElem?_append_left (by simp; exact hj)]
        simp [hj]
    · refine growslice_fits (by omega) ?_
      have : (0 + n) * i.bytes ≤ 1000000 * 64 := Nat.mul_le_mul (by omega) hy
      omega
def bytesOkS (m : RMem) (s k : Int) : Bool := decide (0 ≤ k ∧ -64 ≤ s ∧ s + k ≤ 0 ∧ Ready m (s + 64).toNat k.toNat)
theorem bytes_ret (b : Nat) (m : RMem) (a : RVal) (k : Int) (w : World) (hm : IsMem w b m) (ha : a.tag = 3) (hk : k ≤ 1000000) :
    Ret Tryz.prog 99 [.pointer (some ⟨b, 0, none⟩), a.val, .int .i64 k] w fun v w' => Kept none' w w' ∧
      (if bytesOkS m (IntKind.i64.wrap a.n) k = true then ∃ nb c, v = .tuple #[.slice (some ⟨nb, 0, none⟩) k.toNat c, .int .i64 0] ∧ k.toNat ≤ c ∧ w.heap.size ≤ nb ∧
        ∀ j, j < k.toNat → wcell w' nb j = some (.int .u8 (m.stack ((IntKind.i64.wrap a.n + 64).toNat + j)))
       else v = .tuple #[.slice none 0 0, .int .i64 14]) := by
  refine ret_of_W Tryz.func99 rfl ok_region_Memory_Bytes ?_
  have hb' := blk_lt hm
  simp only [c_region_Memory_Bytes]
  have h5 := hp_new w (.cells a.arr 68)
  have hm0 : IsMem (w.alloc (.cells a.arr 68)) b m := hp_old hm _
  have hk0 : Kept none' w (w.alloc (.cells a.arr 68)) := (Kept.refl _ _).alloc _
  simp
  generalize w.alloc (.cells a.arr 68) = w2 at h5 hm0 hk0 ⊢
  generalize hq : (if k < 0 then (0 : Int) else k) = q
  have hq0 : 0 ≤ q ∧ q ≤ 1000000 ∧ (0 ≤ k → q = k) := by split at hq <;> omega
  refine W_call0 (by simp [rval_row h5, hq]) (view_stack b a 0 q w2 ha (by omega) (by omega) (by omega) (by omega)) ?_
  rintro v w3 ⟨hk1, hv⟩
  have hk2 := hk0.trans hk1
  have h5' := hk1.has h5 (fun h => h)
  have hm1 : IsMem w3 b m := hk1.has hm0 (fun h => h)
  generalize hN : IntKind.i64.wrap a.n = N at *
  by_cases hin : 0 ≤ k ∧ -64 ≤ N ∧ N + k ≤ 0
  · obtain ⟨n, rfl⟩ : ∃ n : Nat, k = n := ⟨k.toNat, by omega⟩
    have hqn := hq0.2.2 hin.1
    subst hqn
    rw [if_pos (by omega)] at hv
    obtain ⟨f, hf, rfl⟩ := hv
    have hsl : ∃ o, (if 64 = f then (⟨b, 32, none⟩ : Addr) else ⟨b, 32 + f, none⟩) = ⟨b, o, none⟩ ∧ (0 < n → o = 32 + f) := by
      by_cases h64 : 64 = f
      · rw [if_pos h64]; exact ⟨32, rfl, fun h => by omega⟩
      · rw [if_neg h64]; exact ⟨32 + f, rfl, fun _ => rfl⟩
    obtain ⟨o, ho, ho2⟩ := hsl
    rw [ho]
    have hff : (N + 64).toNat = f := by omega
    have hn0 : ¬ ((n : Int) < 0) := by omega
    have hn64 : ¬ (64 < (n : Int)) := by omega
    simp [hn0, hn64, wcell_of h5', ha]
    refine W_yes (by simp [hn0, hn64]) ?_
    simp [wcell_of h5', ha, hn0, hn64]
    refine W_yes (by simp [hn0, hn64]) ?_
    refine W_call0 (by simp) (ready_ret b m f n w3 hm1 (by omega)) ?_
    rintro v w4 ⟨rfl, r, rfl, hr⟩
    simp
    have hok : bytesOkS m N n = r := by
      unfold bytesOkS
      rw [hff]
      cases r
      · rw [decide_eq_false_iff_not]
        intro h
        have := hr.2 (by simpa using h.2.2.2)
        cases this
      · rw [decide_eq_true_eq]
        exact ⟨by omega, hin.2.1, hin.2.2, by simpa using hr.1 rfl⟩
    rw [hok]
    cases r
    · refine W_yes (by simp [hn0, hn64]) ?_
      simp
      exact hk2
    · refine W_no (by simp [hn0, hn64]) ?_
      simp
      have hm5 : IsMem (w4.alloc (.cells #[] 5)) b m := hp_old hm1 _
      have hx : ∀ j, j < n → wcell (w4.alloc (.cells #[] 5)) b (o + j) = some (.int .u8 (m.stack (f + j))) := by
        intro j hj
        rw [ho2 (by omega), wcell_of hm5, Nat.add_assoc, mem_stack m _ (by omega)]
      obtain ⟨nb, c', w5, hrun, hk5, hc', hnb, hcells⟩ := append_copy (P := Tryz.prog) (t := 51) (ty := 51) (e := 5) (nb := w4.heap.size) (c := 64 - f) Tryz.underlying51 (by kernel_rfl) hx (by omega)
      refine W_bi (by simp) hrun (stab_nil _ _ _) ?_
      simp
      have hsz := hk2.size
      refine ⟨((hk2.alloc _).trans hk5), ?_⟩
      rw [hff]
      simp at hnb
      refine ⟨nb, c', ⟨rfl, rfl⟩, hc', by omega, hcells⟩
  · have hno : bytesOkS m N k = false := by
      unfold bytesOkS
      rw [decide_eq_false_iff_not]
      exact fun h => hin ⟨h.1, h.2.1, h.2.2.1⟩
    by_cases hin2 : -64 ≤ N + 0 ∧ N + 0 + q ≤ 0
    · rw [if_pos hin2] at hv
      obtain ⟨f, hf, rfl⟩ := hv
      have hkneg : k < 0 := by
        by_cases h : 0 ≤ k
        · exact absurd ⟨h, by omega, by have := hq0.2.2 h; omega⟩ hin
        · omega
      simp [hkneg, hno]
      refine W_no (by simp [hkneg]) ?_
      simp [hkneg]
      refine W_no (by simp [hkneg]) ?_
      simp [hkneg]
      refine W_yes (by simp [hkneg]) ?_
      simp
      exact hk2
    · rw [if_neg hin2] at hv
      subst hv
      simp [hno]
      refine W_no (by simp) ?_
      simp
      refine W_no (by simp) ?_
      simp
      refine W_yes (by simp) ?_
      simp
      exact hk2
end Go.Proofs.YtmfgdbapankamaaGreat
namespace Go.Proofs.YtmfgdbapankamaaGreat
open Go.Eng
end Go.Proofs.YtmfgdbapankamaaGreat
