/- Layer 9, part N: queues and stacks. -/
import Derived.Test.YtihaopoehhnbkaaBmM
set_option linter.unusedSimpArgs false
set_option linter.unusedVariables false
set_option maxRecDepth 8000
namespace Go.Proofs.Ytihaopoehhnbkaa
open Go.Eng

theorem bys_none (w : World) : Bys (w.alloc (.cells #[] 5)) (.slice (some ⟨w.heap.size, 0, none⟩) 0 0) [] := .inr ⟨_, 0, #[], rfl, hp_new w _, Nat.le_refl _, by simp, rfl, fun i x h => by simp at h⟩

/-- bytes.Clone, the new row known whole. -/
theorem clone_bys (b off c : Nat) (m : List Nat) (w : World) (hx : ∀ (j x : Nat), m[j]? = some x → wcell w b (off + j) = some (.int .u8 x)) (hn : m.length ≤ 1000) :
    Ret Try.prog 51 [.slice (some ⟨b, off, none⟩) m.length c] w fun v w' => Kept none' w w' ∧ Bys w' v m ∧ ∀ j, v.ownBlock = some j → w.heap.size ≤ j := by
  refine ret_of_W Try.func51 rfl ok_bytes_Clone ?_
  simp [c_bytes_Clone]
  refine W_no (by simp) ?_
  simp
  have hk0 : Kept none' w (w.alloc (.cells #[] 5)) := (Kept.refl _ _).alloc _
  have hB := bys_none w
  have hx' : ∀ (j x : Nat), m[j]? = some x → wcell (w.alloc (.cells #[] 5)) b (off + j) = some (.int .u8 x) := fun j x hj => wcell_kept hk0 (fun h => h) (hx j x hj)
  have hs : (w.alloc (.cells #[] 5)).heap.size = w.heap.size + 1 := by simp
  generalize w.alloc (.cells #[] 5) = w1 at hk0 hB hx' hs ⊢
  obtain ⟨v', w', hr, hB', hk', ho'⟩ := bys_append (c := c) hB (by simp; omega) hx'
  refine W_bi (by simp) hr (stab_nil _ _ _) ?_
  have hv := hB'.var
  simp [hv]
  refine ⟨hk0.then hk' (fun i hi hj => by simp [Value.ownBlock] at hj; omega), by simpa using hB', fun j hj => ?_⟩
  rcases ho' with q | q
  · rw [q] at hj; simp [Value.ownBlock] at hj; omega
  · rw [q] at hj; simp at hj; omega

/-- What comes next of a line. -/
def nextIs (M : BMap) : Int × Int := if M.l.length = 0 then (0, 2) else if M.ty = 4 then ((M.l.length : Int) - 1, 0) else (0, 0)

theorem next_ret (b : Nat) (M : BMap) (w : World) (h : MapAt w b M) (hty : M.ty = 3 ∨ M.ty = 4) : Ret Try.prog 62 [.pointer (some ⟨b, 0, none⟩)] w
    fun v w' => v = .tuple #[.int .i64 (nextIs M).1, .int .i64 (nextIs M).2] ∧ w' = w := by
  refine ret_of_W Try.func62 rfl ok_bmap_Map_next ?_
  have hb := h.blk
  have hl := h.row.len
  have hv := h.row.var
  have hsm := h.small
  simp [c_bmap_Map_next]
  refine W_yes (by simp) ?_
  refine W_call0 (by simp) (lined_ret b M w h) ?_
  rintro v w1 ⟨rfl, rfl⟩
  have hty' : (decide (M.ty = 3) || decide (M.ty = 4)) = true := by simpa using hty
  rw [hty']
  simp
  refine W_no (by simp) ?_
  simp [wcell_of hb, BMap.cells, hl, hv]
  unfold nextIs
  refine W_cond (t := decide (M.l.length = 0)) (by simp) ?_ ?_
  · intro h0
    have h0' : M.l.length = 0 := by simpa using h0
    simp [h0']
  · intro h0
    have h0' : ¬ M.l.length = 0 := by simpa using h0
    simp [wcell_of hb, BMap.cells, hl, hv]
    refine W_cond (t := decide (M.ty = 4)) (by simp) ?_ ?_
    · intro h4
      have h4' : M.ty = 4 := by simpa using h4
      have e1 : IntKind.i64.wrap ((M.l.length : Int) - 1) = (M.l.length : Int) - 1 := i64w (by omega) (by omega)
      simp [wcell_of hb, BMap.cells, hl, hv, e1, h4', h0']
      rw [if_neg (by simpa using h0')]
      exact ⟨rfl, rfl⟩
    · intro h4
      have h4' : ¬ M.ty = 4 := by simpa using h4
      simp [h4', h0']
      rw [if_neg (by simpa using h0')]
      exact ⟨rfl, rfl⟩

/-- The next one's place. -/
def nextAtM (M : BMap) : Nat := if M.ty = 4 then M.l.length - 1 else 0
theorem nextIs_some {M : BMap} (h0 : 0 < M.l.length) : nextIs M = ((nextAtM M : Int), 0) ∧ nextAtM M < M.l.length := by
  unfold nextIs nextAtM
  rw [if_neg (by omega)]
  split
  · exact ⟨by rw [show ((M.l.length - 1 : Nat) : Int) = (M.l.length : Int) - 1 by omega], by omega⟩
  · exact ⟨rfl, h0⟩

def PeekIs (w w' : World) (M : BMap) (v : Value) : Prop := Kept none' w w' ∧
  ((M.l.length = 0 ∧ v = .tuple #[.slice none 0 0, .int .i64 2]) ∨
   ∃ (e : BEnt) (nb c : Nat), M.l[nextAtM M]? = some e ∧ v = .tuple #[.slice (some ⟨nb, 0, none⟩) M.vs c, .int .i64 0] ∧ w.heap.size ≤ nb ∧ ∀ j, j < M.vs → wcell w' nb j = some (.int .u8 (e.val j)))

theorem peek_ret (b : Nat) (M : BMap) (w : World) (h : MapAt w b M) (hty : M.ty = 3 ∨ M.ty = 4) (hV : M.vs ≤ 1000) : Ret Try.prog 35 [.pointer (some ⟨b, 0, none⟩)] w fun v w' => PeekIs w w' M v := by
  refine ret_of_W Try.func35 rfl ok_bmap_Map_Peek ?_
  simp [c_bmap_Map_Peek]
  refine W_call0 (by simp) (next_ret b M w h hty) ?_
  rintro v w1 ⟨rfl, rfl⟩
  by_cases h0 : M.l.length = 0
  · have : nextIs M = (0, 2) := by unfold nextIs; rw [if_pos h0]
    rw [this]
    simp
    refine W_yes (by simp) ?_
    simp
    exact ⟨Kept.refl _ _, .inl ⟨h0, rfl⟩⟩
  · obtain ⟨hn, hlt⟩ := nextIs_some (M := M) (by omega)
    rw [hn]
    have he : M.l[nextAtM M]? = some M.l[nextAtM M] := List.getElem?_eq_getElem hlt
    generalize hat : nextAtM M = at' at hlt he
    generalize M.l[at'] = e at he
    have hb := h.blk
    obtain ⟨g, cap, hL, hcell⟩ := h.row.get he
    have hE := h.mem he
    have hent := hE.ent
    obtain ⟨c0, hc0, hcc⟩ := hE.cell
    obtain ⟨cs, hval, hv1, hv2⟩ := hE.val
    have hlt' : (at' : Int) < M.l.length := by omega
    simp
    refine W_no (by simp) ?_
    simp
    refine W_call0 (by simp [wcell_of hb, BMap.cells, hL, hlt, hcell, wcell_of hent, BEnt.cells, wcell_of hcc]) (clone_ret e.vb 0 M.vs c0 (fun j => .int .u8 (e.val j)) w1 (fun j hj => by rw [wcell_of hval, Nat.zero_add]; exact hv2 j hj) (by omega) (blk_lt hval)) ?_
    rintro v w2 ⟨hk2, nb, c', rfl, hc', hnb, hby⟩
    simp
    refine ⟨hk2, .inr ⟨e, nb, c', by rw [hat]; exact he, rfl, hnb, hby⟩⟩

theorem run_sl3 (t : Nat) (a : Addr) (n cap i j : Nat) (hij : i ≤ j) (hjn : j ≤ n) (hn : n ≤ cap) (w : World) : ∃ v, ((Tag.sl3 103).sem [.slice (some a) n cap, .int .i64 i, .int .i64 j, .int .i64 n]).run Try.prog w = .ok v w := by
  have hsz := run_size (P := Try.prog) (t := 106) (n := 1) (by kernel_rfl) w
  refine ⟨.slice (some (if n = i then a else a.add (i * 1))) (j - i) (n - i), ?_⟩
  simp only [Tag.sem]
  simp [Instr.sliceAt, Instr.slice, run_underlying Try.underlying103, Instr.sliceBounds, Instr.sliceBound, asIntOf, hsz]
  rw [if_pos hn, if_pos hjn, if_pos hij]
  by_cases h : n = i
  · rw [if_pos h, if_pos h]
  · rw [if_neg h, if_neg h]

set_option maxHeartbeats 1000000 in
/-- slices.Delete of one entry. -/
theorem sdelete_ret (b : Nat) (M : BMap) (k : Nat) (w : World) (h : MapAt w b M) (hk : k < M.l.length) :
    Ret Try.prog 63 [M.L, .int .i64 k, .int .i64 ((k : Int) + 1)] w fun v w' => Kept (fun j => M.L.ownBlock = some j) w w' ∧ RowAt w' v (M.l.eraseIdx k) ∧ v.ownBlock = M.L.ownBlock := by
  refine ret_of_W Try.func63 rfl ok_slices_Delete ?_
  have hsm := h.small
  obtain ⟨g, cap, cur, hL, hg, h1, h2, h3, h4⟩ : ∃ g cap cur, M.L = .slice (some ⟨g, 0, none⟩) M.l.length cap ∧ w.heap[g]? = some (.cells cur 106 (0, 0)) ∧ M.l.length ≤ cap ∧ cap ≤ maxLen ∧ cur.size = cap ∧
      ∀ (i : Nat) (e : BEnt), M.l[i]? = some e → cur[i]? = some (Value.pointer (some ⟨e.eb, 0, none⟩)) := by
    rcases h.row with ⟨_, h0⟩ | h0
    · rw [h0] at hk; simp at hk
    · exact h0
  have hown : M.L.ownBlock = some g := by rw [hL]; rfl
  rw [hown, hL]
  simp only [Option.some.injEq]
  obtain ⟨vx, hsl3⟩ := run_sl3 0 ⟨g, 0, none⟩ M.l.length cap k (k + 1) (by omega) (by omega) h1 w
  have ek : (((k + 1 : Nat)) : Int) = (k : Int) + 1 := by omega
  rw [ek] at hsl3
  simp [c_slices_Delete]
  refine W_sem (by simp) hsl3 (stab_nil _ _ _) ?_
  simp
  refine W_no (by simp; omega) ?_
  have hgd : w.drew.heap[g]? = _ := hg
  have hkd : Kept (fun j => g = j) w w.drew := (Kept.refl _ _).drew
  have hso : ∃ so, (if cap = k + 1 then (⟨g, 0, none⟩ : Addr) else ⟨g, k + 1, none⟩) = ⟨g, so, none⟩ ∧ (k + 1 < M.l.length → so = k + 1) := by
    by_cases hc : cap = k + 1
    · rw [if_pos hc]; exact ⟨0, rfl, fun q => by omega⟩
    · rw [if_neg hc]; exact ⟨k + 1, rfl, fun _ => rfl⟩
  obtain ⟨so, hso, hso2⟩ := hso
  have b1 : (k : Int) ≤ cap := by omega
  have b2 : (k : Int) + 1 ≤ M.l.length := by omega
  have b3 : (M.l.length : Int) ≤ cap := by omega
  have b4 : ¬ (cap = 0) := by omega
  have b5 : ((k : Int) + 1).toNat = k + 1 := by omega
  have b6 : (0 : Int) ≤ (k : Int) + 1 := by omega
  simp
  generalize w.drew = w1 at hgd hkd ⊢
  have hi0 : (Try.prog.info? 106).any (fun i => i.size == 1) = true := by kernel_rfl
  obtain ⟨i, hi, hi1⟩ : ∃ i, Try.prog.info? 106 = some i ∧ i.size = 1 := by
    cases h : Try.prog.info? 106 with
    | none => rw [h] at hi0; cases hi0
    | some i => rw [h] at hi0; exact ⟨i, rfl, by simpa using hi0⟩
  have hptr : ∀ j, j < M.l.length → ∃ e, M.l[j]? = some e ∧ cur[j]? = some (Value.pointer (some ⟨e.eb, 0, none⟩)) := fun j hj => ⟨_, List.getElem?_eq_getElem hj, h4 j _ (List.getElem?_eq_getElem hj)⟩
  have hrun := run_append_room (P := Try.prog) w1 103 103 106 i Try.underlying103 hi g k cap cur hgd ⟨g, so, none⟩ (M.l.length - (k + 1)) (cap - (k + 1)) ((cur.toList.drop (k + 1)).take (M.l.length - (k + 1))) (by simp [hi1]; omega) (by
      intro j u hu
      rw [List.getElem?_take] at hu
      split at hu
      · rename_i hj
        rw [List.getElem?_drop] at hu
        rw [Addr.add_lit, hso2 (by omega)]
        refine wcell_cell ?_
        rw [wcell_of hgd]
        simpa using hu
      · cases hu) (by
      intro u hu
      obtain ⟨j, hj⟩ := List.mem_iff_getElem?.1 hu
      rw [List.getElem?_take] at hj
      split at hj
      · rename_i hjl
        rw [List.getElem?_drop] at hj
        obtain ⟨e, _, he⟩ := hptr (k + 1 + j) (by omega)
        have : cur.toList[k + 1 + j]? = some (Value.pointer (some ⟨e.eb, 0, none⟩)) := by simpa using he
        rw [this] at hj
        simp at hj
        subst hj
        rfl
      · cases hj) (by omega) (by simp [hi1]; omega)
  have hrun' : (builtin .append #[103, 103] 103 #[] #[.slice (some ⟨g, 0, none⟩) k cap, .slice (some ⟨g, so, none⟩) (M.l.length - (k + 1)) (cap - (k + 1))]).run Try.prog w1 = .ok (.value (.slice (some ⟨g, 0, none⟩) (k + (M.l.length - (k + 1))) cap)) (w1.setRow g (cur.toList.take (k * i.size) ++ (cur.toList.drop (k + 1)).take (M.l.length - (k + 1)) ++ cur.toList.drop (k * i.size + ((cur.toList.drop (k + 1)).take (M.l.length - (k + 1))).length)).toArray) := by
    simp only [builtin, map_eq_pure_bind, Sem.run_bind, hrun]
    rfl
  rw [hi1, Nat.mul_one] at hrun'
  have hg2 := setRow_heap w1 g cur (cur.toList.take k ++ (cur.toList.drop (k + 1)).take (M.l.length - (k + 1)) ++ cur.toList.drop (k + ((cur.toList.drop (k + 1)).take (M.l.length - (k + 1))).length)).toArray _ _ hgd
  have hk2 : Kept (fun j => g = j) w1 (w1.setRow g (cur.toList.take k ++ (cur.toList.drop (k + 1)).take (M.l.length - (k + 1)) ++ cur.toList.drop (k + ((cur.toList.drop (k + 1)).take (M.l.length - (k + 1))).length)).toArray) :=
    ⟨rfl, rfl, rfl, by simp [World.setRow], fun j _ hj => setRow_other w1 g j _ (fun e => hj e.symm)⟩
  refine W_bi (by simp [b1, b2, b3, b4, b5, b6, hso]) hrun' (stab_nil _ _ _) ?_
  generalize hrow : (cur.toList.take k ++ (cur.toList.drop (k + 1)).take (M.l.length - (k + 1)) ++ cur.toList.drop (k + ((cur.toList.drop (k + 1)).take (M.l.length - (k + 1))).length)).toArray = row at hg2 hk2 ⊢
  have hrs : row.size = cap := by rw [← hrow]; simp; omega
  have hrg : ∀ (j : Nat) (e : BEnt), (M.l.eraseIdx k)[j]? = some e → row[j]? = some (Value.pointer (some ⟨e.eb, 0, none⟩)) := by
    intro j e hj
    rw [get_erase] at hj
    have hcl : cur.toList.length = cap := by simp [h3]
    have hlt : j < M.l.length - 1 := by
      split at hj
      · omega
      · have := (List.getElem?_eq_some_iff.1 hj).1; omega
    rw [← hrow, List.getElem?_toArray, List.append_assoc]
    by_cases hjk : j < k
    · rw [if_pos hjk] at hj
      rw [List.getElem?_append_left (by simp; omega), List.getElem?_take, if_pos hjk]
      simpa using h4 j e hj
    · rw [if_neg hjk] at hj
      rw [List.getElem?_append_right (by simp; omega), List.getElem?_append_left (by simp; omega)]
      rw [show (cur.toList.take k).length = k by simp; omega, List.getElem?_take, if_pos (by omega), List.getElem?_drop, show k + 1 + (j - k) = j + 1 by omega]
      simpa using h4 (j + 1) e hj
  generalize w1.setRow g row = w2 at hg2 hk2 ⊢
  have e5 : k + (M.l.length - (k + 1)) = M.l.length - 1 := by omega
  rw [e5]
  have b7 : ¬ (cap = M.l.length - 1) := by omega
  have b8 : M.l.length - (M.l.length - 1) = 1 := by omega
  have b9 : ((M.l.length - 1 : Nat) : Int) ≤ M.l.length := by omega
  simp
  refine W_bi (by simp [b3, b7, b8, b9]) (run_clear1 (o := M.l.length - 1) (c := cap - (M.l.length - 1)) hg2 (by omega)) (stab_nil _ _ _) ?_
  simp
  refine ⟨(hkd.trans hk2).put (fun _ => rfl) _, ?_, rfl⟩
  refine .inr ⟨g, cap, _, ?_, put_same (blk_lt hg2), ?_, h2, by simpa using hrs, ?_⟩
  · simp [List.length_eraseIdx, hk]
  · simp [List.length_eraseIdx, hk]; omega
  · intro j e hj
    have hlt : j < M.l.length - 1 := by
      have := (List.getElem?_eq_some_iff.1 hj).1
      simp [List.length_eraseIdx, hk] at this
      omega
    rw [Array.getElem?_setIfInBounds_ne (by omega)]
    exact hrg j e hj

def PopIs (w w' : World) (b : Nat) (M : BMap) (v : Value) : Prop :=
  (M.l.length = 0 ∧ v = .tuple #[.slice none 0 0, .int .i64 2] ∧ Kept none' w w') ∨
  ∃ (e : BEnt) (nb c : Nat) (L' : Value), M.l[nextAtM M]? = some e ∧ v = .tuple #[.slice (some ⟨nb, 0, none⟩) M.vs c, .int .i64 0] ∧ w.heap.size ≤ nb ∧ (∀ j, j < M.vs → wcell w' nb j = some (.int .u8 (e.val j))) ∧
    Kept (fun j => j = b ∨ M.L.ownBlock = some j) w w' ∧ L'.ownBlock = M.L.ownBlock ∧ MapAt w' b { M with L := L', l := M.l.eraseIdx (nextAtM M) }

set_option maxHeartbeats 1000000 in
theorem pop_ret (b : Nat) (M : BMap) (w : World) (h : MapAt w b M) (hty : M.ty = 3 ∨ M.ty = 4) (hV : M.vs ≤ 1000) (hfz : M.frozen = false) : Ret Try.prog 36 [.pointer (some ⟨b, 0, none⟩)] w fun v w' => PopIs w w' b M v := by
  refine ret_of_W Try.func36 rfl ok_bmap_Map_Pop ?_
  simp [c_bmap_Map_Pop]
  refine W_call0 (by simp) (changes_ret b M w h) ?_
  rintro v w1 ⟨rfl, rfl⟩
  simp [hfz]
  refine W_no (by simp) ?_
  simp
  refine W_call0 (by simp) (peek_ret b M w1 h hty hV) ?_
  rintro v w2 ⟨hk2, ⟨h0, rfl⟩ | ⟨e, nb, c, he, rfl, hnb, hby⟩⟩
  · simp
    refine W_yes (by simp) ?_
    simp
    exact .inl ⟨h0, rfl, hk2⟩
  · have hm2 := h.calm hk2
    have hlt : nextAtM M < M.l.length := (List.getElem?_eq_some_iff.1 he).1
    obtain ⟨hn, _⟩ := nextIs_some (M := M) (by omega)
    have hsm := h.small
    simp
    refine W_no (by simp) ?_
    simp
    refine W_call0 (by simp) (next_ret b M w2 hm2 hty) ?_
    rintro v w3 ⟨rfl, rfl⟩
    rw [hn]
    have hb3 := hm2.blk
    have hvar := hm2.row.var
    have e1 : IntKind.i64.wrap ((nextAtM M : Int) + 1) = (nextAtM M : Int) + 1 := i64w (by omega) (by omega)
    simp
    refine W_call0 (by simp [wcell_of hb3, BMap.cells, hvar, e1]) (sdelete_ret b M (nextAtM M) w3 hm2 hlt) ?_
    rintro v w4 ⟨hk4, hr4, ho4⟩
    have hb4 := hk4.has hb3 (by
      intro ho
      rcases hm2.row with ⟨hL, _⟩ | ⟨g, cap, cur, hL, hg, _⟩
      · rw [hL] at ho; simp [Value.ownBlock] at ho
      · rw [hL] at ho
        simp [Value.ownBlock] at ho
        subst ho
        exact heap_ne hg hb3 (by decide) rfl)
    have hvv := hr4.var
    simp
    refine W_store (by simp) (by simp [hvv]) (store_L hb4 hr4.one hr4.cellsL) (stab_nil _ _ _) ?_
    simp
    have hk5 : Kept (fun j => j = b ∨ M.L.ownBlock = some j) w3 (put w4 b (.cells { M with L := v }.cells 105 (0, 0))) := (hk4.mono fun _ _ h => .inr h).put (fun _ => .inl rfl) _
    have hr5 : RowAt (put w4 b (.cells { M with L := v }.cells 105 (0, 0))) v (M.l.eraseIdx (nextAtM M)) := by
      refine hr4.keep (S := fun j => j = b) ((Kept.refl (fun j => j = b) _).put (b := b) (fun _ => rfl) _) ?_
      rintro j hj rfl
      rcases hr4 with ⟨hL, _⟩ | ⟨g, cap, cur, hL, hg, _⟩
      · rw [hL] at hj; simp [Value.ownBlock] at hj
      · rw [hL] at hj
        simp [Value.ownBlock] at hj
        subst hj
        exact heap_ne hg hb4 (by decide) rfl
    have hnbS : ¬ (nb = b ∨ M.L.ownBlock = some nb) := by
      intro ho
      have : M.own b nb := by
        rcases ho with ho | ho
        · exact .inl ho
        · exact .inr (.inl ho)
      have := own_lt h this
      omega
    refine .inr ⟨e, nb, c, v, he, rfl, hnb, fun j hj => wcell_kept hk5 hnbS (hby j hj), (hk2.mono fun _ _ h => h.elim).trans hk5, ho4, hm2.erase (put_same (blk_lt hb4)) hr5 hk5⟩

/-- What a Push tells. -/
def PushIs (w w' : World) (b : Nat) (M : BMap) (m : List Nat) (v : Value) : Prop :=
  ((M.l.length : Int) = M.cap ∧ v = .int .i64 7 ∧ Kept none' w w') ∨
  ((M.l.length : Int) ≠ M.cap ∧ v = .int .i64 0 ∧ Kept (fun j => j = b ∨ M.L.ownBlock = some j) w w' ∧ ∃ (L' : Value) (a : BEnt), (∀ (j x : Nat), m[j]? = some x → a.val j = x) ∧ w.heap.size ≤ a.eb ∧ w.heap.size ≤ a.cb ∧ w.heap.size ≤ a.vb ∧
    (L'.ownBlock = M.L.ownBlock ∨ ∃ g, L'.ownBlock = some g ∧ w.heap.size ≤ g) ∧ MapAt w' b { M with L := L', l := M.l ++ [a] })

set_option maxHeartbeats 2000000 in
theorem push_ret (b : Nat) (M : BMap) (xb xo xc : Nat) (m : List Nat) (w : World) (h : MapAt w b M) (hty : M.ty = 3 ∨ M.ty = 4) (hV : M.vs = m.length) (hm0 : 0 < m.length) (hm1 : m.length ≤ 1000) (hmx : ∀ x ∈ m, x ≤ 255) (hlen : M.l.length < 1000) (hfz : M.frozen = false)
    (hx : ∀ (j x : Nat), m[j]? = some x → wcell w xb (xo + j) = some (.int .u8 x)) :
    Ret Try.prog 34 [.pointer (some ⟨b, 0, none⟩), .slice (some ⟨xb, xo, none⟩) m.length xc, .int .u64 0] w fun v w' => PushIs w w' b M m v := by
  refine ret_of_W Try.func34 rfl ok_bmap_Map_Push ?_
  have hb := h.blk
  simp [c_bmap_Map_Push]
  refine W_call0 (by simp) (changes_ret b M w h) ?_
  rintro v w1 ⟨rfl, rfl⟩
  simp [hfz]
  refine W_no (by simp) ?_
  simp
  refine W_call0 (by simp) (lined_ret b M w1 h) ?_
  rintro v w2 ⟨rfl, rfl⟩
  have hty' : (decide (M.ty = 3) || decide (M.ty = 4)) = true := by simpa using hty
  rw [hty']
  simp [wcell_of hb, BMap.cells, hV]
  refine W_no (by simp) ?_
  have hmd := h.calm (Kept.refl none' w2).drew
  have hkd : Kept none' w2 w2.drew := (Kept.refl _ _).drew
  have hl := h.row.len
  have hv := h.row.var
  simp [wcell_of hb, BMap.cells, hl, hv]
  generalize w2.drew = w3 at hmd hkd ⊢
  refine W_cond (t := decide ((M.l.length : Int) = M.cap)) (by simp) ?_ ?_
  · intro hf
    have hf' : (M.l.length : Int) = M.cap := by simpa using hf
    simp
    exact .inl ⟨hf', rfl, hkd⟩
  · intro hf
    have hf' : ¬ (M.l.length : Int) = M.cap := by simpa using hf
    have hm4 := hmd.calm (Kept.refl none' w3).drew
    have hk4 := hkd.drew
    have hb4 := hm4.blk
    have hx4 : ∀ (j x : Nat), m[j]? = some x → wcell w3.drew xb (xo + j) = some (.int .u8 x) := fun j x hj => wcell_kept hk4 (fun h => h) (hx j x hj)
    simp [wcell_of hmd.blk, BMap.cells, hv]
    have hs4 := hk4.size
    generalize w3.drew = w4 at hm4 hk4 hb4 hx4 hs4 ⊢
    refine W_call (by simp) (clone_bys xb xo xc m w4 hx4 hm1) ?_
    rintro v w5 ⟨hk5, hB5, ho5⟩
    have hm5 := hm4.calm hk5
    refine ⟨?_, ?_⟩
    · intro e he v' hv'
      simp at he
      subst he
      simp [wcell_of hb4, BMap.cells] at hv'
      simp [wcell_of hm5.blk, BMap.cells]
      exact hv'
    obtain ⟨g, cap, rfl, hcap, hown, _⟩ := hB5.form hm0
    have hg5 := ho5 g hown
    obtain ⟨g', cap', cur, hge, hg, hc1, hc2, hc3, hc4⟩ : ∃ g' cap' cur, Value.slice (some ⟨g, 0, none⟩) m.length cap = .slice (some ⟨g', 0, none⟩) m.length cap' ∧ w5.heap[g']? = some (.cells cur 5 (0, 0)) ∧ m.length ≤ cap' ∧ cap' ≤ maxLen ∧ cur.size = cap' ∧ ∀ (i : Nat) (x : Nat), m[i]? = some x → cur[i]? = some (Value.int .u8 x) := by
      rcases hB5 with ⟨h0, _⟩ | h0
      · cases h0
      · exact h0
    simp only [Value.slice.injEq, Option.some.injEq, Addr.mk.injEq] at hge
    obtain ⟨⟨rfl, _⟩, _, rfl⟩ := hge
    simp
    have hcell := hp_new w5 (.cells #[.slice (some ⟨g, 0, none⟩) m.length cap] 80)
    have hk6 : Kept none' w5 (w5.alloc (.cells #[.slice (some ⟨g, 0, none⟩) m.length cap] 80)) := (Kept.refl _ _).alloc _
    have hs6 : (w5.alloc (.cells #[.slice (some ⟨g, 0, none⟩) m.length cap] 80)).heap.size = w5.heap.size + 1 := by simp
    generalize w5.alloc (.cells #[.slice (some ⟨g, 0, none⟩) m.length cap] 80) = w6 at hcell hk6 hs6 ⊢
    have hent := hp_new w6 (.cells #[.string ⟨#[]⟩, .pointer (some ⟨w5.heap.size, 0, none⟩), .int .i64 0] 109)
    have hk7 : Kept none' w6 (w6.alloc (.cells #[.string ⟨#[]⟩, .pointer (some ⟨w5.heap.size, 0, none⟩), .int .i64 0] 109)) := (Kept.refl _ _).alloc _
    have hs7 : (w6.alloc (.cells #[.string ⟨#[]⟩, .pointer (some ⟨w5.heap.size, 0, none⟩), .int .i64 0] 109)).heap.size = w6.heap.size + 1 := by simp
    generalize w6.alloc (.cells #[.string ⟨#[]⟩, .pointer (some ⟨w5.heap.size, 0, none⟩), .int .i64 0] 109) = w7 at hent hk7 hs7 ⊢
    have hk57 := hk6.trans hk7
    have hE7 : EntAt w7 M.vs ⟨w6.heap.size, w5.heap.size, g, ⟨#[]⟩, 0, fun j => ((m.getD j 0 : Nat) : Int)⟩ := by
      refine ⟨hent, ⟨cap, by omega, ?_⟩, ⟨cur, hk57.has hg (fun h => h), by omega, ?_⟩, fun j => ?_⟩
      · rw [hV]; exact hk7.has hcell (fun h => h)
      · intro j hj
        rw [hV] at hj
        have hmj := List.getElem?_eq_getElem hj
        rw [hc4 j _ hmj]
        simp [List.getD_eq_getElem?_getD, hmj]
      · show 0 ≤ ((m.getD j 0 : Nat) : Int) ∧ ((m.getD j 0 : Nat) : Int) ≤ 255
        by_cases hj : j < m.length
        · have := hmx _ (List.getElem_mem hj)
          rw [List.getD_eq_getElem?_getD, List.getElem?_eq_getElem hj]
          simp
          omega
        · rw [List.getD_eq_getElem?_getD, List.getElem?_eq_none (by omega)]
          simp
    have hm7 := hm5.calm hk57
    have hown5 : ∀ j, M.own b j → j < w5.heap.size := fun j hj => own_lt hm5 hj
    have hown4 : ∀ j, M.own b j → j < w4.heap.size := fun j hj => own_lt hm4 hj
    generalize hae : (⟨w6.heap.size, w5.heap.size, g, ⟨#[]⟩, 0, fun j => ((m.getD j 0 : Nat) : Int)⟩ : BEnt) = a at hE7
    have ha1 : a.eb = w6.heap.size := by rw [← hae]
    have ha2 : a.cb = w5.heap.size := by rw [← hae]
    have ha3 : a.vb = g := by rw [← hae]
    have ha4 : ∀ (j x : Nat), m[j]? = some x → a.val j = x := by
      intro j x hj
      rw [← hae]
      simp [List.getD_eq_getElem?_getD, hj]
    have hrowp := hp_new w7 (.cells #[.pointer (some ⟨a.eb, 0, none⟩)] 106)
    have hk8 : Kept none' w7 (w7.alloc (.cells #[.pointer (some ⟨a.eb, 0, none⟩)] 106)) := (Kept.refl _ _).alloc _
    have hs8 : (w7.alloc (.cells #[.pointer (some ⟨a.eb, 0, none⟩)] 106)).heap.size = w7.heap.size + 1 := by simp
    have ha1' : w5.heap.size + 1 = a.eb := by omega
    have hw7 : w7.heap.size = a.eb + 1 := by omega
    rw [ha1']
    rw [hw7] at hrowp
    have hm8 := hm7.calm hk8
    have hE8 := hE7.keep hk8 (fun h => h) (fun h => h) (fun h => h)
    have hs5 := hk5.size
    generalize w7.alloc (.cells #[.pointer (some ⟨a.eb, 0, none⟩)] 106) = w8 at hrowp hk8 hs8 hm8 hE8 ⊢
    obtain ⟨L', w9, hrun, hr9, hk9, ho9⟩ := row_append (a := a) hm8.row (by omega) hrowp
    refine W_bi (by simp [hv]) hrun (stab_nil _ _ _) ?_
    have hb9 := hk9.has hm8.blk (by
      intro ho
      rcases hm8.row with ⟨hL, _⟩ | ⟨g, cap, cur, hL, hg, _⟩
      · rw [hL] at ho; simp [Value.ownBlock] at ho
      · rw [hL] at ho
        simp [Value.ownBlock] at ho
        subst ho
        exact heap_ne hg hm8.blk (by decide) rfl)
    have hvv := hr9.var
    refine W_store (by simp) (by simp [hvv]) (store_L hb9 hr9.one hr9.cellsL) (stab_nil _ _ _) ?_
    have hk10 : Kept (fun j => j = b ∨ M.L.ownBlock = some j) w8 (put w9 b (.cells { M with L := L' }.cells 105 (0, 0))) := (hk9.mono fun _ _ h => .inr h).put (fun _ => .inl rfl) _
    have hr10 : RowAt (put w9 b (.cells { M with L := L' }.cells 105 (0, 0))) L' (M.l ++ [a]) := by
      refine hr9.keep (S := fun j => j = b) ((Kept.refl (fun j => j = b) _).put (b := b) (fun _ => rfl) _) ?_
      rintro j hj rfl
      rcases hr9 with ⟨hL, _⟩ | ⟨g, cap, cur, hL, hg, _⟩
      · rw [hL] at hj; simp [Value.ownBlock] at hj
      · rw [hL] at hj
        simp [Value.ownBlock] at hj
        subst hj
        exact heap_ne hg hb9 (by decide) rfl
    have hm10 := hm8.push (L' := L') hE8 (fun i hi => by have := hown5 i hi; have := hown4 i hi; omega) (put_same (blk_lt hb9)) hr10 hk10 hlen
    simp
    refine .inr ⟨hf', rfl, ?_, L', a, ha4, by omega, by omega, by omega, ?_, hm10⟩
    · exact (((hk4.trans hk5).trans hk57).trans hk8 |>.mono fun _ _ h => h.elim).trans hk10
    · rcases ho9 with q | q
      · exact .inl q
      · exact .inr ⟨_, q, by omega⟩
end Go.Proofs.Ytihaopoehhnbkaa
