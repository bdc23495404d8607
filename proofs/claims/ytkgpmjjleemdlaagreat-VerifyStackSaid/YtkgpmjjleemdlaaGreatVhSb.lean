/- Layer 18: the walk of VerifyStack. -/
import Derived.Test.YtkgpmjjleemdlaaGreatVhSa
import Derived.Test.YtkgpmjjleemdlaaGreatVh7
import Derived.Test.YtkgpmjjleemdlaaGreatCmdsVk
set_option linter.unusedSimpArgs false
set_option linter.unusedVariables false
set_option maxRecDepth 8000
namespace Go.Proofs.YtkgpmjjleemdlaaGreat
open Go.Eng Go.Sort
attribute [local irreducible] Go.Eng.W

theorem off_mod (x : Int) : ∃ o : Int, -70 ≤ o ∧ o < 70 ∧ IntKind.i16.wrap (IntKind.i64.wrap ((IntKind.i64.wrap ((IntKind.u64.wrap x).tmod 140)) - 70)) = o := by
  obtain ⟨k, hk, ek⟩ := mod_k x 140 (by omega)
  refine ⟨(k : Int) - 70, by omega, by omega, ?_⟩
  rw [ek, i64w (n := (k : Int)) (by omega) (by omega), i64w (by omega) (by omega)]
  exact IntWalk.i16_in _ ⟨by omega, by omega⟩
theorem sz_mod (x : Int) : ∃ a : Nat, a < 4 ∧ IntKind.i64.wrap ((IntKind.u64.wrap x).tmod 4) = (a : Int) := by
  obtain ⟨k, hk, ek⟩ := mod_k x 4 (by omega)
  exact ⟨k, by omega, by rw [ek, i64w (by omega) (by omega)]⟩
theorem op_wrap {n : Int} {a : Nat} (ha : a < 4) (h0 : 0 ≤ n) (h1 : n ≤ 200) : IntKind.u8.wrap (IntKind.i64.wrap (n + IntKind.i64.wrap (8 * (a : Int)))) = n + 8 * (a : Int) := by
  rw [i64w (n := 8 * (a : Int)) (by omega) (by omega), i64w (by omega) (by omega), IntKind.wrap_u8]
  omega
theorem rem_8 {o : Int} (h0 : -70 ≤ o) (h1 : o < 70) : (decide (IntKind.i16.wrap (o.tmod 8) = 0)) = decide (o % 8 = 0) := by
  have : IntKind.i16.wrap (o.tmod 8) = o.tmod 8 := by
    have h2 := Int.tmod_lt_of_pos o (show (0 : Int) < 8 by omega)
    have h3 := Int.lt_tmod_of_pos o (show (0 : Int) < 8 by omega)
    exact IntWalk.i16_in _ ⟨by omega, by omega⟩
  rw [this]
  refine decide_eq_decide.2 ?_
  constructor
  · intro h
    have := Int.dvd_of_tmod_eq_zero h
    omega
  · intro h
    exact Int.tmod_eq_zero_of_dvd (Int.dvd_of_emod_eq_zero h)
theorem stx_arr (place : Bool) (a : Nat) (off : Int) : (stX place a off).arr = if place = true then #[.int .u8 (99 + 8 * (a : Int)), .int .u8 10, .int .u8 1, .int .i16 off, .int .i32 0] else #[.int .u8 (98 + 8 * (a : Int)), .int .u8 10, .int .u8 0, .int .i16 off, .int .i32 3] := by
  cases place <;> simp [stX, Ins.arr]
theorem ldx_arr (b : Nat) (off : Int) : (ldX b off).arr = #[.int .u8 (97 + 8 * (b : Int)), .int .u8 6, .int .u8 10, .int .i16 off, .int .i32 0] := by
  simp [ldX, Ins.arr]
theorem stack_two (x y : Ins) : (insCells [x, y]).toArray = (x.arr.toList ++ y.arr.toList).toArray := by simp [insCells]
abbrev zeroIns : Value := .agg #[.int .u8 0, .int .u8 0, .int .u8 0, .int .i16 0, .int .i32 0]
theorem row_sl {w : World} {v : Value} {xs : List Ins} (h : InsRow w v xs) (h0 : 0 < xs.length) : SlIs w v xs := by
  obtain ⟨g, c, hv, hc, _, hx⟩ := h.code h0
  exact .inr ⟨g, 0, c, hv, hc, hx, hx.lt h0⟩
set_option maxHeartbeats 16000000 in
theorem vstack_ret (x0 x1 y0 y1 : Int) (place : Bool) (w : World) (hchk : ∀ w', Kept none' w w' → Ret Tryz.prog 9 [] w' fun r w'' => r = .bool true ∧ Kept none' w' w'') :
    Ret Tryz.prog 3 [.agg #[.int .i64 x0, .int .i64 x1], .agg #[.int .i64 y0, .int .i64 y1], .bool place] w fun v w' => v = .bool true ∧ Kept none' w w' := by
  refine ret_of_W Tryz.func3 rfl ok_tipstafflaw18_VerifyStack ?_
  obtain ⟨o1, l1, u1, eo1⟩ := off_mod x0
  obtain ⟨o2, l2, u2, eo2⟩ := off_mod x1
  obtain ⟨a, ha, ea⟩ := sz_mod y0
  obtain ⟨b, hb, eb⟩ := sz_mod y1
  simp only [c_tipstafflaw18_VerifyStack]
  rw [W_assoc, W_assoc, W_seq]
  refine W_seg [.v (.agg #[.int .i64 x0, .int .i64 x1]), .v (.agg #[.int .i64 y0, .int .i64 y1]), .v (.bool place), .v (.bool false), .p 22 #[.int .i64 x0, .int .i64 x1], .p 22 #[.int .i64 y0, .int .i64 y1], .p 25 #[.int .i16 o1, .int .i16 o2], .v (.agg #[.int .i16 o1, .int .i16 o2]), .v (.int .i64 a), .v (.int .i64 b),
    .v undef, .v undef, .v undef, .v undef, .v undef, .v undef, .v undef, .v undef, .v undef, .v undef, .v undef, .v undef, .v undef, .v undef, .v undef, .v undef, .v undef, .v undef, .v undef, .v undef, .v undef] (by simp) ?_ (fun B hB => ?_) ?_
  · simp [slsOk, Sl.ok]
  · simp [eo1, eo2, ea, eb, slsIs, Sl.is]
  intro w1 hk1
  refine open_v (open_v (open_v (open_v (open_p fun b4 _ h4 => open_p fun b5 _ h5 => open_p fun b6 hb6 h6 => open_v (open_v (open_v ?_))))))
  repeat' refine open_v ?_
  refine open_nil ?_
  have lt4 := blk_lt h4
  have lt5 := blk_lt h5
  have lt6 := blk_lt h6
  rw [W_seq]
  refine W_seg [.v (.agg #[.int .i64 x0, .int .i64 x1]), .v (.agg #[.int .i64 y0, .int .i64 y1]), .v (.bool place), .v (.bool false), .any, .any, .v (.pointer (some ⟨b6, 0, none⟩)), .any, .v (.int .i64 a), .v (.int .i64 b),
    .any, .any, .any, .p 22 #[.int .i64 (szOf a), .int .i64 (szOf b)], .any, .any, .v undef, .v undef, .v undef, .v undef, .v undef, .v undef, .v undef, .v undef, .v undef, .v undef, .v undef, .v undef, .v undef, .v undef, .v undef] (by simp [lt4, lt5, lt6]) ?_ (fun B hB => ?_) ?_
  · simp [slsOk, Sl.ok, lt6]
  · rcases (by omega : a = 0 ∨ a = 1 ∨ a = 2 ∨ a = 3) with rfl | rfl | rfl | rfl <;> rcases (by omega : b = 0 ∨ b = 1 ∨ b = 2 ∨ b = 3) with rfl | rfl | rfl | rfl <;> simp [C_cond_eq, C_alt, szOf, slsIs, Sl.is]
  intro w2 hk2
  refine open_v (open_v (open_v (open_v (open_any fun u4 => open_any fun u5 => open_v (open_any fun u7 => open_v (open_v (open_any fun u10 => open_any fun u11 => open_any fun u12 => open_p fun b13 hb13 h13 => open_any fun u14 => open_any fun u15 => ?_))))))) 
  repeat' refine open_v ?_
  refine open_nil ?_
  have h62 := hk2.has h6 fun h => h
  have hk02 := hk1.trans hk2
  clear h4 h5 h6 lt4 lt5 lt6 hk1 hk2 eo1 eo2 ea eb
  have g60 : ∀ {w' : World}, w'.heap[b6]? = some (.cells #[.int .i16 o1, .int .i16 o2] 25 (0, 0)) → wcell w' b6 0 = some (.int .i16 o1) := fun h => by rw [wcell_of h]; rfl
  have g61 : ∀ {w' : World}, w'.heap[b6]? = some (.cells #[.int .i16 o1, .int .i16 o2] 25 (0, 0)) → wcell w' b6 1 = some (.int .i16 o2) := fun h => by rw [wcell_of h]; rfl
  have c1 := op_wrap (n := 98) ha (by omega) (by omega)
  have c2 := op_wrap (n := 99) ha (by omega) (by omega)
  have c3 := op_wrap (n := 97) hb (by omega) (by omega)
  simp only [W_seq, W_set]
  refine ok_intro (.agg (stX false a o1).arr) (by simp [g60 h62, c1, stx_arr]; try rfl) ?_
  try simp only [W_seq]
  refine W_new' (v := zeroIns) (cs := #[.int .u8 0, .int .u8 0, .int .u8 0, .int .i16 0, .int .i32 0]) (by simp) rfl ?_
  have h16 := hp_new w2 (.cells #[.int .u8 0, .int .u8 0, .int .u8 0, .int .i16 0, .int .i32 0] 28)
  have hk3 := (Kept.refl none' w2).alloc (.cells #[.int .u8 0, .int .u8 0, .int .u8 0, .int .i16 0, .int .i32 0] 28)
  have hb16 : w.heap.size ≤ w2.heap.size := hk02.size
  have n6 := Nat.ne_of_lt (blk_lt h62)
  have n13 := Nat.ne_of_lt (blk_lt h13)
  have h63 := hk3.has h62 fun h => h
  have h133 := hk3.has h13 fun h => h
  have hk03 := hk02.trans hk3
  generalize (w2.alloc (.cells #[.int .u8 0, .int .u8 0, .int .u8 0, .int .i16 0, .int .i32 0] 28)) = w3 at *
  generalize w2.heap.size = b16 at *
  have st : ∀ {w' : World} {cs : Array Value} (x : Ins), cs.size = 5 → w'.heap[b16]? = some (.cells cs 28 (0, 0)) → stv w' 5 (.pointer (some ⟨b16, 0, none⟩)) (.agg x.arr) = some (Eng.put w' b16 (.cells x.arr 28 (0, 0))) := fun x h1 h2 => box_store (v := x.val) h2 (n := 5) h1 (by simp [Value.cells]) (by exact ins_one _)
  try simp only [W_seq]
  refine W_store (xv := .pointer (some ⟨b16, 0, none⟩)) (vv := .agg (stX false a o1).arr) (by simp) (by simp) (st (stX false a o1) rfl h16) (stab_nil _ _ _) ?_
  have h164 := put_same (o := .cells (stX false a o1).arr 28) (blk_lt h16)
  have h64 := (put_other (o := .cells (stX false a o1).arr 28) (w := w3) n6).trans h63
  have h134 := (put_other (o := .cells (stX false a o1).arr 28) (w := w3) n13).trans h133
  have hk04 := hk03.putNew (b := b16) hb16 (.cells (stX false a o1).arr 28 (0, 0))
  generalize Eng.put w3 b16 (.cells (stX false a o1).arr 28 (0, 0)) = w4 at *
  rw [W_seq]
  refine W_cut (fun env' w' => Kept none' w w' ∧ w'.heap[b16]? = some (.cells (stX place a o1).arr 28 (0, 0)) ∧ w'.heap[b6]? = some (.cells #[.int .i16 o1, .int .i16 o2] 25 (0, 0)) ∧ w'.heap[b13]? = some (.cells #[.int .i64 (szOf a), .int .i64 (szOf b)] 22 (0, 0)) ∧
    env' = [.agg #[.int .i64 x0, .int .i64 x1], .agg #[.int .i64 y0, .int .i64 y1], .bool place, .bool false, u4, u5, .pointer (some ⟨b6, 0, none⟩), u7, .int .i64 a, .int .i64 b, u10, u11, u12, .pointer (some ⟨b13, 0, none⟩), u14, u15, .pointer (some ⟨b16, 0, none⟩), .agg (stX false a o1).arr, undef, undef, undef, undef, undef, undef, undef, undef, undef, undef, undef, undef, undef]) ?_ ?_
  · cases place with
    | false =>
      refine W_no (by simp) ?_
      simp
      exact ⟨hk04, h164, h64, h134⟩
    | true =>
      refine W_yes (by simp) ?_
      try simp only [W_seq]
      refine W_chkIn [.agg (stX true a o1).arr] (by simp [g60 h64, c2, stx_arr]; try rfl) ?_
      refine W_store (xv := .pointer (some ⟨b16, 0, none⟩)) (vv := .agg (stX true a o1).arr) (by simp) (by simp [g60 h64, c2, stx_arr]; try rfl) (st (stX true a o1) (by simp) h164) (stab_nil _ _ _) ?_
      simp
      exact ⟨hk04.putNew (b := b16) hb16 _, put_same (blk_lt h164), (put_other n6).trans h64, (put_other n13).trans h134⟩
  rintro env' w5 ⟨hk05, h165, h65, h135, rfl⟩
  have r16 : ∀ {w' : World}, w'.heap[b16]? = some (.cells (stX place a o1).arr 28 (0, 0)) → wrow w' b16 0 5 = some (stX place a o1).arr := fun h => wrow_box h (by simp)
  clear hk02 hk03 hk04 h16 h164 h63 h64 h133 h134 h62 h13 hk3
  rw [W_seq]
  refine W_cut (fun env' w' => Kept none' w w' ∧ w'.heap[b6]? = some (.cells #[.int .i16 o1, .int .i16 o2] 25 (0, 0)) ∧ w'.heap[b13]? = some (.cells #[.int .i64 (szOf a), .int .i64 (szOf b)] 22 (0, 0)) ∧ ∃ u16 u17 u18 u19 u20 v u22 u23, InsRow w' v (stackL place a b o1 o2) ∧ varV v = some v ∧
    env' = [.agg #[.int .i64 x0, .int .i64 x1], .agg #[.int .i64 y0, .int .i64 y1], .bool place, .bool false, u4, u5, .pointer (some ⟨b6, 0, none⟩), u7, .int .i64 a, .int .i64 b, u10, u11, u12, .pointer (some ⟨b13, 0, none⟩), u14, u15, u16, u17, u18, u19, u20, v, u22, u23, undef, undef, undef, undef, undef, undef, undef]) ?_ ?_
  · simp only [W_seq, W_draw]
    have hk06 := hk05.drew
    have h166 : w5.drew.heap[b16]? = _ := h165
    have h66 : w5.drew.heap[b6]? = _ := h65
    have h136 : w5.drew.heap[b13]? = _ := h135
    generalize w5.drew = w6 at *
    simp only [W_set]
    refine ok_intro (.agg (stX place a o1).arr) (by simp [r16 h166]) ?_
    try simp only [W_seq, W_set]
    refine ok_intro (.agg (ldX b o2).arr) (by simp [g61 h66, c3, ldx_arr]; try rfl) ?_
    rw [W_alt]
    constructor
    · simp only [W_seq]
      refine W_row' (v := .agg (insCells [stX place a o1, ldX b o2]).toArray) (cs := (insCells [stX place a o1, ldX b o2]).toArray) (by cases place <;> (simp [insCells]; exact ⟨by rw [Go.Eng.setRow_size]; simp, rfl⟩)) rfl ?_
      have hrow := ins_new (xs := [stX place a o1, ldX b o2]) (n := 2) (hp_new w6 (.cells (insCells [stX place a o1, ldX b o2]).toArray 28)) rfl (by omega) (by omega)
      have hk7 := (Kept.refl none' w6).alloc (.cells (insCells [stX place a o1, ldX b o2]).toArray 28)
      have hb18 : w.heap.size ≤ w6.heap.size := hk06.size
      have m6 := Nat.ne_of_lt (blk_lt h66)
      have m13 := Nat.ne_of_lt (blk_lt h136)
      have h67 := hk7.has h66 fun h => h
      have h137 := hk7.has h136 fun h => h
      have hk07 := hk06.trans hk7
      generalize (w6.alloc (.cells (insCells [stX place a o1, ldX b o2]).toArray 28)) = w7 at *
      generalize w6.heap.size = b18 at *
      simp only [W_seq]
      refine W_calmP (by simp) (end_ret w7 0) ?_
      rintro r w8 hk8 ⟨b19, rfl, hcode, hb19⟩
      have h68 := hk8.has h67 fun h => h
      have h138 := hk8.has h137 fun h => h
      have hrow8 := rowCalm hrow hk8
      have hk08 := hk07.trans hk8
      obtain ⟨v', w9, hrun, hrow9, hk9, hown⟩ := ins_append (c := 2) hrow8 (by simp) hcode
      simp only [W_seq]
      refine W_bi (vs := [.slice (some ⟨b18, 0, none⟩) 2 2, .slice (some ⟨b19, 0, none⟩) 2 2]) (by simp) hrun (stab_nil _ _ _) ?_
      have hvv := rowVar hrow9
      have hk09 : Kept none' w w9 := hk08.then hk9 (fun j hj e => by simp [Value.ownBlock] at e; omega)
      have h69 := hk9.has h68 (by simp [Value.ownBlock]; omega)
      have h139 := hk9.has h138 (by simp [Value.ownBlock]; omega)
      simp only [W_set]
      refine ok_intro v' (by simp [hvv]) ?_
      rw [W_post]
      exact ⟨hk09, h69, h139, _, _, _, _, _, _, _, _, hrow9, hvv, rfl⟩
    · simp only [W_seq]
      refine W_calmP (by simp) (end_ret w6 0) ?_
      rintro r w7 hk7 ⟨b19, rfl, hcode, hb19⟩
      have h67 := hk7.has h66 fun h => h
      have h137 := hk7.has h136 fun h => h
      have hk07 := hk06.trans hk7
      simp only [W_seq]
      refine W_row' (v := .agg (insCells [stX place a o1, ldX b o2]).toArray) (cs := (insCells [stX place a o1, ldX b o2]).toArray) (by cases place <;> (simp [insCells]; exact ⟨by rw [Go.Eng.setRow_size]; simp, rfl⟩)) rfl ?_
      have hrow := ins_new (xs := [stX place a o1, ldX b o2]) (n := 2) (hp_new w7 (.cells (insCells [stX place a o1, ldX b o2]).toArray 28)) rfl (by omega) (by omega)
      have hk8 := (Kept.refl none' w7).alloc (.cells (insCells [stX place a o1, ldX b o2]).toArray 28)
      have hb18 : w.heap.size ≤ w7.heap.size := hk07.size
      have m6 := Nat.ne_of_lt (blk_lt h67)
      have m13 := Nat.ne_of_lt (blk_lt h137)
      have h68 := hk8.has h67 fun h => h
      have h138 := hk8.has h137 fun h => h
      have hk08 := hk07.trans hk8
      have hcode8 := hcode.calm hk8
      generalize (w7.alloc (.cells (insCells [stX place a o1, ldX b o2]).toArray 28)) = w8 at *
      generalize w7.heap.size = b18 at *
      obtain ⟨v', w9, hrun, hrow9, hk9, hown⟩ := ins_append (c := 2) hrow (by simp) hcode8
      simp only [W_seq]
      refine W_bi (vs := [.slice (some ⟨b18, 0, none⟩) 2 2, .slice (some ⟨b19, 0, none⟩) 2 2]) (by simp) hrun (stab_nil _ _ _) ?_
      have hvv := rowVar hrow9
      have hk09 : Kept none' w w9 := hk08.then hk9 (fun j hj e => by simp [Value.ownBlock] at e; omega)
      have h69 := hk9.has h68 (by simp [Value.ownBlock]; omega)
      have h139 := hk9.has h138 (by simp [Value.ownBlock]; omega)
      simp only [W_set]
      refine ok_intro v' (by simp [hvv]) ?_
      rw [W_post]
      exact ⟨hk09, h69, h139, _, _, _, _, _, _, _, _, hrow9, hvv, rfl⟩
  rintro env' w6 ⟨hk06, h66, h136, u16, u17, u18, u19, u20, v, u22, u23, hrow, hvv, rfl⟩
  clear hk05 h165 h65 h135
  have hsl := row_sl hrow (by simp [stackL])
  obtain ⟨A, M, E, hr⟩ : ∃ (A : Int) (M : Nat) (E : Int), (savedB place (szOf a) o1 = false ∧ A = 0 ∧ M = 1 ∧ E = 13) ∨ (savedB place (szOf a) o1 = true ∧ loadedB place (szOf a) o1 (szOf b) o2 = false ∧ A = 1 ∧ M = 2 ∧ E = 13) ∨ (savedB place (szOf a) o1 = true ∧ loadedB place (szOf a) o1 (szOf b) o2 = true ∧ A = 0 ∧ M = 4 ∧ E = 0) := by
    cases h1 : savedB place (szOf a) o1 with
    | false => exact ⟨_, _, _, .inl ⟨rfl, rfl, rfl, rfl⟩⟩
    | true =>
      cases h2 : loadedB place (szOf a) o1 (szOf b) o2 with
      | false => exact ⟨_, _, _, .inr (.inl ⟨rfl, rfl, rfl, rfl, rfl⟩)⟩
      | true => exact ⟨_, _, _, .inr (.inr ⟨rfl, rfl, rfl, rfl, rfl⟩)⟩
  have hp := stack_check place ha hb (o1 := o1) (o2 := o2) (by omega) (by omega) (by omega) (by omega) w6 hsl hr
  simp only [W_seq]
  refine W_calm (vs := [v, .agg #[.slice none 0 0, .slice none 0 0, .bool false]]) (by simp [hvv]) hp ?_
  intro w7 hk7
  have h67 := hk7.has h66 fun h => h
  have h137 := hk7.has h136 fun h => h
  have hk07 := hk06.trans hk7
  clear hp hsl hrow hvv hk7 h66 h136 hk06
  try simp only [W_seq]
  refine W_chkIn [.int .i64 E, .agg #[.int .i64 A, .int .i64 (M : Nat)]] (by simp) ?_
  try simp only [W_seq]
  refine W_new' (v := .agg #[.int .i64 0, .int .i64 0]) (cs := #[.int .i64 0, .int .i64 0]) (by simp) rfl ?_
  have hR := hp_new w7 (.cells #[.int .i64 0, .int .i64 0] 32)
  have hk8 := (Kept.refl none' w7).alloc (.cells #[.int .i64 0, .int .i64 0] 32)
  have q6 := Nat.ne_of_lt (blk_lt h67)
  have q13 := Nat.ne_of_lt (blk_lt h137)
  have h68 := hk8.has h67 fun h => h
  have h138 := hk8.has h137 fun h => h
  have hb25 : w.heap.size ≤ w7.heap.size := hk07.size
  have hk08 := hk07.trans hk8
  generalize (w7.alloc (.cells #[.int .i64 0, .int .i64 0] 32)) = w8 at *
  generalize w7.heap.size = b25 at *
  have hs8 := box_store (v := .agg #[.int .i64 A, .int .i64 (M : Nat)]) hR (n := 2) rfl rfl (by simp [Value.cells, Value.oneCell'])
  have hcc : (Value.agg #[.int .i64 A, .int .i64 ((M : Nat) : Int)]).cells = #[.int .i64 A, .int .i64 (M : Nat)] := rfl
  rw [hcc] at hs8
  try simp only [W_seq]
  refine W_store (xv := .pointer (some ⟨b25, 0, none⟩)) (vv := .agg #[.int .i64 A, .int .i64 (M : Nat)]) (by simp) (by simp) hs8 (stab_nil _ _ _) ?_
  have hR9 := put_same (o := .cells #[.int .i64 A, .int .i64 (M : Nat)] 32) (blk_lt hR)
  have h69 := (put_other (o := .cells #[.int .i64 A, .int .i64 (M : Nat)] 32) (w := w8) q6).trans h68
  have h139 := (put_other (o := .cells #[.int .i64 A, .int .i64 (M : Nat)] 32) (w := w8) q13).trans h138
  have hk09 := hk08.putNew (b := b25) hb25 (.cells #[.int .i64 A, .int .i64 (M : Nat)] 32 (0, 0))
  generalize Eng.put w8 b25 (.cells #[.int .i64 A, .int .i64 (M : Nat)] 32 (0, 0)) = w9 at *
  clear hs8 hR h67 h137 h68 h138 hk07 hk08 hk8
  have a0 : wcell w9 b13 0 = some (.int .i64 (szOf a)) := by rw [wcell_of h139]; rfl
  have a1 : wcell w9 b13 1 = some (.int .i64 (szOf b)) := by rw [wcell_of h139]; rfl
  have za := sz_rng ha
  have zb := sz_rng hb
  have e1 : IntKind.i64.wrap o1 = o1 := i64w (by omega) (by omega)
  have e2 : IntKind.i64.wrap o2 = o2 := i64w (by omega) (by omega)
  have e3 : IntKind.i64.wrap (o1 + szOf a) = o1 + szOf a := i64w (by omega) (by omega)
  have e4 : IntKind.i64.wrap (o2 + szOf b) = o2 + szOf b := i64w (by omega) (by omega)
  have e5 := rem_8 l1 u1
  have e6 : (o1.tmod 8 = 0) = (o1 % 8 = 0) := propext ⟨fun h => by have := Int.dvd_of_tmod_eq_zero h; omega, fun h => Int.tmod_eq_zero_of_dvd (Int.dvd_of_emod_eq_zero h)⟩
  simp only [W_seq, W_set]
  refine ok_intro (.int .i64 E) (by simp) ?_
  try simp only [W_seq, W_set]
  refine ok_intro (.bool (savedB place (szOf a) o1)) (by
    unfold savedB
    cases place <;> simp [g60 h69, a0, e1, e3, e5, e6, pickV_bool]) ?_
  try simp only [W_seq, W_set]
  refine ok_intro (.bool (savedB place (szOf a) o1 && (decide (o1 ≤ o2) && decide (o2 + szOf b ≤ o1 + szOf a)))) (by
    simp [g60 h69, g61 h69, a0, a1, e1, e2, e3, e4, pickV_bool]
    try (cases savedB place (szOf a) o1 <;> simp)) ?_
  try rw [W_seq]
  refine W_cut (fun env' w' => w' = w9 ∧ env' = [.agg #[.int .i64 x0, .int .i64 x1], .agg #[.int .i64 y0, .int .i64 y1], .bool place, .bool false, u4, u5, .pointer (some ⟨b6, 0, none⟩), u7, .int .i64 a, .int .i64 b, u10, u11, u12, .pointer (some ⟨b13, 0, none⟩), u14, u15, u16, u17, u18, u19, u20, v, u22, u23,
      .tuple #[.agg #[.int .i64 A, .int .i64 (M : Nat)], .int .i64 E], .pointer (some ⟨b25, 0, none⟩), .int .i64 E, .bool (savedB place (szOf a) o1), .bool (savedB place (szOf a) o1 && loadedB place (szOf a) o1 (szOf b) o2), undef, undef]) ?_ ?_
  · cases place with
    | false =>
      refine W_no (by simp) ?_
      simp [loadedB]
    | true =>
      refine W_yes (by simp) ?_
      simp only [W_set]
      refine ok_intro (.bool (savedB true (szOf a) o1 && (decide (o2 = o1) && decide (szOf b = 8)))) (by
        simp [g60 h69, g61 h69, a1, pickV_bool]
        try (cases savedB true (szOf a) o1 <;> simp)) ?_
      simp [loadedB]
  rintro env' w' ⟨rfl, rfl⟩
  simp only [W_seq]
  have c25 : ∀ {w'' : World}, w''.heap[b25]? = some (.cells #[.int .i64 A, .int .i64 (M : Nat)] 32 (0, 0)) → wcell w'' b25 0 = some (.int .i64 A) := fun h => by rw [wcell_of h]; rfl
  rcases hr with ⟨hs, rfl, rfl, rfl⟩ | ⟨hs, hl, rfl, rfl, rfl⟩ | ⟨hs, hl, rfl, rfl, rfl⟩
  · rw [hs]
    refine W_no (by simp) ?_
    simp only [W_skip, W_seq]
    refine W_calm (by simp) (hchk w' hk09) ?_
    intro w10 hk10
    have hR10 := hk10.has hR9 fun h => h
    simp [c25 hR10]
    exact hk09.trans hk10
  · rw [hs, hl]
    refine W_no (by simp) ?_
    simp only [W_skip, W_seq]
    refine W_calm (by simp) (hchk w' hk09) ?_
    intro w10 hk10
    have hR10 := hk10.has hR9 fun h => h
    simp [c25 hR10]
    exact hk09.trans hk10
  · rw [hs, hl]
    refine W_yes (by simp) ?_
    simp only [W_seq]
    refine W_calm (by simp) (hchk w' hk09) ?_
    intro w10 hk10
    simp
    exact hk09.trans hk10
end Go.Proofs.YtkgpmjjleemdlaaGreat
