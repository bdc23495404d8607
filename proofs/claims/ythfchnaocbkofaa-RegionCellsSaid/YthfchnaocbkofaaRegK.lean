/- Layer 19, part K: saves. -/
import Derived.Test.YthfchnaocbkofaaRegJ
set_option linter.unusedSimpArgs false
set_option linter.unusedVariables false
set_option maxRecDepth 8000
namespace Go.Proofs.Ythfchnaocbkofaa
open Go.Eng

theorem bytesOk_fresh (c : Nat → Int) (maps : Value) (hc : ∀ i, 0 ≤ c i ∧ c i ≤ 255) : BytesOk (RMem.fresh c maps) := ⟨fun i => by simp [RMem.fresh], hc⟩
theorem bytesOk_mark {m : RMem} (h : BytesOk m) (f n : Nat) : BytesOk (mark m f n) := h
theorem bytesOk_withBytes {m : RMem} (h : BytesOk m) (f e : Nat) (n : Int) : BytesOk (withBytes m f e n) := ⟨fun i => by
  simp only [withBytes]
  split
  · exact byteN_range _ _
  · exact h.1 i, h.2⟩
theorem bytesOk_saveS {m : RMem} (h : BytesOk m) (s k : Int) (v : RVal) : BytesOk (saveS m s k v).1 := by
  unfold saveS
  split
  · split
    · exact bytesOk_mark (bytesOk_withBytes h _ _ _) _ _
    · split
      · exact h
      · exact h
  · exact h

theorem eqv_rval (w : World) (a b : RVal) (ha : a.cell = none) (hb : b.cell = none) : eqv w (.cons 0 none .int (.cons 1 none .int (.cons 2 none .int (.cons 3 none .ptr .nil)))) (.agg a.arr) (.agg b.arr) =
    some (a.tag == b.tag && (a.n == b.n && (a.slot == b.slot && (true && true)))) :=
  eqv_cons _ _ _ _ _ _ _ _ _ _ _ (arr_0 a) (arr_0 b) (eqv_int _ _ _ _) (eqv_cons _ _ _ _ _ _ _ _ _ _ _ (arr_1 a) (arr_1 b) (eqv_int _ _ _ _)
    (eqv_cons _ _ _ _ _ _ _ _ _ _ _ (arr_2 a) (arr_2 b) (eqv_int _ _ _ _) (eqv_cons _ _ _ _ _ _ _ _ _ _ _ (arr_3 a) (arr_3 b) (by rw [ha, hb]; rfl) (eqv_nil _ _ _))))

def ctx1 (i : Nat) : Int := if i = 0 then 1 else 0
theorem saves_a (maps : Value) : saveS (RMem.fresh ctx1 maps) (-8) 8 ⟨1, 5, 0, none⟩ = (mark (withBytes (RMem.fresh ctx1 maps) 56 64 5) 56 8, 0) := rfl
theorem saves_b (maps : Value) : loadS (mark (withBytes (RMem.fresh ctx1 maps) 56 64 5) 56 8) (-8) 2 = (⟨1, 5, 0, none⟩, 0) := rfl
theorem saves_c (maps : Value) : loadS (mark (withBytes (RMem.fresh ctx1 maps) 56 64 5) 56 8) (-16) 2 = (RVal.zero, 14) := rfl
theorem saves_d (maps : Value) : loadC (mark (withBytes (RMem.fresh ctx1 maps) 56 64 5) 56 8) 0 1 = (⟨1, 1, 0, none⟩, 0) := rfl

theorem box_fact (w : World) (z v : RVal) (T : TypeId) : (put (w.alloc (.cells z.arr T)) w.heap.size (.cells v.arr T (0, 0))).heap[w.heap.size]? = some (.cells v.arr T (0, 0)) ∧
    Kept none' w (put (w.alloc (.cells z.arr T)) w.heap.size (.cells v.arr T (0, 0))) ∧ (put (w.alloc (.cells z.arr T)) w.heap.size (.cells v.arr T (0, 0))).heap.size = w.heap.size + 1 :=
  ⟨put_same (by simp), ((Kept.refl _ _).alloc _).put (fun h => absurd h (by omega)) _, by simp⟩

theorem isMem_kept {w w' : World} {b : Nat} {m : RMem} (hk : Kept none' w w') (hm : IsMem w b m) : IsMem w' b m := hk.has hm (fun h => h)

theorem saves_ret (w : World) : Ret Try.prog 5 [] w fun v w' => v = .bool true ∧ Kept none' w w' := by
  refine ret_of_W Try.func5 rfl ok_tipstafflaw19_saves ?_
  have hz : (Value.agg #[.int .i64 0, .int .u64 0, .int .i64 0, .pointer none]) = .agg RVal.zero.arr := rfl
  simp only [c_tipstafflaw19_saves, hz]
  generalize hcs : Array.replicate 32 (Value.int .u8 0) = cs
  have hss : cs.size = 32 := by subst hcs; rfl
  simp [hss]
  refine W_call0 (by simp [hss]; rfl) (new_ret _ ctx1 _ (by simp [hss]) ?_) ?_
  · intro i hi
    rw [Array.getElem?_setIfInBounds]
    subst hcs
    simp
    by_cases h0 : i = 0
    · subst h0; simp [ctx1]
    · simp [ctx1, h0, hi]
      intro h; exact absurd h.symm h0
  rintro v w1 ⟨b, maps, rfl, hb, hk1, hm1⟩
  simp
  refine W_store (by simp) (by simp; rfl) (store_val (v := ⟨3, 0, 0, none⟩) (hp_new w1 _)) (stab_nil _ _ _) ?_
  obtain ⟨h3, hk2, hs2⟩ := box_fact w1 RVal.zero ⟨3, 0, 0, none⟩ 43
  generalize put (w1.alloc (.cells RVal.zero.arr 43)) w1.heap.size (.cells (RVal.mk 3 0 0 none).arr 43 (0, 0)) = w2 at h3 hk2 hs2 ⊢
  have hm2 := isMem_kept hk2 hm1
  have hkA := hk1.trans hk2
  have hw1 := hk1.size
  generalize w1.heap.size = n1 at *
  simp
  refine W_call0 (by simp [rval_row h3]; rfl) (save_stack b _ ⟨3, 0, 0, none⟩ ⟨1, 5, 0, none⟩ (-8) 8 w2 hm2 rfl (by decide) (by decide) (fun _ => by decide)) ?_
  rintro v w3 ⟨hk3, rfl, hm3⟩
  have e0 : IntKind.i64.wrap (RVal.mk 3 0 0 none).n + -8 = -8 := rfl
  rw [e0, saves_a] at hm3
  rw [e0, saves_a]
  have hb3 : n1 ≠ b := by
    rintro rfl
    have := hm2.symm.trans h3
    simp at this
  have h3' := hk3.has h3 hb3
  have hkB : Kept none' w w3 := hkA.then hk3 (fun i hi h => by omega)
  simp
  refine W_call0 (by simp [rval_row h3']) (load_stack b _ ⟨3, 0, 0, none⟩ (-8) 2 w3 hm3 rfl (by decide) (by decide) (bytesOk_mark (bytesOk_withBytes (bytesOk_fresh _ _ ?_) _ _ _) _ _)) ?_
  · intro i; unfold ctx1; split <;> omega
  rintro v w4 ⟨hk4, rfl⟩
  rw [e0, saves_b]
  have h3'' := hk4.has h3' (fun h => h)
  have hm4 := isMem_kept hk4 hm3
  have hkC := hkB.trans hk4
  simp
  refine W_store (by simp) (by simp) (store_val (v := RVal.mk 1 5 0 none) (hp_new w4 _)) (stab_nil _ _ _) ?_
  obtain ⟨hB7, hkb7, hs7⟩ := box_fact w4 RVal.zero (RVal.mk 1 5 0 none) 43
  generalize put (w4.alloc (.cells RVal.zero.arr 43)) w4.heap.size (.cells (RVal.mk 1 5 0 none).arr 43 (0, 0)) = w5 at hB7 hkb7 hs7 ⊢
  have h3c := hkb7.has h3'' (fun h => h)
  have hm5 := isMem_kept hkb7 hm4
  have hkD := hkC.trans hkb7
  generalize w4.heap.size = n4 at *
  simp
  refine W_call0 (by simp [rval_row h3c]) (load_stack b _ ⟨3, 0, 0, none⟩ (-16) 2 w5 hm5 rfl (by decide) (by decide) (bytesOk_mark (bytesOk_withBytes (bytesOk_fresh _ _ ?_) _ _ _) _ _)) ?_
  · intro i; unfold ctx1; split <;> omega
  rintro v w6 ⟨hk6, rfl⟩
  have e1 : IntKind.i64.wrap (RVal.mk 3 0 0 none).n + -16 = -16 := rfl
  rw [e1, saves_c]
  have hm6 := isMem_kept hk6 hm5
  have hB7' := hk6.has hB7 (fun h => h)
  have hkE := hkD.trans hk6
  simp
  refine W_store (by simp) (by simp) (store_val (v := RVal.zero) (hp_new w6 _)) (stab_nil _ _ _) ?_
  obtain ⟨hB10, hkb10, hs10⟩ := box_fact w6 RVal.zero RVal.zero 43
  generalize put (w6.alloc (.cells RVal.zero.arr 43)) w6.heap.size (.cells (RVal.zero).arr 43 (0, 0)) = w7 at hB10 hkb10 hs10 ⊢
  have hm7 := isMem_kept hkb10 hm6
  have hB7'' := hkb10.has hB7' (fun h => h)
  have hkF := hkE.trans hkb10
  generalize w6.heap.size = n6 at *
  simp
  refine W_call0 (by simp; rfl) (load_ctx b _ ⟨2, 0, 0, none⟩ 0 1 w7 hm7 rfl (by decide) (by decide) (bytesOk_mark (bytesOk_withBytes (bytesOk_fresh _ _ ?_) _ _ _) _ _)) ?_
  · intro i; unfold ctx1; split <;> omega
  rintro v w8 ⟨hk8, rfl⟩
  have e2 : IntKind.i64.wrap (RVal.mk 2 0 0 none).n + 0 = 0 := rfl
  rw [e2, saves_d]
  have hB7c := hk8.has hB7'' (fun h => h)
  have hkG := hkF.trans hk8
  simp
  refine W_store (by simp) (by simp) (store_val (v := RVal.mk 1 1 0 none) (hp_new w8 _)) (stab_nil _ _ _) ?_
  obtain ⟨hB13, hkb13, hs13⟩ := box_fact w8 RVal.zero (RVal.mk 1 1 0 none) 43
  generalize put (w8.alloc (.cells RVal.zero.arr 43)) w8.heap.size (.cells (RVal.mk 1 1 0 none).arr 43 (0, 0)) = w9 at hB13 hkb13 hs13 ⊢
  have hB7d := hkb13.has hB7c (fun h => h)
  have hkH := hkG.trans hkb13
  generalize w8.heap.size = n8 at *
  have hq : ∀ w, eqv w (.cons 0 none .int (.cons 1 none .int (.cons 2 none .int (.cons 3 none .ptr .nil)))) (.agg (RVal.mk 1 5 0 none).arr) (.agg { RVal.zero with tag := 1, n := 5 }.arr) = some true := fun w => by
    rw [eqv_rval _ _ _ rfl rfl]; rfl
  simp [rval_row hB7d, hq, wcell_of hB13]
  exact hkH
end Go.Proofs.Ythfchnaocbkofaa
