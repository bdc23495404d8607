/- Layer 19, part H: Save on the stack. -/
import Derived.Test.YthfchnaocbkofaaRegG
set_option linter.unusedSimpArgs false
set_option linter.unusedVariables false
set_option maxRecDepth 8000
namespace Go.Proofs.Ythfchnaocbkofaa
open Go.Eng

theorem writes_stack (b : Nat) (a : RVal) (w : World) (ha : a.tag = 3) : Ret Try.prog 31 [.pointer (some ⟨b, 0, none⟩), a.val] w
    fun v w' => v = .bool true ∧ Kept none' w w' := by
  refine ret_of_W Try.func31 rfl ok_region_Memory_writes ?_
  simp [c_region_Memory_writes]
  refine W_no (by simp [ha]) ?_
  simp [ha]
  exact (Kept.refl _ _).alloc _

/-- What a save of k bytes on the stack makes of the memory, and what it tells. -/
def saveS (m : RMem) (s k : Int) (v : RVal) : RMem × Int :=
  if sizeOk k ∧ 0 < v.tag ∧ v.tag ≤ 5 ∧ -64 ≤ s ∧ s + k ≤ 0 then
    if v.tag = 1 then (mark (withBytes m (s + 64).toNat ((s + 64).toNat + k.toNat) v.n) (s + 64).toNat k.toNat, 0)
    else if k = 8 ∧ (s + 64).toNat % 8 = 0 then ({ mark m (s + 64).toNat 8 with kept := fset (mark m (s + 64).toNat 8).kept ((s + 64).toNat / 8) v }, 0)
    else (m, 14)
  else (m, 14)

theorem save_stack (b : Nat) (m : RMem) (a v : RVal) (off k : Int) (w : World) (hm : IsMem w b m) (ha : a.tag = 3) (ho1 : -9223372036854775808 ≤ off) (ho2 : off ≤ 9223372036854775807) (hv : v.tag = 1 → 0 ≤ v.n) :
    Ret Try.prog 12 [.pointer (some ⟨b, 0, none⟩), a.val, .int .i64 off, .int .i64 k, v.val] w
      fun r w' => Kept (· = b) w w' ∧ r = .int .i64 (saveS m (IntKind.i64.wrap a.n + off) k v).2 ∧ IsMem w' b (saveS m (IntKind.i64.wrap a.n + off) k v).1 := by
  refine ret_of_W Try.func12 rfl ok_region_Memory_Save ?_
  have hb' := blk_lt hm
  simp only [c_region_Memory_Save]
  have h6 := hp_new w (.cells a.arr 43)
  have h4 := hp_new (w.alloc (.cells a.arr 43)) (.cells v.arr 43)
  have h6' := hp_old h6 (.cells v.arr 43)
  have hm0 : IsMem ((w.alloc (.cells a.arr 43)).alloc (.cells v.arr 43)) b m := hp_old (hp_old hm _) _
  have hk0 : Kept none' w ((w.alloc (.cells a.arr 43)).alloc (.cells v.arr 43)) := ((Kept.refl _ _).alloc _).alloc _
  rw [alloc_size] at h4
  simp
  generalize (w.alloc (.cells a.arr 43)).alloc (.cells v.arr 43) = w2 at h4 h6' hm0 hk0 ⊢
  refine W_call0 (by simp) (sized_ret k w2) ?_
  rintro r w3 ⟨rfl, rfl⟩
  simp
  have fail : ∀ w', Kept none' w w' → Kept (· = b) w w' := fun w' h => h.mono (fun _ _ h => h.elim)
  by_cases hs : sizeOk k ∧ 0 < v.tag ∧ v.tag ≤ 5
  · have hs' := hs
    unfold sizeOk at hs'
    refine W_no (by simp [wcell_of h4]; omega) ?_
    simp
    refine W_call0 (by simp [rval_row h6']) (view_stack b a off k w3 ha ho1 ho2 (by omega) (by omega)) ?_
    rintro r w4 ⟨hk1, hr⟩
    have hk2 := hk0.trans hk1
    have h4' := hk1.has h4 (fun h => h)
    have h6'' := hk1.has h6' (fun h => h)
    have hm1 : IsMem w4 b m := hk1.has hm0 (fun h => h)
    generalize hN : IntKind.i64.wrap a.n = N at *
    by_cases hin : -64 ≤ N + off ∧ N + off + k ≤ 0
    · rw [if_pos hin] at hr
      obtain ⟨f, hf, rfl⟩ := hr
      have hne : ¬ (64 = f) := by omega
      simp [hne, rval_row h6'']
      refine W_yes (by simp) ?_
      refine W_call0 (by simp [rval_row h6'']) (writes_stack b a w4 ha) ?_
      rintro r w5 ⟨rfl, hk3⟩
      have hk4 := hk2.trans hk3
      have h4'' := hk3.has h4' (fun h => h)
      have h6x := hk3.has h6'' (fun h => h)
      have hm2 : IsMem w5 b m := hk3.has hm1 (fun h => h)
      simp
      refine W_no (by simp) ?_
      simp
      have hff : (N + off + 64).toNat = f := by omega
      obtain ⟨n, rfl⟩ : ∃ n : Nat, k = n := ⟨k.toNat, by omega⟩
      have hcond : sizeOk n ∧ 0 < v.tag ∧ v.tag ≤ 5 ∧ -64 ≤ N + off ∧ N + off + n ≤ 0 := ⟨hs.1, hs.2.1, hs.2.2, hin.1, hin.2⟩
      by_cases ht : v.tag = 1
      · refine W_yes (by simp [wcell_of h4'', ht]) ?_
        simp
        refine W_call0 (by simp [rval_row h6x, wcell_of h4'']) (number_stack b m a f n (64 - f) v.n w5 hm2 ha (by omega) (by omega) (hv ht)) ?_
        rintro r w6 ⟨rfl, hk5, hm3⟩
        simp
        have hl : saveS m (N + off) n v = (mark (withBytes m f (f + n) v.n) f n, 0) := by
          unfold saveS
          rw [hff, if_pos hcond, if_pos ht]
          simp
        rw [hl]
        exact ⟨(fail _ hk4).trans (hk5.mono fun _ _ h => h), rfl, hm3⟩
      · refine W_no (by simp [wcell_of h4'', ht]) ?_
        simp
        refine W_call0 (by simp [rval_row h6x]) (exact_ret a f n w5) ?_
        rintro r w6 ⟨rfl, hk5⟩
        have hk6 := hk4.trans hk5
        have h4y := hk5.has h4'' (fun h => h)
        have hm3 : IsMem w6 b m := hk5.has hm2 (fun h => h)
        have hmod : (f : Int).tmod 8 = ((f % 8 : Nat) : Int) := by rw [Int.tmod_eq_emod_of_nonneg (by omega)]; omega
        simp
        refine W_cond (t := !decide (n = 8 ∧ f % 8 = 0)) ?_ ?_ ?_
        · rw [hmod]
          simp [ha]
          have e1 : ((n : Int) = 8) = (n = 8) := by apply propext; omega
          have e2 : ((f : Int) % 8 = 0) = (f % 8 = 0) := by apply propext; omega
          simp only [e1, e2]
        · intro h8
          have h8' : ¬ ((n : Int) = 8 ∧ f % 8 = 0) := by
            simp at h8
            omega
          simp
          have hl : saveS m (N + off) n v = (m, 14) := by
            unfold saveS
            rw [hff, if_pos hcond, if_neg ht, if_neg h8']
          rw [hl]
          exact ⟨fail _ hk6, rfl, hm3⟩
        · intro h8
          have h8' : (n : Int) = 8 ∧ f % 8 = 0 := by
            simp at h8
            omega
          obtain ⟨h9, h10⟩ := h8'
          have h9' : n = 8 := by omega
          subst h9'
          simp
          refine W_call0 (by simp) (mark_ret b m f 8 w6 hm3 (by omega)) ?_
          rintro r w7 ⟨rfl, hk7, hm4⟩
          have hvb : w.heap.size + 1 ≠ b := by omega
          have h4z : w7.drew.heap[w.heap.size + 1]? = some (.cells v.arr 43 (0, 0)) := hk7.has h4y hvb
          have hm5 : IsMem w7.drew b (mark m f 8) := hm4
          have hk8 := hk7.drew
          have b2 : 0 ≤ (f : Int) / 8 := by omega
          have b3 : (f : Int) / 8 < 8 := by omega
          have hd : IntKind.i64.wrap ((f : Int) / 8) = (f : Int) / 8 := div8 f (by omega)
          simp
          generalize w7.drew = w8 at h4z hm5 hk8 ⊢
          refine W_store (by simp [hd, b2, b3, div8n]) (by simp [rval_row h4z]) (store_kept hm5 (k := f / 8) (by omega) v) (stab_nil _ _ _) ?_
          have hl : saveS m (N + off) (8 : Nat) v = ({ mark m f 8 with kept := fset (mark m f 8).kept (f / 8) v }, 0) := by
            unfold saveS
            rw [hff, if_pos hcond, if_neg ht, if_pos ⟨h9, h10⟩]
          simp
          rw [show (8 : Int) = ((8 : Nat) : Int) from rfl, hl]
          exact ⟨((fail _ hk6).trans (hk8.mono fun _ _ h => h)).put (fun _ => rfl) _, rfl, isMem_put hm5 rfl⟩
    · rw [if_neg hin] at hr
      subst hr
      simp
      refine W_no (by simp) ?_
      simp
      refine W_yes (by simp) ?_
      have : ¬ (sizeOk k ∧ 0 < v.tag ∧ v.tag ≤ 5 ∧ -64 ≤ N + off ∧ N + off + k ≤ 0) := fun h => hin h.2.2.2
      simp [saveS, this]
      exact ⟨fail _ hk2, hm1⟩
  · have hs' := hs
    unfold sizeOk at hs'
    refine W_yes (by simp [wcell_of h4]; omega) ?_
    have : ∀ s, ¬ (sizeOk k ∧ 0 < v.tag ∧ v.tag ≤ 5 ∧ -64 ≤ s ∧ s + k ≤ 0) := fun s h => hs ⟨h.1, h.2.1, h.2.2.1⟩
    simp [saveS, this]
    exact ⟨fail _ hk0, hm0⟩
end Go.Proofs.Ythfchnaocbkofaa
