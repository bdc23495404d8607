/- Layer 19, part J: New. -/
import Derived.Test.YthfchnaocbkofaaRegI
set_option linter.unusedSimpArgs false
set_option linter.unusedVariables false
set_option maxRecDepth 8000
namespace Go.Proofs.Ythfchnaocbkofaa
open Go.Eng

def RMem.fresh (c : Nat → Int) (maps : Value) : RMem := ⟨c, fun _ => 0, fun _ => false, fun _ => RVal.zero, maps⟩
def freshMem : Array Value := (RMem.fresh (fun _ => 0) (.slice none 0 0)).cells

/- tipstaff/region.New -/
def c_region_New : Cmd :=
  (.seq
   (.seq
    (.new (some 3) 38 (.var 0) [])
   (.set 2 (.const (.pointer none))))
  (.seq
   (.seq
    .draw
   (.seq
    (.set 6 (.ld (some 32) (.var 3)))
   (.seq
    (.chk [(.var 1)])
   (.seq
    (.row (some 4) 24 0 (.const (.agg #[])) [(.ld (some 32) (.var 3))])
   (.seq
    (.bi (some 5) .append [39, 39] 39 [(.var 4), (.var 1)] [(.ld (some 32) (.var 3))])
   (.seq
    (.chk [(.upd 192 1 (.upd 0 32 (.const (.agg freshMem)) (.var 6)) (.var 5))])
   (.seq
    (.new (some 7) 74 (.upd 192 1 (.upd 0 32 (.const (.agg freshMem)) (.var 6)) (.var 5)) [])
   (.set 2 (.var 7)))))))))
  .ret))
abbrev v_region_New : List Nat := [0, 1, 4, 2, 6, 8, 5, 10]
abbrev k_region_New : List (List Nat) := []
abbrev r_region_New : List Ex := [(.var 2)]
theorem ok_region_New : compile Try.prog Try.f8 v_region_New k_region_New = some (c_region_New, r_region_New) := by kernel_rfl


theorem append_none {P : Program} {t ty e : TypeId} (ht : P.underlying t = some (.slice e)) (hi' : (P.info? e).isSome = true) (a : Addr) (n c : Nat) (hn : n ≤ c) (w : World) :
    (builtin .append #[t, t] ty #[] #[.slice (some a) n c, .slice none 0 0]).run P w = .ok (.value (.slice (some a) n c)) w := by
  obtain ⟨i, hi⟩ := Option.isSome_iff_exists.1 hi'
  simp [builtin, Builtin.append_, run_underlying ht, sizeOf, typeInfo, hi, Builtin.lenOf, hn, Builtin.firstCells, loadCells, loadCellsFrom]
  rfl

theorem setRow_get : ∀ (vs : List Value) (cs : Array Value) (off j : Nat), off + vs.length ≤ cs.size → (setRow cs off vs)[j]? = if off ≤ j ∧ j < off + vs.length then vs[j - off]? else cs[j]?
  | [], cs, off, j, h => by simp [setRow]; omega
  | v :: r, cs, off, j, h => by
    simp only [List.length_cons] at h
    show (setRow (cs.setIfInBounds off v) (off + 1) r)[j]? = _
    rw [setRow_get r _ _ _ (by simp; omega), Array.getElem?_setIfInBounds]
    simp only [List.length_cons]
    by_cases h1 : off = j
    · subst h1
      rw [if_neg (by omega), if_pos rfl, if_pos (by omega), if_pos (by omega)]
      simp
    · by_cases h2 : off + 1 ≤ j ∧ j < off + 1 + r.length
      · rw [if_pos h2, if_pos (by omega)]
        obtain ⟨k, hk⟩ : ∃ k, j - off = k + 1 := ⟨j - off - 1, by omega⟩
        rw [hk, show j - (off + 1) = k from by omega]
        simp
      · rw [if_neg h2, if_neg h1, if_neg (by omega)]

theorem fresh_cells (cs : Array Value) (c : Nat → Int) (maps : Value) (hs : cs.size = 32) (hc : ∀ i, i < 32 → cs[i]? = some (.int .u8 (c i))) : (setRow freshMem 0 cs.toList).setIfInBounds 192 maps = (RMem.fresh c maps).cells := by
  apply Array.ext_getElem?
  intro j
  have h0 : freshMem.size = 193 := mem_size _
  rw [Array.getElem?_setIfInBounds, setRow_get _ _ _ _ (by simp [hs, h0]), Go.Eng.setRow_size]
  by_cases hj : j < 193
  · rw [mem_at _ j hj]
    by_cases h1 : 192 = j
    · subst h1; rw [if_pos rfl, if_pos (by omega)]; rfl
    · rw [if_neg h1]
      by_cases h2 : j < 32
      · rw [if_pos (by simp [hs]; omega)]
        simp [hc j h2, RMem.at, h2, RMem.fresh]
      · rw [if_neg (by simp [hs]; omega)]
        unfold freshMem
        rw [mem_at _ j hj]
        have h3 : j < 192 := by omega
        simp only [RMem.at, RMem.fresh, if_neg h2, if_pos h3]
  · have e2 : (RMem.fresh c maps).cells[j]? = none := by simp [mem_size]; omega
    have e1 : freshMem[j]? = none := by simp [h0]; omega
    rw [e2, if_neg (by omega), if_neg (by simp [hs]; omega), e1]

theorem new_ret' (cs : Array Value) (c : Nat → Int) (w : World) (hs : cs.size = 32) (hc : ∀ i, i < 32 → cs[i]? = some (.int .u8 (c i))) : Ret Try.prog 8 [.agg cs, .slice none 0 0] w
    fun v w' => ∃ b maps, v = .pointer (some ⟨b, 0, none⟩) ∧ w.heap.size ≤ b ∧ Kept none' w w' ∧ IsMem w' b (RMem.fresh c maps) ∧ ∃ p c, maps = .slice p 0 c := by
  refine ret_of_W Try.func8 rfl ok_region_New ?_
  simp [c_region_New, hs]
  refine W_bi (by simp; rfl) (append_none (e := 24) (by kernel_rfl) (by kernel_rfl) _ 0 0 (Nat.le_refl _) _) (fun e _ v h => h) ?_
  have hk : Kept none' w ((w.alloc (.cells cs 38)).drew.alloc (.cells #[] 24)) := ((Kept.refl _ _).alloc _).drew.alloc _
  have hsz : freshMem.size = 193 := mem_size _
  simp [hs, hsz]
  have hsz2 : (setRow freshMem 0 cs.toList).size = 193 := by rw [Go.Eng.setRow_size]; exact hsz
  simp [hsz2, fresh_cells cs c _ hs hc]
  have hN : ((w.alloc (.cells cs 38)).drew.alloc (.cells #[] 24)).heap.size = w.heap.size + 1 + 1 := by simp
  generalize (w.alloc (.cells cs 38)).drew.alloc (.cells #[] 24) = w2 at hk hN ⊢
  rw [← hN]
  exact ⟨by omega, hk.alloc _, _, hp_new _ _, _, _, rfl⟩
theorem new_ret (cs : Array Value) (c : Nat → Int) (w : World) (hs : cs.size = 32) (hc : ∀ i, i < 32 → cs[i]? = some (.int .u8 (c i))) : Ret Try.prog 8 [.agg cs, .slice none 0 0] w
    fun v w' => ∃ b maps, v = .pointer (some ⟨b, 0, none⟩) ∧ w.heap.size ≤ b ∧ Kept none' w w' ∧ IsMem w' b (RMem.fresh c maps) :=
  (new_ret' cs c w hs hc).mono fun v w' ⟨b, maps, h1, h2, h3, h4, _⟩ => ⟨b, maps, h1, h2, h3, h4⟩
end Go.Proofs.Ythfchnaocbkofaa
