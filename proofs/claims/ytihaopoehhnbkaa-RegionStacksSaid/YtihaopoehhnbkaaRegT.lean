/- Layer 19, part T: Fill of the stack. -/
import Derived.Test.YtihaopoehhnbkaaRegS
import Derived.Laws.IdiomCopy
set_option linter.unusedSimpArgs false
set_option linter.unusedVariables false
set_option maxRecDepth 8000
namespace Go.Proofs.Ytihaopoehhnbkaa
open Go.Eng

theorem run_copy {P : Program} {dT sT ty elem : TypeId} {w : World} {b o n dCap sb so sCap : Nat} {c : Array Value} {T : TypeId} {x : Nat → Value} (hu : P.underlying dT = some (.slice elem)) (hs : (P.info? elem).map (·.size) = some 1)
    (hb : w.heap[b]? = some (.cells c T (0, 0))) (ho : o + n ≤ c.size) (hx : ∀ j, j < n → wcell w sb (so + j) = some (x j)) (h1 : ∀ j, j < n → (x j).oneCell' = true) :
    (builtin .copy #[dT, sT] ty #[] #[.slice (some ⟨b, o, none⟩) n dCap, .slice (some ⟨sb, so, none⟩) n sCap]).run P w =
      .ok (.value (.int .i64 n)) (put w b (.cells (setRow c o (List.ofFn (n := n) fun j => x j.val)) T (0, 0))) := by
  have hl := run_loadCells_list (P := P) w ⟨sb, so, none⟩ (List.ofFn (n := n) fun j => x j.val) (by
    intro j v hv
    have hj : j < n := by have := (List.getElem?_eq_some_iff.1 hv).1; simpa using this
    rw [List.getElem?_ofFn] at hv
    simp [hj] at hv
    subst hv
    rw [Addr.add_lit]
    exact wcell_cell (hx j hj))
  have hst := run_storeCells (P := P) (T := T) (fz := (0, 0)) (b := b) o (List.ofFn (n := n) fun j => x j.val) 0 c w hb (by simp; omega) (.inl (by simp)) (by
    intro v hv
    obtain ⟨j, rfl⟩ := List.mem_ofFn.1 hv
    exact h1 j j.2)
  cases hq : P.info? elem with
  | none => simp [hq] at hs
  | some i =>
    have hi : i.size = 1 := by simpa [hq] using hs
    simp at hl hst
    simp [builtin, Builtin.copy_, run_underlying hu, Builtin.lenOf, Builtin.firstCells, sizeOf, typeInfo, hq, hi, hl, hst]
    exact ⟨rfl, rfl⟩

theorem set_row (m : RMem) (f k : Nat) (x : Nat → Int) (h : f + k ≤ 64) : setRow m.cells (32 + f) (List.ofFn (n := k) fun j => Value.int .u8 (x j.val)) = (withRow m f (f + k) x).cells := by
  apply Array.ext_getElem?
  intro j
  have hs := mem_size m
  rw [setRow_get _ _ _ _ (by simp; omega)]
  simp only [List.length_ofFn]
  by_cases hj : j < 193
  · rw [mem_at (withRow m f (f + k) x) j hj, mem_at m j hj]
    by_cases h1 : 32 + f ≤ j ∧ j < 32 + f + k
    · rw [if_pos h1, List.getElem?_ofFn]
      rw [dif_pos (show j - (32 + f) < k by omega)]
      unfold RMem.at
      rw [if_neg (by omega), if_pos (by omega)]
      simp only [withRow]
      rw [if_pos (by omega), show j - 32 - f = j - (32 + f) from by omega]
    · rw [if_neg h1]
      unfold RMem.at
      split
      · rfl
      · split
        · simp only [withRow]; rw [if_neg (by omega)]
        · rfl
  · have e2 : (withRow m f (f + k) x).cells[j]? = none := by simp [mem_size]; omega
    have e1 : m.cells[j]? = none := by simp [hs]; omega
    rw [e1, e2, if_neg (by omega)]

theorem fill_stack (b : Nat) (m : RMem) (a : RVal) (sa : Option Addr) (k c : Nat) (x : Nat → Int) (w : World) (hm : IsMem w b m) (ha : a.tag = 3) (hk : k ≤ 1000)
    (hx : k = 0 ∨ ∃ sb so, sa = some ⟨sb, so, none⟩ ∧ ∀ j, j < k → wcell w sb (so + j) = some (.int .u8 (x j))) :
    Ret Try.prog 20 [.pointer (some ⟨b, 0, none⟩), a.val, .slice sa k c] w fun v w' => Kept (· = b) w w' ∧
      (if -64 ≤ IntKind.i64.wrap a.n ∧ IntKind.i64.wrap a.n + k ≤ 0 then v = .int .i64 0 ∧ IsMem w' b (fillS m (IntKind.i64.wrap a.n + 64).toNat k x) else v = .int .i64 14 ∧ IsMem w' b m) := by
  refine ret_of_W Try.func20 rfl ok_region_Memory_Fill ?_
  have hb' := blk_lt hm
  simp only [c_region_Memory_Fill]
  have h5 := hp_new w (.cells a.arr 29)
  have hm0 : IsMem (w.alloc (.cells a.arr 29)) b m := hp_old hm _
  have hk0 : Kept none' w (w.alloc (.cells a.arr 29)) := (Kept.refl _ _).alloc _
  simp
  generalize w.alloc (.cells a.arr 29) = w2 at h5 hm0 hk0 ⊢
  refine W_call0 (by simp [rval_row h5]) (view_stack b a 0 k w2 ha (by omega) (by omega) (by omega) (by omega)) ?_
  rintro v w3 ⟨hk1, hv⟩
  have hk2 := hk0.trans hk1
  have h5' := hk1.has h5 (fun h => h)
  have hm1 : IsMem w3 b m := hk1.has hm0 (fun h => h)
  have fail : ∀ w', Kept none' w w' → Kept (· = b) w w' := fun w' h => h.mono (fun _ _ h => h.elim)
  generalize hN : IntKind.i64.wrap a.n = N at *
  simp only [Int.add_zero] at hv
  by_cases hin : -64 ≤ N ∧ N + k ≤ 0
  · rw [if_pos hin] at hv
    obtain ⟨f, hf, rfl⟩ := hv
    have hsl : ∃ o, (if 64 = f then (⟨b, 32, none⟩ : Addr) else ⟨b, 32 + f, none⟩) = ⟨b, o, none⟩ ∧ (0 < k → o = 32 + f) := by
      by_cases h64 : 64 = f
      · rw [if_pos h64]; exact ⟨32, rfl, fun h => by omega⟩
      · rw [if_neg h64]; exact ⟨32 + f, rfl, fun _ => rfl⟩
    obtain ⟨o, ho, ho2⟩ := hsl
    rw [ho]
    have hff : (N + 64).toNat = f := by omega
    have hn64 : ¬ (64 < (k : Int)) := by omega
    simp [hn64, rval_row h5']
    refine W_yes (by simp [hn64]) ?_
    refine W_call0 (by simp [rval_row h5']) (writes_stack b a w3 ha) ?_
    rintro v w4 ⟨rfl, hk3⟩
    have hk4 := hk2.trans hk3
    have h5'' := hk3.has h5' (fun h => h)
    have hm2 : IsMem w4 b m := hk3.has hm1 (fun h => h)
    simp
    refine W_no (by simp [hn64]) ?_
    simp
    by_cases hk0' : k = 0
    · subst hk0'
      have hrun : (builtin .copy #[38, 38] 3 #[] #[.slice (some ⟨b, o, none⟩) 0 (64 - f), .slice sa 0 c]).run Try.prog w4 = .ok (.value (.int .i64 0)) w4 := by
        have h := run_copy_none (P := Try.prog) w4 38 38 3 5 (some ⟨b, o, none⟩) sa 0 (64 - f) 0 c Try.underlying38 (by kernel_rfl) (by simp)
        simp only [builtin, map_eq_pure_bind, Sem.run_bind, h]
        rfl
      refine W_bi (by simp) hrun (stab_nil _ _ _) ?_
      have hm3 : IsMem w4 b (withRow m f (f + 0) x) := by
        have : withRow m f (f + 0) x = m := by
          refine rmem_ext rfl ?_ rfl rfl rfl
          funext q
          simp only [withRow]
          rw [if_neg (by omega)]
        rw [this]; exact hm2
      simp
      refine W_yes (by simp [wcell_of h5'', ha]) ?_
      refine W_call0 (by simp) (mark_ret b _ f 0 w4 hm3 (by omega)) ?_
      rintro v w5 ⟨rfl, hk5, hm5⟩
      simp
      refine ⟨(fail _ hk4).trans (hk5.mono fun _ _ h => h), ⟨by omega, by omega⟩, ?_⟩
      rw [hff]
      exact hm5
    · obtain ⟨sb, so, rfl, hcells⟩ := hx.resolve_left hk0'
      have hcells' : ∀ j, j < k → wcell w4 sb (so + j) = some (.int .u8 (x j)) := fun j hj => wcell_kept hk4 (fun h => h) (hcells j hj)
      rw [ho2 (by omega)]
      refine W_bi (by simp) (run_copy (o := 32 + f) (dCap := 64 - f) (sCap := c) (elem := 5) Try.underlying38 (by kernel_rfl) hm2 (by rw [mem_size]; omega) hcells' (fun j _ => rfl)) (stab_nil _ _ _) ?_
      rw [set_row m f k x (by omega)]
      have hm3 : IsMem (put w4 b (.cells (withRow m f (f + k) x).cells 92 (0, 0))) b (withRow m f (f + k) x) := put_same (blk_lt hm2)
      have h53 : (put w4 b (.cells (withRow m f (f + k) x).cells 92 (0, 0))).heap[w.heap.size]? = some (.cells a.arr 29 (0, 0)) := by
        rw [put_other (by omega)]; exact h5''
      have hk6 := (fail _ hk4).put (b := b) (fun _ => rfl) (.cells (withRow m f (f + k) x).cells 92 (0, 0))
      generalize put w4 b (.cells (withRow m f (f + k) x).cells 92 (0, 0)) = w6 at hm3 h53 hk6 ⊢
      simp
      refine W_yes (by simp [wcell_of h53, ha]) ?_
      refine W_call0 (by simp) (mark_ret b _ f k w6 hm3 (by omega)) ?_
      rintro v w5 ⟨rfl, hk5, hm5⟩
      simp
      refine ⟨hk6.trans (hk5.mono fun _ _ h => h), ⟨by omega, by omega⟩, ?_⟩
      rw [hff]
      exact hm5
  · rw [if_neg hin] at hv
    subst hv
    simp
    refine W_no (by simp) ?_
    simp
    refine W_yes (by simp) ?_
    simp
    exact ⟨fail _ hk2, fun h => by omega, hm1⟩
end Go.Proofs.Ytihaopoehhnbkaa
