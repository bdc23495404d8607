/- Layer 19, part L: what is kept on a stack (plain laws). -/
import Derived.Test.YthfchnaocbkofaaRegK
set_option linter.unusedSimpArgs false
set_option linter.unusedVariables false
set_option maxRecDepth 8000
namespace Go.Proofs.Ythfchnaocbkofaa
open Go.Eng

/-- Eight values in a row. -/
def rows8 (g : Nat → RVal) : Array Value := Array.ofFn (n := 32) fun i => (g (i.val / 4)).at (i.val % 4)
theorem rows8_size (g : Nat → RVal) : (rows8 g).size = 32 := by simp [rows8]
theorem rows8_at (g : Nat → RVal) (i : Nat) (h : i < 32) : (rows8 g)[i]? = some ((g (i / 4)).at (i % 4)) := by simp [rows8, h]
theorem rows8_cell (g : Nat → RVal) (k j : Nat) (h : k < 8) (hj : j < 4) : (rows8 g)[k * 4 + j]? = some ((g k).at j) := by
  rw [rows8_at g _ (by omega), show (k * 4 + j) / 4 = k from by omega, show (k * 4 + j) % 4 = j from by omega]
theorem rows8_tag (g : Nat → RVal) (k : Nat) (h : k < 8) : (rows8 g)[k * 4]? = some (.int .i64 (g k).tag) := rows8_cell g k 0 h (by omega)
theorem arr_at (v : RVal) (j : Nat) (h : j < 4) : v.arr[j]? = some (v.at j) := by
  have : j = 0 ∨ j = 1 ∨ j = 2 ∨ j = 3 := by omega
  rcases this with rfl | rfl | rfl | rfl <;> rfl
theorem rows8_row (g : Nat → RVal) (k : Nat) (h : k < 8) : (rows8 g).extract (k * 4) (k * 4 + 4) = (g k).arr := by
  apply Array.ext_getElem?
  intro j
  rw [Array.getElem?_extract]
  have hs := rows8_size g
  by_cases hj : j < 4
  · rw [if_pos (by omega), rows8_cell g k j h hj, arr_at _ _ hj]
  · rw [if_neg (by omega)]
    simp; omega
theorem rows8_set (g : Nat → RVal) (k : Nat) (v : RVal) (h : k < 8) : setRow (rows8 g) (k * 4) v.arr.toList = rows8 (fset g k v) := by
  apply Array.ext_getElem?
  intro j
  have hl : v.arr.toList.length = 4 := rfl
  have hs := rows8_size g
  rw [setRow_get _ _ _ _ (by omega), hl]
  by_cases hj : j < 32
  · rw [rows8_at _ _ hj, rows8_at _ _ hj]
    by_cases h1 : k * 4 ≤ j ∧ j < k * 4 + 4
    · rw [if_pos h1, show j / 4 = k from by omega, fset_same]
      simp only [Array.getElem?_toList]
      rw [arr_at _ _ (by omega), show j - k * 4 = j % 4 from by omega]
    · rw [if_neg h1, fset_other _ _ (by omega)]
  · have e1 : (rows8 g)[j]? = none := by simp [rows8_size]; omega
    have e2 : (rows8 (fset g k v))[j]? = none := by simp [rows8_size]; omega
    rw [e1, e2, if_neg (by omega)]

/-- Words 0 to 6 keep what g says; where g says nothing no byte was ever written. -/
structure Keeps (m : RMem) (g : Nat → RVal) : Prop where
  ok : BytesOk m
  kept : ∀ k, k < 7 → m.kept k = g k
  cell : ∀ k, k < 7 → (g k).cell = none
  bare : ∀ k, k < 7 → (g k).tag = 0 → ∀ j, j / 8 = k → m.written j = false

theorem keeps_fresh (c : Nat → Int) (maps : Value) (hc : ∀ i, 0 ≤ c i ∧ c i ≤ 255) : Keeps (RMem.fresh c maps) (fun _ => RVal.zero) :=
  ⟨bytesOk_fresh c maps hc, fun _ _ => rfl, fun _ _ => rfl, fun _ _ _ _ _ => rfl⟩

theorem keeps_step {m : RMem} {g : Nat → RVal} (h : Keeps m g) (k : Nat) (hk : k < 7) (v : RVal) (hv : v.tag = 2) (hc : v.cell = none) :
    (saveS m (8 * k - 64) 8 v).2 = 0 ∧ Keeps (saveS m (8 * k - 64) 8 v).1 (fset g k v) := by
  have e1 : saveS m (8 * k - 64) 8 v = ({ mark m (8 * k) 8 with kept := fset (mark m (8 * k) 8).kept k v }, 0) := by
    unfold saveS
    have hf : (8 * (k : Int) - 64 + 64).toNat = 8 * k := by omega
    rw [hf, if_pos ⟨by simp [sizeOk], by omega, by omega, by omega, by omega⟩, if_neg (by omega), if_pos ⟨rfl, by omega⟩, show 8 * k / 8 = k from by omega]
  have ht : ∀ q, touched (8 * k) (8 * k + 8) q ↔ q = k := fun q => by unfold touched; omega
  rw [e1]
  refine ⟨rfl, ⟨h.ok, ?_, ?_, ?_⟩⟩
  · intro q hq
    by_cases hqk : q = k
    · subst hqk; simp only [fset_same]
    · simp only [fset_other _ _ hqk]
      rw [← h.kept q hq]
      simp only [mark, marked, clear, ht, hqk, false_and, if_false]
  · intro q hq
    by_cases hqk : q = k
    · subst hqk; simp only [fset_same]; exact hc
    · simp only [fset_other _ _ hqk]; exact h.cell q hq
  · intro q hq hg j hj
    by_cases hqk : q = k
    · subst hqk; simp only [fset_same] at hg; omega
    · simp only [fset_other _ _ hqk] at hg
      have h1 := h.bare q hq hg j hj
      simp only [mark, marked, clear, ht]
      rw [if_neg (by omega), if_neg (by omega)]
      exact h1

theorem keeps_last {m : RMem} {g : Nat → RVal} (h : Keeps m g) (r : Nat) (hr : r < 8) :
    (saveS m (r - 8) 1 ⟨1, 1, 0, none⟩).2 = 0 ∧ Keeps (saveS m (r - 8) 1 ⟨1, 1, 0, none⟩).1 g ∧ (loadS (saveS m (r - 8) 1 ⟨1, 1, 0, none⟩).1 (r - 8) 1).2 = 0 := by
  have hf : ((r : Int) - 8 + 64).toNat = 56 + r := by omega
  have e1 : saveS m (r - 8) 1 ⟨1, 1, 0, none⟩ = (mark (withBytes m (56 + r) (56 + r + 1) 1) (56 + r) 1, 0) := by
    unfold saveS
    rw [hf, if_pos ⟨by simp [sizeOk], by simp, by simp, by omega, by omega⟩, if_pos rfl]
    rfl
  have ht : ∀ q, touched (56 + r) (56 + r + 1) q ↔ q = 7 := fun q => by unfold touched; omega
  rw [e1]
  refine ⟨rfl, ⟨bytesOk_mark (bytesOk_withBytes h.ok _ _ _) _ _, ?_, h.cell, ?_⟩, ?_⟩
  · intro q hq
    rw [← h.kept q hq]
    simp only [mark, marked, clear, ht]
    rw [if_neg (by omega)]
    rfl
  · intro q hq hg j hj
    have h1 := h.bare q hq hg j hj
    simp only [mark, marked, clear, ht]
    rw [if_neg (by omega), if_neg (by omega)]
    exact h1
  · unfold loadS
    rw [hf, if_pos ⟨by simp [sizeOk], by omega, by omega⟩, if_neg (by omega), if_pos]
    intro j h1 h2
    have hj : j = 56 + r := by
      have : (1 : Int).toNat = 1 := rfl
      omega
    subst hj
    simp only [readyAt, mark, marked, clear, ht, Bool.and_eq_true, decide_eq_true_eq]
    constructor
    · rw [if_pos (by omega)]
    · split
      · rfl
      · rename_i h3
        have h8 : (56 + r) / 8 = 7 := by omega
        simp only [h8, true_and, ne_eq] at h3
        rw [h8]
        omega

theorem keeps_load {m : RMem} {g : Nat → RVal} (h : Keeps m g) (k : Nat) (hk : k < 7) :
    loadS m (8 * k - 64) 8 = (if (g k).tag ≠ 0 then (g k, 0) else (RVal.zero, 14)) ∧ loadS m (8 * k - 64) 4 = (RVal.zero, 14) := by
  have hf : (8 * (k : Int) - 64 + 64).toNat = 8 * k := by omega
  have nr : ∀ n : Nat, 0 < n → ¬ Ready m (8 * k) n := by
    intro n hn hR
    have := hR (8 * k) (by omega) (by omega)
    simp only [readyAt, Bool.and_eq_true, decide_eq_true_eq] at this
    rw [show 8 * k / 8 = k from by omega, h.kept k hk] at this
    have h2 := h.bare k hk this.2 (8 * k) (by omega)
    rw [h2] at this
    exact absurd this.1 (by simp)
  constructor
  · unfold loadS
    rw [hf, if_pos ⟨by simp [sizeOk], by omega, by omega⟩, show 8 * k / 8 = k from by omega, h.kept k hk]
    by_cases hg : (g k).tag = 0
    · rw [if_neg (fun h => h.2.2 hg), if_neg (nr _ (by decide)), if_neg (fun h => h hg)]
    · rw [if_pos ⟨rfl, by omega, hg⟩, if_pos hg]
  · unfold loadS
    rw [hf, if_pos ⟨by simp [sizeOk], by omega, by omega⟩, if_neg (by omega), if_neg (nr _ (by decide))]
theorem wcell_kept {S : Nat → Prop} {w w' : World} {b off : Nat} {v : Value} (hk : Kept S w w') (hs : ¬ S b) (h : wcell w b off = some v) : wcell w' b off = some v := by
  unfold wcell at h ⊢
  cases hb : w.heap[b]? with
  | none => rw [hb] at h; cases h
  | some o => rw [hk.has hb hs]; rw [hb] at h; exact h

/-- A slice of whole numbers of 64 bits, as it lies in the memory. -/
def Ints (w : World) (v : Value) (xs : List Int) : Prop :=
  ∃ (a : Option Addr) (n c : Nat), v = .slice a n c ∧ n = xs.length ∧ n ≤ 9223372036854775807 ∧ (n = 0 ∨ ∃ b off, a = some ⟨b, off, none⟩ ∧ ∀ i, i < n → wcell w b (off + i) = some (.int .i64 (xs.getD i 0)))

theorem store_rows8 {w : World} {p k : Nat} {g : Nat → RVal} {T : TypeId} (hm : w.heap[p]? = some (.cells (rows8 g) T (0, 0))) (h : k < 8) (v : RVal) :
    stv w 4 (.pointer (some ⟨p, k * 4, none⟩)) v.val = some (put w p (.cells (rows8 (fset g k v)) T (0, 0))) := by
  rw [stv_of (n := 4) (v := v.val) hm rfl (by rw [rows8_size]; omega) (.inl (by simp)) (by simp [Value.oneCell', RVal.val, RVal.arr])]
  have := rows8_set g k v h
  simp only [RVal.val, Value.cells] at this ⊢
  rw [this]
theorem row8_of {w : World} {p k : Nat} {g : Nat → RVal} {T : TypeId} (hm : w.heap[p]? = some (.cells (rows8 g) T (0, 0))) (h : k < 8) : wrow w p (k * 4) 4 = some (g k).arr := by
  rw [wrow_of hm (by rw [rows8_size]; omega), rows8_row g k h]

theorem mod_small (x d : Int) (hd : 0 < d) (hd2 : d < 100) : ∃ k : Nat, k < d ∧ (IntKind.u64.wrap x).tmod d = k ∧ IntKind.i64.wrap ((IntKind.u64.wrap x).tmod d) = k := by
  have h0 : 0 ≤ IntKind.u64.wrap x := by rw [IntKind.wrap_u64]; omega
  have h1 : (IntKind.u64.wrap x).tmod d = IntKind.u64.wrap x % d := Int.tmod_eq_emod_of_nonneg h0
  have h2 : 0 ≤ IntKind.u64.wrap x % d := Int.emod_nonneg _ (by omega)
  have h3 : IntKind.u64.wrap x % d < d := Int.emod_lt_of_pos _ (by omega)
  refine ⟨(IntKind.u64.wrap x % d).toNat, by omega, by omega, ?_⟩
  rw [h1, i64w (by omega) (by omega)]
  omega

theorem zero_off (o : Int) : IntKind.i64.wrap (RVal.mk 3 0 0 none).n + o = o := by
  have : IntKind.i64.wrap (RVal.mk 3 0 0 none).n = 0 := rfl
  rw [this, Int.zero_add]

end Go.Proofs.Ythfchnaocbkofaa
