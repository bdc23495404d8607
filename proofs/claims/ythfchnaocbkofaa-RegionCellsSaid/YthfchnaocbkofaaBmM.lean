/- Layer 9, part M: Delete; keys of four bytes; copies of what there is. -/
import Derived.Test.YthfchnaocbkofaaBmL
set_option linter.unusedSimpArgs false
set_option linter.unusedVariables false
set_option maxRecDepth 8000
namespace Go.Proofs.Ythfchnaocbkofaa
open Go.Eng

/-- What Delete tells. -/
def DelIs (w w' : World) (b : Nat) (M : BMap) (k : ByteArray) (v : Value) : Prop :=
  (∃ (i : Nat) (e : BEnt) (L' : Value), M.l[i]? = some e ∧ e.key = k ∧ v = .int .i64 0 ∧ Kept (fun j => j = b ∨ M.L.ownBlock = some j) w w' ∧ L'.ownBlock = M.L.ownBlock ∧ MapAt w' b { M with L := L', l := M.l.eraseIdx i }) ∨
  ((∀ e ∈ M.l, e.key ≠ k) ∧ v = .int .i64 2 ∧ Kept none' w w')

theorem own_erase {M : BMap} {b i j : Nat} {L' : Value} (hL : L'.ownBlock = M.L.ownBlock) (ho : BMap.own { M with L := L', l := M.l.eraseIdx i } b j) : M.own b j := by
  rcases ho with ho | ho | ⟨a, ha, ho⟩
  · exact .inl ho
  · exact .inr (.inl (by rw [← hL]; exact ho))
  · exact .inr (.inr ⟨a, List.mem_of_mem_eraseIdx ha, ho⟩)

theorem wcell_lt {w : World} {b o : Nat} {v : Value} (h : wcell w b o = some v) : b < w.heap.size := by
  unfold wcell at h
  cases hb : w.heap[b]? with
  | none => rw [hb] at h; cases h
  | some ob => exact blk_lt hb

theorem wrow_list {w : World} {b off : Nat} {r : List Value} (hr : 0 < r.length) (h : ∀ j, j < r.length → wcell w b (off + j) = r[j]?) : wrow w b off r.length = some r.toArray := by
  unfold wrow
  have h0 := h (r.length - 1) (by omega)
  unfold wcell at h h0
  cases hb : w.heap[b]? with
  | none =>
    rw [hb] at h0
    have : r[r.length - 1]? = none := by rw [← h0]
    rw [List.getElem?_eq_none_iff] at this
    omega
  | some o =>
    cases o with
    | cells c T fz =>
      rw [hb] at h0
      simp only at h0 ⊢
      have hlt : off + (r.length - 1) < c.size := by
        have : (c[off + (r.length - 1)]?).isSome = true := by
          rw [h0, List.getElem?_eq_getElem (by omega)]; rfl
        simpa using this
      rw [if_pos (by omega)]
      congr 1
      apply Array.ext_getElem?
      intro j
      rw [Array.getElem?_extract]
      by_cases hj : j < r.length
      · rw [if_pos (by omega)]
        have := h j hj
        rw [hb] at this
        simp only at this
        rw [this]
        simp
      · rw [if_neg (by omega)]
        simp
        omega
    | _ =>
      rw [hb] at h0
      have : r[r.length - 1]? = none := by rw [← h0]
      rw [List.getElem?_eq_none_iff] at this
      omega

/-- A key of four bytes. -/
def key4 (x : Nat → Nat) : ByteArray := ⟨#[UInt8.ofNat (x 0), UInt8.ofNat (x 1), UInt8.ofNat (x 2), UInt8.ofNat (x 3)]⟩
theorem keyAt4 {w : World} {b o c : Nat} {x : Nat → Nat} (hx : ∀ j, x j ≤ 255) (h : ∀ j, j < 4 → wcell w b (o + j) = some (.int .u8 (x j))) : KeyAt w (.slice (some ⟨b, o, none⟩) 4 c) (key4 x) := by
  have hw : wrow w b o 4 = some #[.int .u8 (x 0), .int .u8 (x 1), .int .u8 (x 2), .int .u8 (x 3)] := by
    refine wrow_list (r := [.int .u8 (x 0), .int .u8 (x 1), .int .u8 (x 2), .int .u8 (x 3)]) (by simp) ?_
    intro j hj
    rw [h j hj]
    have : j = 0 ∨ j = 1 ∨ j = 2 ∨ j = 3 := by simp at hj; omega
    rcases this with rfl | rfl | rfl | rfl <;> rfl
  refine ⟨b, o, c, rfl, ?_, ?_⟩
  · simp only [bstrv]
    show (wrow w b o 4).bind _ = _
    rw [hw]
    rfl
  · intro j hj
    have hj4 : j < 4 := hj
    refine ⟨x j, hx j, ?_, h j hj4⟩
    have : j = 0 ∨ j = 1 ∨ j = 2 ∨ j = 3 := by omega
    rcases this with rfl | rfl | rfl | rfl <;> rfl
theorem key4_inj {x y : Nat → Nat} (hx : ∀ j, x j ≤ 255) (hy : ∀ j, y j ≤ 255) (h : key4 x = key4 y) : x 0 = y 0 ∧ x 1 = y 1 ∧ x 2 = y 2 ∧ x 3 = y 3 := by
  have one : ∀ a c : Nat, a ≤ 255 → c ≤ 255 → UInt8.ofNat a = UInt8.ofNat c → a = c := by
    intro a c ha hc h
    have h2 := congrArg UInt8.toNat h
    simp at h2
    omega
  simp [key4] at h
  exact ⟨one _ _ (hx 0) (hy 0) h.1, one _ _ (hx 1) (hy 1) h.2.1, one _ _ (hx 2) (hy 2) h.2.2.1, one _ _ (hx 3) (hy 3) h.2.2.2⟩

/-- copy: as many as there are room for. -/
theorem run_copy_min {w : World} {b o n dCap sn sCap : Nat} {sa : Option Addr} {c : Array Value} {T : TypeId} {x : Nat → Value} {m : Nat} (hm : m = Nat.min sn n)
    (hb : w.heap[b]? = some (.cells c T (0, 0))) (ho : o + n ≤ c.size) (hx : m = 0 ∨ ∃ sb so, sa = some ⟨sb, so, none⟩ ∧ ∀ j, j < m → wcell w sb (so + j) = some (x j)) (h1 : ∀ j, j < m → (x j).oneCell' = true) :
    (builtin .copy #[22, 22] 3 #[] #[.slice (some ⟨b, o, none⟩) n dCap, .slice sa sn sCap]).run Try.prog w =
      .ok (.value (.int .i64 m)) (if m = 0 then w else put w b (.cells (setRow c o (List.ofFn (n := m) fun j => x j.val)) T (0, 0))) := by
  have hs : (Try.prog.info? 5).map (·.size) = some 1 := by kernel_rfl
  by_cases h0 : m = 0
  · subst h0
    have h := run_copy_none (P := Try.prog) w 22 22 3 5 (some ⟨b, o, none⟩) sa n dCap sn sCap Try.underlying22 hs hm.symm
    simp only [builtin, map_eq_pure_bind, Sem.run_bind, h, if_true]
    rfl
  · obtain ⟨sb, so, rfl, hxx⟩ := hx.resolve_left h0
    have hl := run_loadCells_list (P := Try.prog) w ⟨sb, so, none⟩ (List.ofFn (n := m) fun j => x j.val) (by
      intro j v hv
      have hj : j < m := by have := (List.getElem?_eq_some_iff.1 hv).1; simpa using this
      rw [List.getElem?_ofFn] at hv
      simp [hj] at hv
      subst hv
      rw [Addr.add_lit]
      exact wcell_cell (hxx j hj))
    have hmn : m ≤ n := by rw [hm]; exact Nat.min_le_right _ _
    have hst := run_storeCells (P := Try.prog) (T := T) (fz := (0, 0)) (b := b) o (List.ofFn (n := m) fun j => x j.val) 0 c w hb (by simp; omega) (.inl (by simp)) (by
      intro v hv
      obtain ⟨j, rfl⟩ := List.mem_ofFn.1 hv
      exact h1 j j.2)
    rw [if_neg h0]
    cases hq : Try.prog.info? 5 with
    | none => simp [hq] at hs
    | some i =>
      have hi : i.size = 1 := by simpa [hq] using hs
      simp at hl hst
      simp [builtin, Builtin.copy_, run_underlying Try.underlying22, Builtin.lenOf, Builtin.firstCells, sizeOf, typeInfo, hq, hi, ← hm, hl, hst]
      exact ⟨rfl, rfl⟩
end Go.Proofs.Ythfchnaocbkofaa
