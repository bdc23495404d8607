/- Layer 9, part H: an entry comes to a map. -/
import Derived.Test.YthfchnaocbkofaaBmG
import Derived.Maps.AppendAt
import Derived.Deep.OwnRows
import Derived.Laws.IdiomCopy
set_option linter.unusedSimpArgs false
set_option linter.unusedVariables false
set_option maxRecDepth 8000
namespace Go.Proofs.Ythfchnaocbkofaa
open Go.Eng

theorem row_append {w : World} {p : Nat} {L : Value} {l : List BEnt} {a : BEnt} (h : RowAt w L l) (hs : l.length ≤ 1000) (hp : w.heap[p]? = some (.cells #[.pointer (some ⟨a.eb, 0, none⟩)] 57 (0, 0))) :
    ∃ L' w', (builtin .append #[54, 54] 54 #[] #[L, .slice (some ⟨p, 0, none⟩) 1 1]).run Try.prog w = .ok (.value L') w' ∧ RowAt w' L' (l ++ [a]) ∧ Kept (fun j => L.ownBlock = some j) w w' ∧
      (L'.ownBlock = L.ownBlock ∨ L'.ownBlock = some w.heap.size) := by
  obtain ⟨xs, hown, hxs⟩ : ∃ xs : List Value, w.ownsRow 0 57 1 L l.length xs ∧ ∀ (i : Nat) (e : BEnt), l[i]? = some e → xs[i]? = some (Value.pointer (some ⟨e.eb, 0, none⟩)) := by
    rcases h with ⟨rfl, rfl⟩ | ⟨g, cap, cur, rfl, h2, h3, h4, h5, h6⟩
    · exact ⟨[], World.ownsRow_nil _ _ _ _, fun i e hi => by simp at hi⟩
    · refine ⟨cur.toList.take (l.length * 1), ⟨?_, .inr ⟨g, cap, cur, rfl, by omega, h2, h3, h4, by omega, rfl⟩⟩, ?_⟩
      · simp; omega
      · intro i e hi
        have hil : i < l.length := (List.getElem?_eq_some_iff.1 hi).1
        rw [List.getElem?_take, if_pos (by omega)]
        simpa using h6 i e hi
  have hi0 : (Try.prog.info? 57).any (fun i => i.size == 1 && decide (i.bytes ≤ 64) && i.zero.any (fun z => z.cells.size == 1)) = true := by kernel_rfl
  obtain ⟨i, hi, hi1⟩ : ∃ i, Try.prog.info? 57 = some i ∧ (i.size == 1 && decide (i.bytes ≤ 64) && i.zero.any (fun z => z.cells.size == 1)) = true := by
    cases h : Try.prog.info? 57 with
    | none => rw [h] at hi0; cases hi0
    | some i => rw [h] at hi0; exact ⟨i, rfl, hi0⟩
  simp only [Bool.and_eq_true, beq_iff_eq, decide_eq_true_eq] at hi1
  obtain ⟨⟨hsz, hy⟩, hz0⟩ := hi1
  obtain ⟨z, hz, hz4⟩ : ∃ z, i.zero = some z ∧ z.cells.size = 1 := by
    cases h : i.zero with
    | none => rw [h] at hz0; cases hz0
    | some z => rw [h] at hz0; exact ⟨z, rfl, by simpa using hz0⟩
  have hbytes : (l.length + 1) * i.bytes ≤ 1001 * 64 := Nat.mul_le_mul (by omega) hy
  have hnews : ∀ (j : Nat) (u : Value), [Value.pointer (some ⟨a.eb, 0, none⟩)][j]? = some u → w.cell? ((⟨p, 0, none⟩ : Addr).add j) = some u := by
    intro j u hu
    rw [Addr.add_lit, Nat.zero_add]
    refine wcell_cell ?_
    rw [wcell_of hp]
    simpa using hu
  obtain ⟨v', w', hr, hown', hgr, _, hat⟩ := run_append_own_at (P := Try.prog) w 0 54 54 57 i z 1 i.bytes Try.underlying54 hi hz hsz rfl hz4 (by omega)
    L l.length xs hown ⟨p, 0, none⟩ 1 1 [.pointer (some ⟨a.eb, 0, none⟩)] rfl hnews (by simp [Value.oneCell']) (by unfold maxLen; omega) (by omega) (by omega)
  refine ⟨v', w', ?_, ?_, ⟨hgr.os, hgr.tape, hgr.output, hgr.size, fun i hi hS => hgr.block i hi (fun e => hS e.symm)⟩, hat⟩
  · simp only [builtin, map_eq_pure_bind, Sem.run_bind, hr]
    rfl
  · rcases hown'.2 with ⟨_, h0⟩ | ⟨g, cap, cur, rfl, h1, h2, h3, h4, h5, h6⟩
    · omega
    · refine .inr ⟨g, cap, cur, by simp, h2, by simpa using h3, h4, by omega, ?_⟩
      intro i e hie
      have hl : xs.length = l.length := by have := hown.1; omega
      have hil : i < l.length + 1 := by have := (List.getElem?_eq_some_iff.1 hie).1; simpa using this
      have e1 : cur[i]? = (cur.toList.take ((l.length + 1) * 1))[i]? := by
        rw [List.getElem?_take, if_pos (by omega)]; simp
      rw [e1, h6]
      by_cases hin : i < l.length
      · rw [List.getElem?_append_left hin] at hie
        rw [List.getElem?_append_left (by omega)]
        exact hxs i e hie
      · have : i = l.length := by omega
        subst this
        simp at hie
        subst hie
        rw [List.getElem?_append_right (by omega), hl]
        simp

/-- make([]byte, n). -/
theorem run_mkb (n : Nat) (hn : n ≤ 1000000) (w : World) : ((Tag.mk 22).sem [.int .i64 n, .int .i64 n]).run Try.prog w = .ok (.slice (some ⟨w.heap.size, 0, none⟩) n n) (w.alloc (.cells (madeCells #[.int .u8 0] n) 5)) :=
  run_make_row' (P := Try.prog) 22 5 (.int .u8 0) 1 Try.underlying22 (by kernel_rfl) rfl .i64 .i64 n (by omega) (by omega) w
theorem made_get (n j : Nat) (h : j < n) : (madeCells #[Value.int .u8 0] n)[j]? = some (.int .u8 0) := by
  have := toList_madeCells_one (.int .u8 0) n
  rw [← Array.getElem?_toList, this]
  simp [h]

/-- A new entry, of noughts. -/
def newEnt (p : Nat) (k : ByteArray) : BEnt := ⟨p + 2, p + 1, p, k, 0, fun _ => 0⟩
theorem new_entAt (w : World) (V : Nat) (k : ByteArray) :
    EntAt (((w.alloc (.cells (madeCells #[.int .u8 0] V) 5)).alloc (.cells #[.slice (some ⟨w.heap.size, 0, none⟩) V V] 60)).alloc (.cells (newEnt w.heap.size k).cells 62)) V (newEnt w.heap.size k) := by
  have h1 := hp_new w (.cells (madeCells #[.int .u8 0] V) 5)
  have h2 := hp_new (w.alloc (.cells (madeCells #[.int .u8 0] V) 5)) (.cells #[.slice (some ⟨w.heap.size, 0, none⟩) V V] 60)
  have h3 := hp_new ((w.alloc (.cells (madeCells #[.int .u8 0] V) 5)).alloc (.cells #[.slice (some ⟨w.heap.size, 0, none⟩) V V] 60)) (.cells (newEnt w.heap.size k).cells 62)
  simp only [alloc_size] at h2 h3
  exact ⟨h3, ⟨V, Nat.le_refl _, hp_old h2 _⟩, ⟨_, hp_old (hp_old h1 _) _, by simp [size_madeCells], fun j hj => made_get V j hj⟩, fun j => by simp [newEnt]⟩
end Go.Proofs.Ythfchnaocbkofaa
