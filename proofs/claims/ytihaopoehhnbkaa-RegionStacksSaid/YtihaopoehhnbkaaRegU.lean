/- Layer 19, part U: values that were saved, in a slice that grows; the state between two calls of RegionStacks. -/
import Derived.Test.YtihaopoehhnbkaaRegT
import Derived.Maps.AppendAt
set_option linter.unusedSimpArgs false
set_option linter.unusedVariables false
set_option maxRecDepth 8000
namespace Go.Proofs.Ytihaopoehhnbkaa
open Go.Eng

/-- A slice of the first n values. -/
def Vals (w : World) (base : Nat) (v : Value) (n : Nat) : Prop :=
  (v = .slice none 0 0 ∧ n = 0) ∨ ∃ g cap cur, v = .slice (some ⟨g, 0, none⟩) n cap ∧ base ≤ g ∧ w.heap[g]? = some (.cells cur 29 (0, 0)) ∧ n ≤ cap ∧ cap ≤ maxLen ∧ cur.size = cap * 4 ∧
    ∀ q, q < n → ∀ j, j < 4 → cur[q * 4 + j]? = some ((valOf q).at j)

theorem Vals.len {w : World} {base n : Nat} {v : Value} (h : Vals w base v n) : lenV false v = some (.int .i64 n) := by
  rcases h with ⟨rfl, rfl⟩ | ⟨g, cap, cur, rfl, _⟩ <;> rfl
theorem Vals.var {w : World} {base n : Nat} {v : Value} (h : Vals w base v n) : varV v = some v := by
  rcases h with ⟨rfl, rfl⟩ | ⟨g, cap, cur, rfl, _⟩ <;> rfl
theorem Vals.keep {w w' : World} {base n : Nat} {v : Value} {S : Nat → Prop} (h : Vals w base v n) (hk : Kept S w w') (hS : ∀ i, v.ownBlock = some i → ¬ S i) : Vals w' base v n := by
  rcases h with h | ⟨g, cap, cur, rfl, h1, h2, h3⟩
  · exact .inl h
  · exact .inr ⟨g, cap, cur, rfl, h1, hk.has h2 (hS g rfl), h3⟩
theorem Vals.lt {w : World} {base n : Nat} {v : Value} (h : Vals w base v n) {g : Nat} (hg : v.ownBlock = some g) : base ≤ g ∧ g < w.heap.size := by
  rcases h with ⟨rfl, _⟩ | ⟨g', cap, cur, rfl, h1, h2, _⟩
  · simp [Value.ownBlock] at hg
  · simp [Value.ownBlock] at hg
    subst hg
    exact ⟨h1, blk_lt h2⟩
theorem Vals.row {w : World} {base n : Nat} {v : Value} (h : Vals w base v n) {q : Nat} (hq : q < n) : ∃ g cap, v = .slice (some ⟨g, 0, none⟩) n cap ∧ wrow w g (q * 4) 4 = some (valOf q).arr := by
  rcases h with ⟨rfl, h⟩ | ⟨g, cap, cur, rfl, h1, h2, h3, h4, h5, h6⟩
  · omega
  · refine ⟨g, cap, rfl, ?_⟩
    rw [wrow_of h2 (by omega)]
    congr 1
    apply Array.ext_getElem?
    intro j
    rw [Array.getElem?_extract]
    by_cases hj : j < 4
    · rw [if_pos (by omega), h6 q hq j hj, arr_at _ _ hj]
    · rw [if_neg (by omega)]
      simp; omega

theorem vals_append {w : World} {base n p : Nat} {v : Value} (h : Vals w base v n) (hn : n ≤ 1000) (hb : base ≤ w.heap.size) (hp : w.heap[p]? = some (.cells (valOf n).arr 29 (0, 0))) :
    ∃ v' w', (builtin .append #[54, 54] 54 #[] #[v, .slice (some ⟨p, 0, none⟩) 1 1]).run Try.prog w = .ok (.value v') w' ∧ Vals w' base v' (n + 1) ∧ Kept (fun i => v.ownBlock = some i) w w' := by
  obtain ⟨xs, hown, hxs⟩ : ∃ xs : List Value, w.ownsRow base 29 4 v n xs ∧ ∀ q, q < n → ∀ j, j < 4 → xs[q * 4 + j]? = some ((valOf q).at j) := by
    rcases h with ⟨rfl, rfl⟩ | ⟨g, cap, cur, rfl, h1, h2, h3, h4, h5, h6⟩
    · exact ⟨[], World.ownsRow_nil _ _ _ _, fun q hq => by omega⟩
    · refine ⟨cur.toList.take (n * 4), ⟨?_, .inr ⟨g, cap, cur, rfl, h1, h2, h3, h4, h5, rfl⟩⟩, ?_⟩
      · simp; omega
      · intro q hq j hj
        rw [List.getElem?_take, if_pos (by omega)]
        simpa using h6 q hq j hj
  have hnews : ∀ (j : Nat) (u : Value), (valOf n).arr.toList[j]? = some u → w.cell? ((⟨p, 0, none⟩ : Addr).add j) = some u := by
    intro j u hu
    rw [Addr.add_lit, Nat.zero_add]
    refine wcell_cell ?_
    rw [wcell_of hp]
    simpa using hu
  have hi0 : (Try.prog.info? 29).any (fun i => i.size == 4 && decide (i.bytes ≤ 64) && i.zero.any (fun z => z.cells.size == 4)) = true := by kernel_rfl
  obtain ⟨i, hi, hi1⟩ : ∃ i, Try.prog.info? 29 = some i ∧ (i.size == 4 && decide (i.bytes ≤ 64) && i.zero.any (fun z => z.cells.size == 4)) = true := by
    cases h : Try.prog.info? 29 with
    | none => rw [h] at hi0; cases hi0
    | some i => rw [h] at hi0; exact ⟨i, rfl, hi0⟩
  simp only [Bool.and_eq_true, beq_iff_eq, decide_eq_true_eq] at hi1
  obtain ⟨⟨hs, hy⟩, hz0⟩ := hi1
  obtain ⟨z, hz, hz4⟩ : ∃ z, i.zero = some z ∧ z.cells.size = 4 := by
    cases h : i.zero with
    | none => rw [h] at hz0; cases hz0
    | some z => rw [h] at hz0; exact ⟨z, rfl, by simpa using hz0⟩
  have hbytes : (n + 1) * i.bytes ≤ 1001 * 64 := Nat.mul_le_mul (by omega) hy
  obtain ⟨v', w', hr, hown', hgr, _, _⟩ := run_append_own_at (P := Try.prog) w base 54 54 29 i z 4 i.bytes Try.underlying54 hi hz hs rfl hz4 (by omega)
    v n xs hown ⟨p, 0, none⟩ 1 1 (valOf n).arr.toList (by simp) hnews (by simp [RVal.arr, Value.oneCell']) (by unfold maxLen; omega) (by omega) hb
  refine ⟨v', w', ?_, ?_, ⟨hgr.os, hgr.tape, hgr.output, hgr.size, fun i hi hS => hgr.block i hi (fun e => hS e.symm)⟩⟩
  · simp only [builtin, map_eq_pure_bind, Sem.run_bind, hr]
    rfl
  · rcases hown'.2 with ⟨_, h0⟩ | ⟨g, cap, cur, rfl, h1, h2, h3, h4, h5, h6⟩
    · omega
    · refine .inr ⟨g, cap, cur, rfl, h1, h2, h3, h4, h5, ?_⟩
      intro q hq j hj
      have e : cur[q * 4 + j]? = (cur.toList.take ((n + 1) * 4))[q * 4 + j]? := by
        rw [List.getElem?_take, if_pos (by omega)]; simp
      rw [e, h6]
      have hl : xs.length = n * 4 := hown.1
      by_cases hqn : q < n
      · rw [List.getElem?_append_left (by omega)]; exact hxs q hqn j hj
      · have : q = n := by omega
        subst this
        rw [List.getElem?_append_right (by omega), hl, show q * 4 + j - q * 4 = j from by omega]
        simpa using arr_at (valOf q) j hj

def SOk (s : SMem) : Prop := ∀ j, 0 ≤ s.num j ∧ s.num j ≤ 255
theorem sok_fresh : SOk SMem.fresh := fun j => by simp [SMem.fresh]
theorem sok_sclear {s : SMem} (h : SOk s) (f e : Nat) : SOk (sclear s f e) := fun j => by
  simp only [sclear]
  split
  · omega
  · exact h j
theorem sok_ssave {s : SMem} (h : SOk s) (f k : Nat) (n v : Int) : SOk (ssave s f k n v) := fun j => by
  have hc := sok_sclear h f (f + k) j
  unfold ssave
  split <;> simp only [swith] <;> split <;> first | exact byteN_range _ _ | exact hc

/-- Between two calls. -/
structure St (w0 w : World) (b st base : Nat) (v : Value) (n : Nat) (m : RMem) (s : SMem) : Prop where
  kept : Kept none' w0 w
  mem : IsMem w b m
  stk : IsStk w st s
  vals : Vals w base v n
  rel : Rel m s n
  sok : SOk s
  hb : w0.heap.size ≤ b ∧ b < base
  hst : w0.heap.size ≤ st ∧ st < base
  hne : b ≠ st
  hbase : base ≤ w.heap.size
  hn : n ≤ 60

section
variable {w0 w w1 w2 : World} {b st base n : Nat} {v : Value} {m m' : RMem} {s s' : SMem}
theorem St.calm (h : St w0 w b st base v n m s) (hk : Kept none' w w1) : St w0 w1 b st base v n m s :=
  ⟨h.kept.trans hk, isMem_kept hk h.mem, isStk_kept hk h.stk, h.vals.keep hk (fun _ _ h => h), h.rel, h.sok, h.hb, h.hst, h.hne, Nat.le_trans h.hbase hk.size, h.hn⟩
theorem St.both (h : St w0 w b st base v n m s) (hk : Kept (· = b) w w1) (hm : IsMem w1 b m') (hk2 : Kept (· = st) w1 w2) (hs : IsStk w2 st s') (hr : Rel m' s' n) (ho : SOk s') : St w0 w2 b st base v n m' s' := by
  have h1 := h.hb
  have h2 := h.hst
  refine ⟨(h.kept.then hk fun i hi e => by omega).then hk2 fun i hi e => by omega, hk2.has hm h.hne, hs, (h.vals.keep hk ?_).keep hk2 ?_, hr, ho, h1, h2, h.hne, Nat.le_trans h.hbase (Nat.le_trans hk.size hk2.size), h.hn⟩
  · intro i hi e
    have := (h.vals.lt hi).1
    omega
  · intro i hi e
    have := (h.vals.lt hi).1
    omega
end

theorem wrapN {N : Int} (h1 : -9223372036854775808 ≤ N) (h2 : N ≤ 9223372036854775807) : IntKind.i64.wrap (RVal.mk 3 (IntKind.u64.wrap N) 0 none).n = N := by
  show IntKind.i64.wrap (IntKind.u64.wrap N) = N
  rw [IntKind.wrap_i64, IntKind.wrap_u64]; omega
end Go.Proofs.Ytihaopoehhnbkaa
