/- Layer 9, part L: rows of bytes that grow; maps beside them. -/
import Derived.Test.YthfchnaocbkofaaBmK
set_option linter.unusedSimpArgs false
set_option linter.unusedVariables false
set_option maxRecDepth 8000
namespace Go.Proofs.Ythfchnaocbkofaa
open Go.Eng

/-- A slice of bytes that is a law's own. -/
def Bys (w : World) (v : Value) (l : List Nat) : Prop := (v = .slice none 0 0 ∧ l = []) ∨
  ∃ g cap cur, v = .slice (some ⟨g, 0, none⟩) l.length cap ∧ w.heap[g]? = some (.cells cur 5 (0, 0)) ∧ l.length ≤ cap ∧ cap ≤ maxLen ∧ cur.size = cap ∧ ∀ (i : Nat) (x : Nat), l[i]? = some x → cur[i]? = some (Value.int .u8 x)

theorem Bys.len {w : World} {v : Value} {l : List Nat} (h : Bys w v l) : lenV false v = some (.int .i64 l.length) := by
  rcases h with ⟨rfl, rfl⟩ | ⟨g, cap, cur, rfl, _⟩ <;> rfl
theorem Bys.var {w : World} {v : Value} {l : List Nat} (h : Bys w v l) : varV v = some v := by
  rcases h with ⟨rfl, rfl⟩ | ⟨g, cap, cur, rfl, _⟩ <;> rfl
theorem Bys.keep {w w' : World} {v : Value} {l : List Nat} {S : Nat → Prop} (h : Bys w v l) (hk : Kept S w w') (hS : ∀ i, v.ownBlock = some i → ¬ S i) : Bys w' v l := by
  rcases h with h | ⟨g, cap, cur, rfl, h2, h3⟩
  · exact .inl h
  · exact .inr ⟨g, cap, cur, rfl, hk.has h2 (hS g rfl), h3⟩
theorem Bys.lt {w : World} {v : Value} {l : List Nat} (h : Bys w v l) {g : Nat} (hg : v.ownBlock = some g) : g < w.heap.size := by
  rcases h with ⟨rfl, _⟩ | ⟨g', cap, cur, rfl, h2, _⟩
  · simp [Value.ownBlock] at hg
  · simp [Value.ownBlock] at hg; subst hg; exact blk_lt h2
theorem Bys.form {w : World} {v : Value} {l : List Nat} (h : Bys w v l) (h0 : 0 < l.length) : ∃ g cap, v = .slice (some ⟨g, 0, none⟩) l.length cap ∧ l.length ≤ cap ∧ v.ownBlock = some g ∧ ∀ (i : Nat) (x : Nat), l[i]? = some x → wcell w g i = some (.int .u8 x) := by
  rcases h with ⟨rfl, rfl⟩ | ⟨g, cap, cur, rfl, h2, h3, h4, h5, h6⟩
  · simp at h0
  · exact ⟨g, cap, rfl, h3, rfl, fun i x hi => by rw [wcell_of h2]; exact h6 i x hi⟩

theorem bys_append {w : World} {sb so c : Nat} {v : Value} {l m : List Nat} (h : Bys w v l) (hs : l.length + m.length ≤ 1000) (hm : ∀ (j : Nat) (x : Nat), m[j]? = some x → wcell w sb (so + j) = some (.int .u8 x)) :
    ∃ v' w', (builtin .append #[22, 22] 22 #[] #[v, .slice (some ⟨sb, so, none⟩) m.length c]).run Try.prog w = .ok (.value v') w' ∧ Bys w' v' (l ++ m) ∧ Kept (fun j => v.ownBlock = some j) w w' ∧
      (v'.ownBlock = v.ownBlock ∨ v'.ownBlock = some w.heap.size) := by
  obtain ⟨xs, hown, hxs⟩ : ∃ xs : List Value, w.ownsRow 0 5 1 v l.length xs ∧ ∀ (i : Nat) (x : Nat), l[i]? = some x → xs[i]? = some (Value.int .u8 x) := by
    rcases h with ⟨rfl, rfl⟩ | ⟨g, cap, cur, rfl, h2, h3, h4, h5, h6⟩
    · exact ⟨[], World.ownsRow_nil _ _ _ _, fun i e hi => by simp at hi⟩
    · refine ⟨cur.toList.take (l.length * 1), ⟨?_, .inr ⟨g, cap, cur, rfl, by omega, h2, h3, h4, by omega, rfl⟩⟩, ?_⟩
      · simp; omega
      · intro i e hi
        have hil : i < l.length := (List.getElem?_eq_some_iff.1 hi).1
        rw [List.getElem?_take, if_pos (by omega)]
        simpa using h6 i e hi
  have hi0 : (Try.prog.info? 5).any (fun i => i.size == 1 && decide (i.bytes ≤ 64) && i.zero.any (fun z => z.cells.size == 1)) = true := by kernel_rfl
  obtain ⟨i, hi, hi1⟩ : ∃ i, Try.prog.info? 5 = some i ∧ (i.size == 1 && decide (i.bytes ≤ 64) && i.zero.any (fun z => z.cells.size == 1)) = true := by
    cases h : Try.prog.info? 5 with
    | none => rw [h] at hi0; cases hi0
    | some i => rw [h] at hi0; exact ⟨i, rfl, hi0⟩
  simp only [Bool.and_eq_true, beq_iff_eq, decide_eq_true_eq] at hi1
  obtain ⟨⟨hsz, hy⟩, hz0⟩ := hi1
  obtain ⟨z, hz, hz4⟩ : ∃ z, i.zero = some z ∧ z.cells.size = 1 := by
    cases h : i.zero with
    | none => rw [h] at hz0; cases hz0
    | some z => rw [h] at hz0; exact ⟨z, rfl, by simpa using hz0⟩
  have hbytes : (l.length + m.length) * i.bytes ≤ 1000 * 64 := Nat.mul_le_mul (by omega) hy
  have hnews : ∀ (j : Nat) (u : Value), (m.map fun x => Value.int .u8 (x : Nat))[j]? = some u → w.cell? ((⟨sb, so, none⟩ : Addr).add j) = some u := by
    intro j u hu
    rw [List.getElem?_map, Option.map_eq_some_iff] at hu
    obtain ⟨x, hx, rfl⟩ := hu
    rw [Addr.add_lit]
    exact wcell_cell (hm j x hx)
  obtain ⟨v', w', hr, hown', hgr, _, hat⟩ := run_append_own_at (P := Try.prog) w 0 22 22 5 i z 1 i.bytes Try.underlying22 hi hz hsz rfl hz4 (by omega)
    v l.length xs hown ⟨sb, so, none⟩ m.length c (m.map fun x => Value.int .u8 (x : Nat)) (by simp) hnews (by simp [Value.oneCell']) (by unfold maxLen; omega) (by omega) (by omega)
  refine ⟨v', w', ?_, ?_, ⟨hgr.os, hgr.tape, hgr.output, hgr.size, fun i hi hS => hgr.block i hi (fun e => hS e.symm)⟩, hat⟩
  · simp only [builtin, map_eq_pure_bind, Sem.run_bind, hr]
    rfl
  · rcases hown'.2 with ⟨hv, h0⟩ | ⟨g, cap, cur, rfl, h1, h2, h3, h4, h5, h6⟩
    · exact .inl ⟨hv, List.eq_nil_of_length_eq_zero (by rw [List.length_append]; exact h0)⟩
    · refine .inr ⟨g, cap, cur, by simp, h2, by simpa using h3, h4, by omega, ?_⟩
      intro i e hie
      have hl : xs.length = l.length := by have := hown.1; omega
      have hil : i < l.length + m.length := by have := (List.getElem?_eq_some_iff.1 hie).1; simpa using this
      have e1 : cur[i]? = (cur.toList.take ((l.length + m.length) * 1))[i]? := by
        rw [List.getElem?_take, if_pos (by omega)]; simp
      rw [e1, h6]
      by_cases hin : i < l.length
      · rw [List.getElem?_append_left hin] at hie
        rw [List.getElem?_append_left (by omega)]
        exact hxs i e hie
      · rw [List.getElem?_append_right (by omega)] at hie
        rw [List.getElem?_append_right (by omega), hl, List.getElem?_map, hie]
        rfl

/-- What was no map's still is none. -/
def Out (M M' : BMap) (b : Nat) (w : World) : Prop := ∀ j, j < w.heap.size → M'.own b j → M.own b j

section
variable {w0 w w' : World} {b : Nat} {M M' : BMap}
theorem Mp.other {S : Nat → Prop} (h : Mp w0 w b M) (hk : Kept S w w') (h1 : ∀ i, S i → ¬ M.own b i ∧ w0.heap.size ≤ i) : Mp w0 w' b M :=
  ⟨h.kept.then hk fun i hi hs => by have := (h1 i hs).2; omega, h.map.keep hk fun i hi hs => (h1 i hs).1 hi, h.low⟩
theorem out_used {i : Nat} {e : BEnt} (hi : M.l[i]? = some e) : Out M (usedM M i e) b w := fun j _ hj => own_set (x := M.clock + 1) (e' := { e with used := M.clock + 1 }) hi rfl rfl rfl hj
theorem out_written {i : Nat} {e : BEnt} {x : Nat → Int} (hi : M.l[i]? = some e) : Out M (writtenM M i e x) b w := fun j _ hj => own_set (x := M.clock + 1) (e' := { e with used := M.clock + 1, val := x }) hi rfl rfl rfl hj
theorem out_pushed {lo : List BEnt} {L' : Value} {a : BEnt} {x : Int} (hlo : ∀ c ∈ lo, c ∈ M.l) (h1 : w.heap.size ≤ a.eb) (h2 : w.heap.size ≤ a.cb) (h3 : w.heap.size ≤ a.vb)
    (hL : L'.ownBlock = M.L.ownBlock ∨ ∃ g, L'.ownBlock = some g ∧ w.heap.size ≤ g) : Out M { M with clock := x, L := L', l := lo ++ [a] } b w := by
  rintro j hjw (hj | hj | ⟨c, hc, hj⟩)
  · exact .inl hj
  · rcases hL with hL | ⟨g, hg, hgs⟩
    · exact .inr (.inl (by rw [← hL]; exact hj))
    · simp only at hj
      rw [hg] at hj
      simp at hj
      omega
  · rcases List.mem_append.1 hc with hc | hc
    · exact .inr (.inr ⟨c, hlo c hc, hj⟩)
    · simp at hc
      subst hc
      omega
end
end Go.Proofs.Ythfchnaocbkofaa
