/- Layer 9, part F: an entry is left out of the row; room is made. -/
import Derived.Test.YthfchnaocbkofaaBmE
set_option linter.unusedSimpArgs false
set_option linter.unusedVariables false
set_option maxRecDepth 8000
namespace Go.Proofs.Ythfchnaocbkofaa
open Go.Eng

theorem run_clear1 {w : World} {g o c : Nat} {cur : Array Value} (hb : w.heap[g]? = some (.cells cur 57 (0, 0))) (ho : o + 1 ≤ cur.size) :
    (builtin .clear #[54] 0 #[] #[.slice (some ⟨g, o, none⟩) 1 c]).run Try.prog w = .ok (.value (.tuple #[])) (put w g (.cells (cur.setIfInBounds o (.pointer none)) 57 (0, 0))) := by
  have hst := run_storeCells (P := Try.prog) (T := 57) (fz := (0, 0)) (b := g) o [.pointer none] 0 cur w hb (by simpa using ho) (.inl (by simp)) (by simp [Value.oneCell'])
  have hz : (Builtin.zeroCells #[Value.pointer none] 1).toList = [.pointer none] := by simp [Builtin.zeroCells]
  simp only [builtin, Builtin.clear_]
  simp [run_underlying Try.underlying54]
  rw [hz, hst]
  rfl

theorem peqV_plain {w : World} {x y : Nat} (hx : plainB w x = true) (hy : plainB w y = true) : peqV w (some ⟨x, 0, none⟩) (some ⟨y, 0, none⟩) = some (decide (x = y)) := by
  unfold peqV
  simp only [hx, hy, Bool.and_self, if_true]
  by_cases h : x = y
  · subst h; simp
  · simp [h]
theorem plainB_of {w : World} {x : Nat} {c : Array Value} {T : TypeId} (h : w.heap[x]? = some (.cells c T (0, 0))) : plainB w x = true := by unfold plainB; rw [h]; rfl

theorem same_room_ret (w : World) (x : Nat) (p y : Nat) (hp : wcell w p 0 = some (.pointer (some ⟨y, 0, none⟩))) (hx : plainB w x = true) (hy : plainB w y = true) :
    Ret Try.prog 44 [.pointer (some ⟨x, 0, none⟩), .pointer (some ⟨p, 0, none⟩)] w fun v w' => v = .bool (decide (x = y)) ∧ w' = w := by
  refine ret_of_W Try.func44 rfl ok_bmap_Map_room_2 ?_
  simp [c_bmap_Map_room_2, hp, peqV_plain hx hy]
theorem get_erase {l : List BEnt} {k i : Nat} : (l.eraseIdx k)[i]? = if i < k then l[i]? else l[i + 1]? := List.getElem?_eraseIdx

set_option maxHeartbeats 1000000 in
/-- DeleteFunc, where the closure asks for just one entry. -/
theorem delete_ret {f : FuncId} {cp : Array Value} (b : Nat) (M : BMap) (k : Nat) (e : BEnt) (w : World) (h : MapAt w b M) (hk : M.l[k]? = some e) (hf : funOk Try.prog f = true)
    (hcl : ∀ w', Kept (fun j => M.L.ownBlock = some j) w w' → ∀ a ∈ M.l, Ret Try.prog f ([.pointer (some ⟨a.eb, 0, none⟩)] ++ cp.toList) w' fun v w'' => v = .bool (decide (a.eb = e.eb)) ∧ Kept none' w' w'') :
    Ret Try.prog 43 [M.L, .func (.func f) #[] cp] w fun v w' => Kept (fun j => M.L.ownBlock = some j) w w' ∧ RowAt w' v (M.l.eraseIdx k) ∧ v.ownBlock = M.L.ownBlock := by
  refine ret_of_W Try.func43 rfl ok_slices_DeleteFunc ?_
  have hsm := h.small
  have hkl : k < M.l.length := (List.getElem?_eq_some_iff.1 hk).1
  obtain ⟨g, cap, cur, hL, hg, h1, h2, h3, h4⟩ : ∃ g cap cur, M.L = .slice (some ⟨g, 0, none⟩) M.l.length cap ∧ w.heap[g]? = some (.cells cur 57 (0, 0)) ∧ M.l.length ≤ cap ∧ cap ≤ maxLen ∧ cur.size = cap ∧
      ∀ (i : Nat) (e : BEnt), M.l[i]? = some e → cur[i]? = some (Value.pointer (some ⟨e.eb, 0, none⟩)) := by
    rcases h.row with ⟨_, h0⟩ | h0
    · rw [h0] at hkl; simp at hkl
    · exact h0
  have hown : M.L.ownBlock = some g := by rw [hL]; rfl
  rw [hown] at hcl ⊢
  simp only [Option.some.injEq] at hcl ⊢
  have hrow := h.row
  rw [hL] at hrow ⊢
  simp [c_slices_DeleteFunc]
  refine W_call0 (by simp) (index_ret (cp := cp) (fun a => decide (a.eb = e.eb)) w hrow hsm hf (fun w' hk' a ha => hcl w' (hk'.mono fun _ _ h => h.elim) a ha)) ?_
  rintro v w1 ⟨hk1, hv⟩
  have hg1 := hk1.has hg (fun h => h)
  have hiv : v = .int .i64 k := by
    rcases hv with ⟨i, a, hi, hpa, hall, rfl⟩ | ⟨hno, rfl⟩
    · by_cases hik : i = k
      · rw [hik]
      · exact absurd (by simpa using hpa) (apart_of h.apart hi hk hik).1
    · have := hno e (List.mem_of_getElem? hk)
      simp at this
  subst hiv
  clear hv
  simp
  refine W_no (by simp) ?_
  have e1 : IntKind.i64.wrap ((k : Int) + 1) = ((k + 1 : Nat) : Int) := i64w (by omega) (by omega)
  simp
  refine W_loop (fun env w' => Kept (fun j => g = j) w w' ∧ ∃ (j : Nat) (cu : Array Value), env = [.slice (some ⟨g, 0, none⟩) M.l.length cap, .func (.func f) #[] cp, undef, undef, .int .i64 ((j : Int) - 1), .int .i64 j, undef, undef] ∧ k + 1 ≤ j ∧ j ≤ M.l.length ∧
      w'.heap[g]? = some (.cells cu 57 (0, 0)) ∧ cu.size = cap ∧ (∀ (i : Nat) (a : BEnt), i < k → M.l[i]? = some a → cu[i]? = some (Value.pointer (some ⟨a.eb, 0, none⟩))) ∧
      (∀ (i : Nat) (a : BEnt), k ≤ i → i + 1 < j → M.l[i + 1]? = some a → cu[i]? = some (Value.pointer (some ⟨a.eb, 0, none⟩))) ∧
      (∀ (i : Nat) (a : BEnt), j ≤ i → M.l[i]? = some a → cu[i]? = some (Value.pointer (some ⟨a.eb, 0, none⟩)))) (fun env _ => M.l.length - natAt env 5) ?_ ?_
  · refine ⟨hk1.mono fun _ _ h => h.elim, k + 1, cur, by simp [e1], by omega, by omega, hg1, h3, fun i a _ hi => h4 i a hi, fun i a hi hi2 => by omega, fun i a _ hi => h4 i a hi⟩
  · rintro env w2 ⟨hk2, j, cu, rfl, hj1, hj2, hg2, hcu, hA, hB, hC⟩
    by_cases hj3 : j < M.l.length
    · simp
      refine W_yes (by simp; omega) ?_
      have hje : M.l[j]? = some M.l[j] := List.getElem?_eq_getElem hj3
      have hcell : wcell w2 g j = some (.pointer (some ⟨M.l[j].eb, 0, none⟩)) := by rw [wcell_of hg2]; exact hC j _ (Nat.le_refl _) hje
      simp [hj3, hcell]
      refine W_dyn (g := f) (first := #[]) (cap := cp) (vs := [.pointer (some ⟨M.l[j].eb, 0, none⟩)]) (by simp) (by simp) hf (hcl w2 hk2 M.l[j] (List.getElem_mem hj3)) ?_
      rintro v w3 ⟨rfl, hk3⟩
      refine ⟨stab_nil _ _ _, ?_⟩
      have hne : M.l[j].eb ≠ e.eb := (apart_of h.apart hje hk (by omega)).1
      have hg3 := hk3.has hg2 (fun h => h)
      have e2 : IntKind.i64.wrap (j : Int) = ((j + 1 : Nat) : Int) - 1 := by rw [i64w (by omega) (by omega)]; omega
      have e3 : IntKind.i64.wrap ((j : Int) + 1) = ((j + 1 : Nat) : Int) := i64w (by omega) (by omega)
      have b1 : 0 ≤ (j : Int) - 1 := by omega
      have b2 : (j : Int) - 1 < M.l.length := by omega
      have b3 : ((j : Int) - 1).toNat = j - 1 := by omega
      have b4 : (1 : Int) ≤ j := by omega
      simp
      refine W_yes (by simp [hne]) ?_
      have hst : stv w3 1 (.pointer (some ⟨g, j - 1, none⟩)) (.pointer (some ⟨M.l[j].eb, 0, none⟩)) = some (put w3 g (.cells (cu.setIfInBounds (j - 1) (.pointer (some ⟨M.l[j].eb, 0, none⟩))) 57 (0, 0))) := by
        rw [stv_of (n := 1) (v := .pointer (some ⟨M.l[j].eb, 0, none⟩)) hg3 rfl (by omega) (.inl (by simp)) (by simp [Value.oneCell'])]
        simp
      simp
      refine W_store (by simp [b4, b2, b3]) (by simp) hst (stab_nil _ _ _) ?_
      simp
      refine ⟨⟨(hk2.trans (hk3.mono fun _ _ h => h.elim)).put (fun _ => rfl) _, j + 1, ⟨e2, e3⟩, by omega, by omega, _, put_same (blk_lt hg3), by simpa using hcu, ?_, ?_, ?_⟩, by simp [natAt, e3]; omega⟩
      · intro i a hi ha
        rw [Array.getElem?_setIfInBounds_ne (by omega)]; exact hA i a hi ha
      · intro i a hi hi2 ha
        by_cases hij : i = j - 1
        · subst hij
          rw [Array.getElem?_setIfInBounds_self_of_lt (by omega)]
          rw [show j - 1 + 1 = j by omega, hje] at ha
          simp at ha
          subst ha
          rfl
        · rw [Array.getElem?_setIfInBounds_ne (by omega)]; exact hB i a hi (by omega) ha
      · intro i a hi ha
        rw [Array.getElem?_setIfInBounds_ne (by omega)]; exact hC i a (by omega) ha
    · have : j = M.l.length := by omega
      subst this
      simp
      refine W_no (by simp) ?_
      have b1 : 0 ≤ (M.l.length : Int) - 1 := by omega
      have b2 : (M.l.length : Int) - 1 ≤ M.l.length := by omega
      have b3 : ((M.l.length : Int) - 1).toNat = M.l.length - 1 := by omega
      have b4 : (M.l.length : Int) ≤ cap := by omega
      have b5 : ¬ (cap = M.l.length - 1) := by omega
      have b6 : M.l.length - (M.l.length - 1) = 1 := by omega
      have b7 : (M.l.length : Int) - 1 ≤ cap := by omega
      have b8 : ¬ (cap = 0) := by omega
      have b9 : (1 : Int) ≤ M.l.length := by omega
      simp
      refine W_bi (by simp [b9, b2, b3, b4, b5, b6]) (run_clear1 (o := M.l.length - 1) (c := cap - (M.l.length - 1)) hg2 (by omega)) (stab_nil _ _ _) ?_
      simp [b9, b3, b7, b8]
      refine ⟨hk2.put (fun _ => rfl) _, ?_, rfl⟩
      refine .inr ⟨g, cap, _, ?_, put_same (blk_lt hg2), ?_, h2, by simpa using hcu, ?_⟩
      · simp [List.length_eraseIdx, hkl]
      · simp [List.length_eraseIdx, hkl]; omega
      · intro i a hi
        rw [get_erase] at hi
        have hlt : i < M.l.length - 1 := by
          split at hi
          · omega
          · have := (List.getElem?_eq_some_iff.1 hi).1; omega
        rw [Array.getElem?_setIfInBounds_ne (by omega)]
        split at hi
        · exact hA i a (by omega) hi
        · exact hB i a (by omega) (by omega) hi
end Go.Proofs.Ythfchnaocbkofaa
