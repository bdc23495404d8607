/- Layer 19, part M: Bytes of the stack; sizes. -/
import Derived.Test.YtihaopoehhnbkaaRegL
import Derived.Test.YtihaopoehhnbkaaCmdsNum
import Derived.ArgAppend
set_option linter.unusedSimpArgs false
set_option linter.unusedVariables false
set_option maxRecDepth 8000
namespace Go.Proofs.Ytihaopoehhnbkaa
open Go.Eng

theorem wcell_cell {w : World} {b off : Nat} {v : Value} (h : wcell w b off = some v) : w.cell? ⟨b, off, none⟩ = some v := by
  unfold wcell at h
  unfold World.cell?
  cases hb : w.heap[b]? with
  | none => rw [hb] at h; cases h
  | some o => rw [hb] at h; cases o <;> first | exact h | cases h

/-- append onto a new, empty row: a copy. -/
theorem append_copy {P : Program} {t ty e : TypeId} (ht : P.underlying t = some (.slice e)) (hi0 : (P.info? e).any (fun i => i.size == 1 && decide (i.bytes ≤ 64) && i.zero.isSome) = true) {w : World} {nb b off n c : Nat} {x : Nat → Value}
    (hx : ∀ j, j < n → wcell w b (off + j) = some (x j)) (hn : n ≤ 1000000) :
    ∃ nb' c' w', (builtin .append #[t, t] ty #[] #[.slice (some ⟨nb, 0, none⟩) 0 0, .slice (some ⟨b, off, none⟩) n c]).run P w = .ok (.value (.slice (some ⟨nb', 0, none⟩) n c')) w' ∧ Kept none' w w' ∧
      n ≤ c' ∧ (nb' = nb ∨ nb' = w.heap.size) ∧ (∀ j, j < n → wcell w' nb' j = some (x j)) := by
  obtain ⟨i, hi, hi1⟩ : ∃ i, P.info? e = some i ∧ (i.size == 1 && decide (i.bytes ≤ 64) && i.zero.isSome) = true := by
    cases h : P.info? e with
    | none => rw [h] at hi0; cases hi0
    | some i => rw [h] at hi0; exact ⟨i, rfl, hi0⟩
  simp only [Bool.and_eq_true, beq_iff_eq, decide_eq_true_eq] at hi1
  obtain ⟨⟨hs, hy⟩, hz0⟩ := hi1
  obtain ⟨z, hz⟩ := Option.isSome_iff_exists.1 hz0
  have hb : ∀ v w', (Builtin.append_ #[t, t] ty #[.slice (some ⟨nb, 0, none⟩) 0 0, .slice (some ⟨b, off, none⟩) n c]).run P w = .ok v w' →
      (builtin .append #[t, t] ty #[] #[.slice (some ⟨nb, 0, none⟩) 0 0, .slice (some ⟨b, off, none⟩) n c]).run P w = .ok (.value v) w' := by
    intro v w' h
    simp only [builtin, map_eq_pure_bind, Sem.run_bind, h]
    rfl
  by_cases h0 : n = 0
  · subst h0
    refine ⟨nb, 0, w, hb _ _ ?_, Kept.refl _ _, by omega, .inl rfl, fun j hj => by omega⟩
    have hr := run_append_room_cells (P := P) w t ty e i ht hi nb 0 0 0 ⟨b, off, none⟩ 0 c [] (by simp) (by simp) (by simp) (by omega) (by simp) (by simp)
    have hw : w.setCells nb 0 [] = w := rfl
    simpa [hw] using hr
  · have hl : (List.ofFn (n := n) fun j => x j.val).length = n * i.size := by simp [hs]
    have hnews : ∀ j v, (List.ofFn (n := n) fun j => x j.val)[j]? = some v → w.cell? (Addr.add ⟨b, off, none⟩ j) = some v := by
      intro j v hv
      have hj : j < n := by have := (List.getElem?_eq_some_iff.1 hv).1; simpa using this
      rw [List.getElem?_ofFn] at hv
      simp [hj] at hv
      subst hv
      rw [Addr.add_lit]
      exact wcell_cell (hx j hj)
    have hr := run_append_grow (P := P) w t ty e i z ht hi hz ⟨nb, 0, none⟩ 0 0 [] (by simp) (by simp) ⟨b, off, none⟩ n c _ hl hnews (by omega) (by omega) ?_
    · have hge := grownCap_ge w (0 + n) 0 e
      refine ⟨_, _, _, hb _ _ (by rw [hr, Nat.zero_add]), ((Kept.refl _ _).drew).alloc _, ?_, .inr rfl, ?_⟩
      · rw [Nat.zero_add] at hge; exact hge
      · intro j hj
        have hsz : w.heap.size = w.drew.heap.size := rfl
        rw [hsz, wcell_new]
        rw [Array.getElem?_append_left (by simp; exact hj)]
        simp [hj]
    · refine growslice_fits (by omega) ?_
      have : (0 + n) * i.bytes ≤ 1000000 * 64 := Nat.mul_le_mul (by omega) hy
      omega

/-- What Bytes of the stack tells: whether there are k bytes from s on, all written. -/
def bytesOkS (m : RMem) (s k : Int) : Bool := decide (0 ≤ k ∧ -64 ≤ s ∧ s + k ≤ 0 ∧ Ready m (s + 64).toNat k.toNat)

theorem bytes_ret (b : Nat) (m : RMem) (a : RVal) (k : Int) (w : World) (hm : IsMem w b m) (ha : a.tag = 3) (hk : k ≤ 1000000) :
    Ret Try.prog 18 [.pointer (some ⟨b, 0, none⟩), a.val, .int .i64 k] w fun v w' => Kept none' w w' ∧
      (if bytesOkS m (IntKind.i64.wrap a.n) k = true then ∃ nb c, v = .tuple #[.slice (some ⟨nb, 0, none⟩) k.toNat c, .int .i64 0] ∧ k.toNat ≤ c ∧ w.heap.size ≤ nb ∧
        ∀ j, j < k.toNat → wcell w' nb j = some (.int .u8 (m.stack ((IntKind.i64.wrap a.n + 64).toNat + j)))
       else v = .tuple #[.slice none 0 0, .int .i64 14]) := by
  refine ret_of_W Try.func18 rfl ok_region_Memory_Bytes ?_
  have hb' := blk_lt hm
  simp only [c_region_Memory_Bytes]
  have h5 := hp_new w (.cells a.arr 29)
  have hm0 : IsMem (w.alloc (.cells a.arr 29)) b m := hp_old hm _
  have hk0 : Kept none' w (w.alloc (.cells a.arr 29)) := (Kept.refl _ _).alloc _
  simp
  generalize w.alloc (.cells a.arr 29) = w2 at h5 hm0 hk0 ⊢
  generalize hq : (if k < 0 then (0 : Int) else k) = q
  have hq0 : 0 ≤ q ∧ q ≤ 1000000 ∧ (0 ≤ k → q = k) := by split at hq <;> omega
  refine W_call0 (by simp [rval_row h5, hq]) (view_stack b a 0 q w2 ha (by omega) (by omega) (by omega) (by omega)) ?_
  rintro v w3 ⟨hk1, hv⟩
  have hk2 := hk0.trans hk1
  have h5' := hk1.has h5 (fun h => h)
  have hm1 : IsMem w3 b m := hk1.has hm0 (fun h => h)
  generalize hN : IntKind.i64.wrap a.n = N at *
  by_cases hin : 0 ≤ k ∧ -64 ≤ N ∧ N + k ≤ 0
  · obtain ⟨n, rfl⟩ : ∃ n : Nat, k = n := ⟨k.toNat, by omega⟩
    have hqn := hq0.2.2 hin.1
    subst hqn
    rw [if_pos (by omega)] at hv
    obtain ⟨f, hf, rfl⟩ := hv
    have hsl : ∃ o, (if 64 = f then (⟨b, 32, none⟩ : Addr) else ⟨b, 32 + f, none⟩) = ⟨b, o, none⟩ ∧ (0 < n → o = 32 + f) := by
      by_cases h64 : 64 = f
      · rw [if_pos h64]; exact ⟨32, rfl, fun h => by omega⟩
      · rw [if_neg h64]; exact ⟨32 + f, rfl, fun _ => rfl⟩
    obtain ⟨o, ho, ho2⟩ := hsl
    rw [ho]
    have hff : (N + 64).toNat = f := by omega
    have hn0 : ¬ ((n : Int) < 0) := by omega
    have hn64 : ¬ (64 < (n : Int)) := by omega
    simp [hn0, hn64, wcell_of h5', ha]
    refine W_yes (by simp [hn0, hn64]) ?_
    simp [wcell_of h5', ha, hn0, hn64]
    refine W_yes (by simp [hn0, hn64]) ?_
    refine W_call0 (by simp) (ready_ret b m f n w3 hm1 (by omega)) ?_
    rintro v w4 ⟨rfl, r, rfl, hr⟩
    simp
    have hok : bytesOkS m N n = r := by
      unfold bytesOkS
      rw [hff]
      cases r
      · rw [decide_eq_false_iff_not]
        intro h
        have := hr.2 (by simpa using h.2.2.2)
        cases this
      · rw [decide_eq_true_eq]
        exact ⟨by omega, hin.2.1, hin.2.2, by simpa using hr.1 rfl⟩
    rw [hok]
    cases r
    · refine W_yes (by simp [hn0, hn64]) ?_
      simp
      exact hk2
    · refine W_no (by simp [hn0, hn64]) ?_
      simp
      have hm5 : IsMem (w4.alloc (.cells #[] 5)) b m := hp_old hm1 _
      have hx : ∀ j, j < n → wcell (w4.alloc (.cells #[] 5)) b (o + j) = some (.int .u8 (m.stack (f + j))) := by
        intro j hj
        rw [ho2 (by omega), wcell_of hm5, Nat.add_assoc, mem_stack m _ (by omega)]
      obtain ⟨nb, c', w5, hrun, hk5, hc', hnb, hcells⟩ := append_copy (P := Try.prog) (t := 38) (ty := 38) (e := 5) (nb := w4.heap.size) (c := 64 - f) Try.underlying38 (by kernel_rfl) hx (by omega)
      refine W_bi (by simp) hrun (stab_nil _ _ _) ?_
      simp
      have hsz := hk2.size
      refine ⟨((hk2.alloc _).trans hk5), ?_⟩
      rw [hff]
      simp at hnb
      refine ⟨nb, c', ⟨rfl, rfl⟩, hc', by omega, hcells⟩
  · have hno : bytesOkS m N k = false := by
      unfold bytesOkS
      rw [decide_eq_false_iff_not]
      exact fun h => hin ⟨h.1, h.2.1, h.2.2.1⟩
    by_cases hin2 : -64 ≤ N + 0 ∧ N + 0 + q ≤ 0
    · rw [if_pos hin2] at hv
      obtain ⟨f, hf, rfl⟩ := hv
      have hkneg : k < 0 := by
        by_cases h : 0 ≤ k
        · exact absurd ⟨h, by omega, by have := hq0.2.2 h; omega⟩ hin
        · omega
      simp [hkneg, hno]
      refine W_no (by simp [hkneg]) ?_
      simp [hkneg]
      refine W_no (by simp [hkneg]) ?_
      simp [hkneg]
      refine W_yes (by simp [hkneg]) ?_
      simp
      exact hk2
    · rw [if_neg hin2] at hv
      subst hv
      simp [hno]
      refine W_no (by simp) ?_
      simp
      refine W_no (by simp) ?_
      simp
      refine W_yes (by simp) ?_
      simp
      exact hk2
end Go.Proofs.Ytihaopoehhnbkaa
