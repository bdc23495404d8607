/- Layer 11, part J: the reference reads rights. -/
import Derived.Test.YtaaicadjoghbcaaDoorRtI
set_option linter.unusedSimpArgs false
set_option linter.unusedVariables false
set_option maxRecDepth 8000
namespace Go.Proofs.YtaaicadjoghbcaaDoor
open Go.Eng

def refNum : Nat → List Nat → Option Nat
  | a, [] => some a
  | a, c :: r => if 48 ≤ c ∧ c ≤ 57 then refNum ((a * 16 + (c - 48)) % 65536) r
    else if 97 ≤ c ∧ c ≤ 102 then refNum ((a * 16 + (c - 97) + 10) % 65536) r else none
theorem refNum_dig (a k : Nat) (r : List Nat) (hk : k < 16) : refNum a (dig k :: r) = refNum ((a * 16 + k) % 65536) r := by
  have h0 : ∀ c, refNum a (c :: r) = if 48 ≤ c ∧ c ≤ 57 then refNum ((a * 16 + (c - 48)) % 65536) r else if 97 ≤ c ∧ c ≤ 102 then refNum ((a * 16 + (c - 97) + 10) % 65536) r else none := fun c => rfl
  rw [h0]
  unfold dig
  by_cases h : k < 10
  · simp only [if_pos h]; rw [if_pos (by omega), show a * 16 + (48 + k - 48) = a * 16 + k by omega]
  · simp only [if_neg h]; rw [if_neg (by omega), if_pos (by omega), show a * 16 + (87 + k - 97) + 10 = a * 16 + k by omega]
theorem refNum_hexF : ∀ (f n : Nat) (r : List Nat), n < 16 ^ f → n < 65536 → 1 ≤ f → refNum 0 (hexF f n ++ r) = refNum n r
  | 0, n, r, h, h6, h1 => by omega
  | f + 1, n, r, h, h6, h1 => by
    rw [hexF]
    by_cases hn : n < 16
    · rw [if_pos hn]
      show refNum 0 (dig n :: r) = _
      rw [refNum_dig 0 n r hn, Nat.zero_mul, Nat.zero_add, Nat.mod_eq_of_lt h6]
    · rw [if_neg hn, List.append_assoc, refNum_hexF f (n / 16) _ ?_ (by omega) ?_]
      · show refNum (n / 16) (dig (n % 16) :: r) = _
        rw [refNum_dig _ _ _ (Nat.mod_lt _ (by omega))]
        congr 1; omega
      · rw [Nat.pow_succ] at h
        exact Nat.div_lt_of_lt_mul (by rw [Nat.mul_comm]; exact h)
      · cases f with
        | zero => simp at h; omega
        | succ f => omega
theorem refNum_hexL {n : Nat} (h : n < 65536) : refNum 0 (hexL n) = some n := by
  have := refNum_hexF 16 n [] (by omega) h (by omega)
  rw [List.append_nil] at this
  exact this
theorem hexF_len' : ∀ (f k n : Nat), n < 16 ^ k → 1 ≤ k → (hexF f n).length ≤ k
  | 0, k, n, h, h1 => by simp [hexF]
  | f + 1, k, n, h, h1 => by
    rw [hexF]
    split
    · simpa using h1
    · obtain ⟨k', rfl⟩ : ∃ k', k = k' + 1 := ⟨k - 1, by omega⟩
      rw [Nat.pow_succ] at h
      have h2 := hexF_len' f k' (n / 16) (Nat.div_lt_of_lt_mul (by rw [Nat.mul_comm]; exact h)) (by
        cases k' with
        | zero => simp at h; omega
        | succ k' => omega)
      simp; omega
theorem word_len {i n : Nat} (h : n < 65536) : 2 ≤ (word i n).length ∧ (word i n).length ≤ 5 := by
  have h1 := hexF_len' 16 4 n (by omega) (by omega)
  have h2 : 0 < (hexL n).length := List.length_pos_iff.2 (hexF_ne 15 n)
  unfold hexL at h2
  unfold word hexL
  simp only [List.length_cons]
  omega

theorem parseF_some {l : List Nat} {r : Rt} (h : parseF l = some r) : r.wf ∧ textL r = l := by
  unfold parseF at h
  cases hq : rtOf (splitG 32 l) with
  | none => rw [hq] at h; cases h
  | some r' =>
    rw [hq] at h
    simp only at h
    split at h
    · rename_i ht
      cases h
      refine ⟨?_, ht⟩
      unfold rtOf at hq
      split at hq
      · cases hq
      · split at hq
        · rename_i a b c d h0 h1 h2 h3
          cases hq
          exact ⟨word16_lt h0, word16_lt h1, word16_lt h2, word16_lt h3⟩
        · cases hq
    · cases h
theorem parseF_none {l : List Nat} (h : ∀ r : Rt, r.wf → textL r = l → False) : parseF l = none := by
  cases hq : parseF l with
  | none => rfl
  | some r => exact (h r (parseF_some hq).1 (parseF_some hq).2).elim

theorem bs_idx {l : List Nat} (hl : Oct l) {i c : Nat} (h : l[i]? = some c) : idxStrV (.string (bs l)) (.int .i64 (i : Nat)) = some (.int .u8 (c : Nat)) := by
  rw [idxStrV_string, if_pos (by omega)]
  have h255 := hl c (List.mem_of_getElem? h)
  simp [bs, h, Nat.mod_eq_of_lt (show c < 256 by omega)]
theorem bs_one {l : List Nat} {i c : Nat} (h : l[i]? = some c) : slStrV (.string (bs l)) (.int .i64 (i : Nat)) (.int .i64 ((i + 1 : Nat) : Int)) = some (.string (bs [c])) := by
  have hi := (List.getElem?_eq_some_iff.1 h).1
  rw [slStrV_string, if_pos ⟨by omega, by omega, by simp; omega⟩]
  congr 2
  refine ByteArray.ext ?_
  rw [ByteArray.data_extract]
  have hc := (List.getElem?_eq_some_iff.1 h).2
  simp [bs]
  rw [List.drop_eq_getElem_cons (by simpa using hi)]
  simp [hc]

def FourAt (w : World) (b : Nat) (ns : Nat → Nat) : Prop := ∃ cs : Array Value, w.heap[b]? = some (.cells cs 45 (0, 0)) ∧ cs.size = 4 ∧ ∀ j, j < 4 → cs[j]? = some (.int .u16 (ns j : Nat))
theorem FourAt.put {w : World} {b k x : Nat} {ns : Nat → Nat} (h : FourAt w b ns) (hk : k < 4) :
    ∃ w', stv w 1 (.pointer (some ⟨b, k, none⟩)) (.int .u16 (x : Nat)) = some w' ∧ FourAt w' b (fun j => if j = k then x else ns j) ∧ (∀ j, j ≠ b → w'.heap[j]? = w.heap[j]?) ∧ ∀ w0, Kept none' w0 w → w0.heap.size ≤ b → Kept none' w0 w' := by
  obtain ⟨cs, hc1, hc2, hc3⟩ := h
  refine ⟨_, stv_of (n := 1) (off := k) (v := .int .u16 (x : Nat)) hc1 rfl (by omega) (.inl (by simp)) (by simp [Value.oneCell']), ⟨_, put_same (blk_lt hc1), by simpa using hc2, ?_⟩, fun j hj => put_other hj, fun w0 hk0 hb => hk0.putNew hb _⟩
  intro j hj
  simp only [cells_int]
  show (setRow cs k [Value.int .u16 (x : Nat)])[j]? = _
  rw [setRow_eq]
  by_cases hjk : j = k
  · subst hjk
    rw [if_pos (by simp only [List.length_singleton]; omega), Nat.sub_self, if_pos rfl]; rfl
  · rw [if_neg (by simp only [List.length_singleton]; omega), if_neg hjk]
    exact hc3 j hj
theorem FourAt.cell {w : World} {b k : Nat} {ns : Nat → Nat} (h : FourAt w b ns) (hk : k < 4) : wcell w b k = some (.int .u16 (ns k : Nat)) := by
  obtain ⟨cs, hc1, hc2, hc3⟩ := h
  rw [wcell_of hc1]; exact hc3 k hk
theorem FourAt.calm {w w' : World} {b : Nat} {ns : Nat → Nat} (h : FourAt w b ns) (hk : Kept none' w w') : FourAt w' b ns := by
  obtain ⟨cs, hc1, hc⟩ := h
  exact ⟨cs, hk.has hc1 (fun h => h), hc⟩
theorem rt_flag {w0 w : World} {b : Nat} {R : Rt} {T : TypeId} (hk : Kept none' w0 w) (hb : w.heap[b]? = some (.cells R.arr T (0, 0))) (hn : w0.heap.size ≤ b) (x : Bool) :
    (∃ w', stv w 1 (.pointer (some ⟨b, 4, none⟩)) (.bool x) = some w' ∧ Kept none' w0 w' ∧ w'.heap[b]? = some (.cells { R with v := x }.arr T (0, 0)) ∧ ∀ j, j ≠ b → w'.heap[j]? = w.heap[j]?) ∧
    (∃ w', stv w 1 (.pointer (some ⟨b, 5, none⟩)) (.bool x) = some w' ∧ Kept none' w0 w' ∧ w'.heap[b]? = some (.cells { R with s := x }.arr T (0, 0)) ∧ ∀ j, j ≠ b → w'.heap[j]? = w.heap[j]?) := by
  constructor
  · exact ⟨_, stv_of (n := 1) (off := 4) (v := .bool x) hb rfl (by simp) (.inl (by simp)) (by simp [Value.oneCell']), hk.putNew hn _, by rw [put_same (blk_lt hb)]; rfl, fun j hj => put_other hj⟩
  · exact ⟨_, stv_of (n := 1) (off := 5) (v := .bool x) hb rfl (by simp) (.inl (by simp)) (by simp [Value.oneCell']), hk.putNew hn _, by rw [put_same (blk_lt hb)]; rfl, fun j hj => put_other hj⟩

def refV (o : Option Rt) : Value := .tuple #[(o.getD Rt.zero).val, .bool o.isSome]
end Go.Proofs.YtaaicadjoghbcaaDoor
