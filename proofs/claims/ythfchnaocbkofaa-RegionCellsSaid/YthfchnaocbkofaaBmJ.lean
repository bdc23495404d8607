/- Layer 9, part J: New, Freeze; maps. -/
import Derived.Test.YthfchnaocbkofaaBmI
set_option linter.unusedSimpArgs false
set_option linter.unusedVariables false
set_option maxRecDepth 8000
namespace Go.Proofs.Ythfchnaocbkofaa
open Go.Eng

/-- What a map may be. -/
def specOk (ty ks vs n : Int) : Prop := 1 ≤ vs ∧ vs ≤ 64 ∧ 1 ≤ n ∧ n ≤ 64 ∧ (ty = 0 ∧ ks = 4 ∨ (ty = 1 ∨ ty = 2) ∧ 1 ≤ ks ∧ ks ≤ 16 ∨ (ty = 3 ∨ ty = 4) ∧ ks = 0 ∨ ty = 5 ∧ 5 ≤ ks ∧ ks ≤ 16)

set_option maxHeartbeats 1000000 in
theorem check_ret (ty ks vs n : Int) (w : World) (h : specOk ty ks vs n) : Ret Try.prog 16 [.agg #[.int .i64 ty, .int .i64 ks, .int .i64 vs, .int .i64 n]] w fun v w' => v = .int .i64 0 ∧ Kept none' w w' := by
  refine ret_of_W Try.func16 rfl ok_bmap_Check ?_
  obtain ⟨h1, h2, h3, h4, h5⟩ := h
  simp [c_bmap_Check]
  have hb := hp_new w (.cells #[.int .i64 ty, .int .i64 ks, .int .i64 vs, .int .i64 n] 29)
  have hk : Kept none' w (w.alloc (.cells #[.int .i64 ty, .int .i64 ks, .int .i64 vs, .int .i64 n] 29)) := (Kept.refl _ _).alloc _
  generalize w.alloc (.cells #[.int .i64 ty, .int .i64 ks, .int .i64 vs, .int .i64 n] 29) = w1 at hb hk ⊢
  refine W_call0 (by simp [wcell_of hb]) (within_ret vs 1 64 w1) ?_
  rintro v w2 ⟨rfl, rfl⟩
  have e1 : (decide (1 ≤ vs) && decide (vs ≤ 64)) = true := by simp; omega
  have e2 : (decide (1 ≤ n) && decide (n ≤ 64)) = true := by simp; omega
  rw [e1]
  simp [wcell_of hb]
  refine W_yes (by simp) ?_
  refine W_call0 (by simp [wcell_of hb]) (within_ret n 1 64 w2) ?_
  rintro v w3 ⟨rfl, rfl⟩
  rw [e2]
  simp [wcell_of hb]
  rcases h5 with ⟨rfl, rfl⟩ | ⟨hty, g1, g2⟩ | ⟨hty, rfl⟩ | ⟨rfl, g1, g2⟩
  · refine W_yes (by simp) ?_
    simp [wcell_of hb]
    refine W_no (by simp) ?_
    simp
    exact hk
  · have e3 : (decide (1 ≤ ks) && decide (ks ≤ 16)) = true := by simp; omega
    have t0 : ¬ ty = 0 := by omega
    refine W_no (by simp [t0]) ?_
    simp
    refine W_cut (fun env w' => w' = w3 ∧ env = [.agg #[.int .i64 ty, .int .i64 ks, .int .i64 vs, .int .i64 n], .int .i64 0, .pointer (some ⟨w.heap.size, 0, none⟩), .bool true, .bool true, .bool true, .int .i64 ty, .bool false, .bool true, undef, undef, undef, undef]) ?_ ?_
    · refine W_cond (t := decide (ty = 1)) (by simp) ?_ ?_
      · intro q
        have q' : ty = 1 := by simpa using q
        simp [q', t0]
      · intro q
        have q' : ty = 2 := by
          have : ¬ ty = 1 := by simpa using q
          omega
        simp [q', t0]
    rintro env w4 ⟨rfl, rfl⟩
    refine W_yes (by simp) ?_
    simp [wcell_of hb]
    refine W_yes (by simp) ?_
    refine W_call0 (by simp [wcell_of hb]) (within_ret ks 1 16 w4) ?_
    rintro v w5 ⟨rfl, rfl⟩
    rw [e3]
    simp
    refine W_no (by simp) ?_
    simp
    exact hk
  · have t0 : ¬ ty = 0 := by omega
    have t1 : ¬ ty = 1 := by omega
    have t2 : ¬ ty = 2 := by omega
    refine W_no (by simp [t0]) ?_
    simp
    refine W_no (by simp [t1]) ?_
    simp
    refine W_no (by simp [t2]) ?_
    simp
    refine W_cut (fun env w' => w' = w3 ∧ env = [.agg #[.int .i64 ty, .int .i64 0, .int .i64 vs, .int .i64 n], .int .i64 0, .pointer (some ⟨w.heap.size, 0, none⟩), .bool true, .bool true, .bool true, .int .i64 ty, .bool false, .bool false, undef, .bool true, undef, undef]) ?_ ?_
    · refine W_cond (t := decide (ty = 3)) (by simp) ?_ ?_
      · intro q
        have q' : ty = 3 := by simpa using q
        simp [q']
      · intro q
        have q' : ty = 4 := by
          have : ¬ ty = 3 := by simpa using q
          omega
        simp [q']
    rintro env w4 ⟨rfl, rfl⟩
    refine W_yes (by simp) ?_
    simp [wcell_of hb]
    refine W_no (by simp) ?_
    simp
    exact hk
  · have e3 : (decide (5 ≤ ks) && decide (ks ≤ 16)) = true := by simp; omega
    refine W_no (by simp) ?_
    simp
    refine W_no (by simp) ?_
    simp
    refine W_no (by simp) ?_
    simp
    refine W_no (by simp) ?_
    simp
    refine W_no (by simp) ?_
    simp
    refine W_yes (by simp) ?_
    simp [wcell_of hb]
    refine W_yes (by simp) ?_
    refine W_call0 (by simp [wcell_of hb]) (within_ret ks 5 16 w3) ?_
    rintro v w5 ⟨rfl, rfl⟩
    rw [e3]
    simp
    refine W_no (by simp) ?_
    simp
    exact hk

/-- A new map without entries. -/
def newM (ty ks : Int) (vs : Nat) (n : Int) : BMap := ⟨ty, ks, vs, n, .slice none 0 0, [], false, 0⟩

theorem newmap_ret (ty ks : Int) (vs : Nat) (n : Int) (w : World) (h : specOk ty ks vs n) (h0 : ty ≠ 0) : Ret Try.prog 4 [.agg #[.int .i64 ty, .int .i64 ks, .int .i64 vs, .int .i64 n]] w
    fun v w' => ∃ b, v = .tuple #[.pointer (some ⟨b, 0, none⟩), .int .i64 0] ∧ w.heap.size ≤ b ∧ Kept none' w w' ∧ MapAt w' b (newM ty ks vs n) := by
  refine ret_of_W Try.func4 rfl ok_bmap_New ?_
  simp [c_bmap_New]
  have hb := hp_new w (.cells #[.int .i64 ty, .int .i64 ks, .int .i64 vs, .int .i64 n] 29)
  have hk : Kept none' w (w.alloc (.cells #[.int .i64 ty, .int .i64 ks, .int .i64 vs, .int .i64 n] 29)) := (Kept.refl _ _).alloc _
  generalize w.alloc (.cells #[.int .i64 ty, .int .i64 ks, .int .i64 vs, .int .i64 n] 29) = w1 at hb hk ⊢
  have hrow : ∀ w', w'.heap[w.heap.size]? = some (.cells #[.int .i64 ty, .int .i64 ks, .int .i64 vs, .int .i64 n] 29 (0, 0)) → wrow w' w.heap.size 0 4 = some #[.int .i64 ty, .int .i64 ks, .int .i64 vs, .int .i64 n] := by
    intro w' h'
    rw [wrow_of h' (by simp)]
    simp
  refine W_call0 (by simp [hrow _ hb]) (check_ret ty ks vs n w1 h) ?_
  rintro v w2 ⟨rfl, hk2⟩
  have hb2 := hk2.has hb (fun h => h)
  simp
  refine W_no (by simp) ?_
  simp [hrow _ hb2]
  have hbm := hp_new w2 (.cells (newM ty ks vs n).cells 56)
  have hb3 := hp_old hb2 (.cells (newM ty ks vs n).cells 56)
  have hk3 := (hk.trans hk2).alloc (.cells (newM ty ks vs n).cells 56)
  have hs := (hk.trans hk2).size
  have hcells : (newM ty ks vs n).cells = #[.int .i64 ty, .int .i64 ks, .int .i64 vs, .int .i64 n, .slice none 0 0, .bool false, .int .i64 0] := rfl
  rw [hcells] at hbm hb3 hk3
  generalize w2.alloc (.cells #[.int .i64 ty, .int .i64 ks, .int .i64 vs, .int .i64 n, .slice none 0 0, .bool false, .int .i64 0] 56) = w3 at hbm hb3 hk3 ⊢
  refine W_no (by simp [wcell_of hb3, h0]) ?_
  simp
  refine ⟨hs, hk3, ⟨hbm, .inl ⟨rfl, rfl⟩, fun e he => by simp [newM] at he, by simp [newM], by simp [newM], by simp [newM]⟩⟩
end Go.Proofs.Ythfchnaocbkofaa
