/- Live, of the objects' table: the keys of its map, sorted. -/
import Derived.Test.YtipfkfecelkhnaaGreatDoorLiveKeys
import Derived.Test.YtipfkfecelkhnaaGreatDoorEngXN
import Derived.Test.YtipfkfecelkhnaaGreatDoorEngXW
set_option linter.unusedSimpArgs false
set_option linter.unusedVariables false
set_option maxRecDepth 8000
namespace Go.Proofs.YtipfkfecelkhnaaGreatDoor
open Go.Eng

def c_live : Cmd := (.seq
   (.set 1 (.const (.slice none 0 0)))
  (.seq
   (.cond (.isnil 0 false (.var 0))
     (.seq
      (.set 1 (.const (.slice none 0 0)))
     .ret)
     .skip)
  (.seq
   (.seq
    (.call (some 2) 76 [(.ld none (.offp 2 (.nn (.var 0))))] [])
   (.seq
    (.call (some 3) 75 [(.var 2)] [])
   (.set 1 (.var 3))))
  .ret)))
theorem ok_live : compile Tryz.prog Tryz.f36 [0, 2, 9, 10] [] = some (c_live, [.var 1]) := by kernel_rfl
theorem keysP_ret (mb : Option Nat) (W : World) : Ret Tryz.prog 76 [.map mb] W fun v w' => v = .func (.func (Tryz.keysA_ren.f 10)) #[] #[.pointer (some ⟨W.heap.size, 0, none⟩)] ∧ w' = W.alloc (.cells #[.map mb] (Tryz.keysA_ren.t 23)) :=
  Calls.mono ((Go.callsIn_wide (n := 5)).1 (Tryz.keysCall mb W)) fun e w' h => ⟨_, h.1, rfl, h.2⟩
theorem live_keys : KeysOk Tryz.prog 36 2 := by
  intro w b o mb ents clock ns hc hm hst hk hr hl
  have hs : Ret Tryz.prog 75 [.func (.func (Tryz.keysA_ren.f 10)) #[] #[.pointer (some ⟨w.heap.size, 0, none⟩)]] (w.alloc (.cells #[.map (some mb)] (Tryz.keysA_ren.t 23))) fun v w' => ∃ ss : List Int, ss.Perm ns ∧
      w'.ownsRow (w.heap.size + 1) 3 1 v ss.length ((ss.mergeSort (fun x y => decide (x ≤ y))).map encZ) ∧ (v = .slice none 0 0 ↔ ss = []) ∧ Go.RowKit.Below (w.heap.size + 1) (w.alloc (.cells #[.map (some mb)] (Tryz.keysA_ren.t 23))) w' :=
    Calls.mono (Tryz.sorted_live w mb ents clock ns hm hst hk hr hl) fun e w' h => by
      obtain ⟨v, ss, he, h1⟩ := h
      exact ⟨v, he, ss, h1⟩
  refine ret_of_W (V := [0, 2, 9, 10]) (ks := []) (args := [.pointer (some ⟨b, o, none⟩)]) Tryz.func36 rfl ok_live ?_
  simp [c_live]
  refine W_no (by simp) ?_
  simp
  refine W_call0 (by simp [hc]) (keysP_ret (some mb) w) ?_
  rintro v w1 ⟨rfl, rfl⟩
  simp
  refine W_call0 (by simp) hs ?_
  rintro v w1 ⟨ss, h1, h2, h3, h4⟩
  have hkept : Kept none' w w1 := by
    have k1 := (Kept.refl none' w).alloc (.cells #[.map (some mb)] (Tryz.keysA_ren.t 23))
    refine k1.trans ⟨h4.os, h4.tape, h4.output, h4.size, fun k hk _ => h4.block k ?_⟩
    have e1 : (w.alloc (.cells #[.map (some mb)] (Tryz.keysA_ren.t 23))).heap.size = w.heap.size + 1 := by
      show (w.heap.push _).size = _
      simp
    omega
  have hperm : (ss.mergeSort (fun x y => decide (x ≤ y))).Perm ns := (List.mergeSort_perm _ _).trans h1
  have hsort : (ss.mergeSort (fun x y => decide (x ≤ y))).Pairwise (· ≤ ·) := by
    have := List.pairwise_mergeSort (le := fun (x y : Int) => decide (x ≤ y)) (fun a b c h1 h2 => by simp only [decide_eq_true_eq] at *; omega) (fun a b => by simp only [Bool.or_eq_true, decide_eq_true_eq]; omega) ss
    exact this.imp fun h => by simpa using h
  have hlen : (ss.mergeSort (fun x y => decide (x ≤ y))).length = ss.length := (List.mergeSort_perm _ _).length_eq
  have key : Kept none' w w1 ∧ ∃ ss : List Int, ss.Perm ns ∧ ss.Pairwise (· ≤ ·) ∧
    ((ss = [] ∧ v = .slice none 0 0) ∨ ss ≠ [] ∧ ∃ g cap cur T, v = .slice (some ⟨g, 0, none⟩) ss.length cap ∧ w.heap.size ≤ g ∧ w1.heap[g]? = some (.cells cur T (0, 0)) ∧ ss.length ≤ cap ∧ cap ≤ maxLen ∧ cur.size = cap ∧ cur.toList.take ss.length = ss.map (Value.int .i64)) := by
    refine ⟨hkept, _, hperm, hsort, ?_⟩
    obtain ⟨g1, g2⟩ := h2
    rcases g2 with ⟨hv, h0⟩ | ⟨g, cap, cur, hv, q1, q2, q3, q4, q5, q6⟩
    · have hn : ss = [] := h3.1 hv
      subst hn
      exact .inl ⟨by simp, hv⟩
    · refine .inr ⟨fun e => ?_, g, cap, cur, _, by rw [hlen]; exact hv, by omega, q2, by rw [hlen]; exact q3, q4, by omega, by rw [hlen]; simpa using q6⟩
      have hn : ss = [] := by
        have := congrArg List.length e
        rw [hlen] at this
        exact List.eq_nil_of_length_eq_zero this
      have := h3.2 hn
      rw [this] at hv
      cases hv
  have hu : isUndef v = false := by
    obtain ⟨_, ss', _, _, ⟨_, hv⟩ | ⟨_, g, cap, cur, T, hv, _⟩⟩ := key <;> rw [hv] <;> rfl
  simp [varV, hu]
  simpa using key
end Go.Proofs.YtipfkfecelkhnaaGreatDoor
