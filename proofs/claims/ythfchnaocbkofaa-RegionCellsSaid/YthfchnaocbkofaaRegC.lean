/- Layer 19, part C: loops over a memory: what is ready, a number's bytes, marks. -/
import Derived.Test.YthfchnaocbkofaaRegB
set_option linter.unusedSimpArgs false
set_option linter.unusedVariables false
namespace Go.Proofs.Ythfchnaocbkofaa
open Go.Eng

def readyAt (m : RMem) (j : Nat) : Bool := m.written j && decide ((m.kept (j / 8)).tag = 0)
def Ready (m : RMem) (f n : Nat) : Prop := ∀ j, f ≤ j → j < f + n → readyAt m j = true

theorem div8 (i : Nat) (h : i ≤ 100000) : IntKind.i64.wrap ((i : Int) / 8) = (i : Int) / 8 := i64w (by omega) (by omega)
theorem div8n (i : Nat) : ((i : Int) / 8).toNat = i / 8 := by omega

theorem ready_ret (b : Nat) (m : RMem) (f n : Nat) (w : World) (hm : IsMem w b m) (h : f + n ≤ 64) :
    Ret Try.prog 29 [.pointer (some ⟨b, 0, none⟩), .int .i64 f, .int .i64 n] w fun v w' => w' = w ∧ ∃ r : Bool, v = .bool r ∧ (r = true ↔ Ready m f n) := by
  refine ret_of_W Try.func29 rfl ok_region_Memory_ready ?_
  simp [c_region_Memory_ready]
  refine W_loop (fun env w' => w' = w ∧ ∃ i : Nat, env = [.pointer (some ⟨b, 0, none⟩), .int .i64 f, .int .i64 n, undef, .int .i64 i] ∧ f ≤ i ∧ i ≤ f + n ∧ ∀ j, f ≤ j → j < i → readyAt m j = true)
    (fun env _ => (f + n) - natAt env 4) ?_ ?_
  · exact ⟨rfl, f, by simp, by omega, by omega, fun j h1 h2 => by omega⟩
  · rintro env w' ⟨rfl, i, rfl, h1, h2, h3⟩
    have e1 : IntKind.i64.wrap ((f : Int) + n) = f + n := i64w (by omega) (by omega)
    by_cases hi : i < f + n
    · simp
      refine W_yes (by simp [e1]; omega) ?_
      have ew := mem_written m i (by omega)
      have ek := mem_tag m (i / 8) (by omega)
      simp
      unfold IsMem at hm
      refine W_cond (t := !(readyAt m i)) ?_ ?_ ?_
      · have b1 : ((i : Int) < 64) := by omega
        have b2 : 0 ≤ (i : Int) / 8 := by omega
        have b3 : (i : Int) / 8 < 8 := by omega
        simp [wcell_of hm, div8 i (by omega), div8n, b1, b2, b3, ew, ek, readyAt]
      · intro hr
        simp
        intro hR
        have := hR i h1 hi
        simp [this] at hr
      · intro hr
        simp
        have e2 : IntKind.i64.wrap ((i : Int) + 1) = ((i + 1 : Nat) : Int) := i64w (by omega) (by omega)
        refine ⟨⟨i + 1, by simp [e2], by omega, by omega, fun j g1 g2 => ?_⟩, by simp [natAt, e2]; omega⟩
        by_cases hj : j = i
        · subst hj; simpa using hr
        · exact h3 j g1 (by omega)
    · simp
      refine W_no (by simp [e1]; omega) ?_
      simp
      intro j g1 g2
      exact h3 j g1 (by omega)
end Go.Proofs.Ythfchnaocbkofaa
