/- Layer 19, part F: a number is written; Load and Save on the stack. -/
import Derived.Test.YthfchnaocbkofaaRegE
set_option linter.unusedSimpArgs false
set_option linter.unusedVariables false
set_option maxRecDepth 8000
namespace Go.Proofs.Ythfchnaocbkofaa
open Go.Eng

/-- Byte j of a number. -/
def byteN (n : Int) (j : Nat) : Int := n / 256 ^ j % 256
theorem byteN_range (n : Int) (j : Nat) : 0 ≤ byteN n j ∧ byteN n j ≤ 255 := by unfold byteN; omega

def withBytes (m : RMem) (f e : Nat) (n : Int) : RMem := { m with stack := fun q => if f ≤ q ∧ q < e then byteN n (q - f) else m.stack q }
theorem withBytes_self (m : RMem) (f : Nat) (n : Int) : withBytes m f f n = m := by
  refine rmem_ext rfl ?_ rfl rfl rfl
  funext q
  simp only [withBytes]
  rw [if_neg (by omega)]
theorem withBytes_step (m : RMem) (f i : Nat) (n : Int) : { withBytes m f (f + i) n with stack := fset (withBytes m f (f + i) n).stack (f + i) (byteN n i) } = withBytes m f (f + (i + 1)) n := by
  refine rmem_ext rfl ?_ rfl rfl rfl
  funext q
  simp only [fset, withBytes]
  split
  · rename_i hq; subst hq
    rw [if_pos (by omega), show f + i - f = i from by omega]
  · rename_i hq
    by_cases h1 : f ≤ q ∧ q < f + i
    · rw [if_pos h1, if_pos (by omega)]
    · rw [if_neg h1, if_neg (by omega)]

theorem byte_eq (n : Int) (j : Nat) (h0 : 0 ≤ n) (hj : j ≤ 8) : IntKind.u8.wrap (n.fdiv (2 ^ min (8 * (j : Int)).toNat IntKind.u64.bits)) = byteN n j := by
  have e5 : min (8 * (j : Int)).toNat IntKind.u64.bits = 8 * j := by
    have : IntKind.u64.bits = 64 := rfl
    omega
  have hp : (0 : Int) ≤ 256 ^ j := Int.le_of_lt (Int.pow_pos (by omega))
  rw [e5, pow_256, IntKind.wrap_u8, Int.fdiv_eq_ediv_of_nonneg _ hp]
  rfl

theorem number_stack (b : Nat) (m : RMem) (a : RVal) (f len c : Nat) (n : Int) (w : World) (hm : IsMem w b m) (ha : a.tag = 3) (h : f + len ≤ 64) (hlen : len ≤ 8) (h0 : 0 ≤ n) :
    Ret Try.prog 32 [.pointer (some ⟨b, 0, none⟩), a.val, .slice (some ⟨b, 32 + f, none⟩) len c, .int .i64 f, .int .u64 n] w
      fun v w' => v = .tuple #[] ∧ Kept (· = b) w w' ∧ IsMem w' b (mark (withBytes m f (f + len) n) f len) := by
  refine ret_of_W Try.func32 rfl ok_region_Memory_number ?_
  simp [c_region_Memory_number]
  have hb := blk_lt hm
  have h7 := hp_new w (.cells a.arr 43)
  have hk0 : Kept (· = b) w (w.alloc (.cells a.arr 43)) := (Kept.refl _ _).alloc _
  have hm0 : IsMem (w.alloc (.cells a.arr 43)) b m := hp_old hm _
  generalize w.alloc (.cells a.arr 43) = w0 at h7 hk0 hm0 ⊢
  refine W_loop (fun env w' => Kept (· = b) w w' ∧ w'.heap[w.heap.size]? = some (.cells a.arr 43 (0, 0)) ∧
      ∃ i : Nat, env = [.pointer (some ⟨b, 0, none⟩), undef, .slice (some ⟨b, 32 + f, none⟩) len c, .int .i64 f, .int .u64 n, .pointer (some ⟨w.heap.size, 0, none⟩), .int .i64 i, .int .i64 len, undef] ∧ i ≤ len ∧ IsMem w' b (withBytes m f (f + i) n))
    (fun env _ => len - natAt env 6) ?_ ?_
  · exact ⟨hk0, h7, 0, by simp, by omega, by rw [Nat.add_zero, withBytes_self]; exact hm0⟩
  · rintro env w1 ⟨hk, hx, i, rfl, h1, hm1⟩
    by_cases hi : i < len
    · simp
      refine W_yes (by simp; omega) ?_
      have e2 : IntKind.i64.wrap ((i : Int) + 1) = ((i + 1 : Nat) : Int) := i64w (by omega) (by omega)
      have e3 : IntKind.i64.wrap (8 * (i : Int)) = 8 * (i : Int) := i64w (by omega) (by omega)
      have e4 := byte_eq n i h0 (by omega)
      simp
      refine W_store (by simp [hi]; rfl) (by simp [e3]; rw [intBin_shr _ _ _ _ (by omega)]; simp [e4]; rfl) (by rw [Nat.add_assoc]; exact store_stack hm1 (i := f + i) (by omega) _) (stab_nil _ _ _) ?_
      have hlt := blk_lt hm1
      simp
      refine ⟨⟨hk.put (fun _ => rfl) _, ?_, i + 1, by simp [e2], by omega, ?_⟩, by simp [natAt, e2]; omega⟩
      · rw [put_other (by omega)]; exact hx
      · rw [← withBytes_step]
        exact isMem_put hm1 rfl
    · simp
      refine W_no (by simp; omega) ?_
      have : i = len := by omega
      subst this
      simp
      refine W_yes (by simp [wcell_of hx, ha]) ?_
      refine W_call0 (by simp) (mark_ret b _ f i w1 hm1 h) ?_
      rintro v w2 ⟨rfl, hk2, hm2⟩
      simp
      exact ⟨hk.trans hk2, hm2⟩
end Go.Proofs.Ythfchnaocbkofaa
