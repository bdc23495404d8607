/- Layer 19, part D: marks. -/
import Derived.Test.YtmfgdbapankamaaGreatGr6
set_option linter.unusedSimpArgs false
set_option linter.unusedVariables false
namespace Go.Proofs.YtmfgdbapankamaaGreat
open Go.Eng
theorem rmem_ext {m m' : RMem} (h1 : m.ctx = m'.ctx) (h2 : m.stack = m'.stack) (h3 : m.written = m'.written) (h4 : m.kept = m'.kept) (h5 : m.maps = m'.maps) : m = m' := by
  cases m; cases m'; simp_all
def touched (f e k : Nat) : Prop := f < e ∧ f / 8 ≤ k ∧ k ≤ (e - 1) / 8
instance (f e k : Nat) : Decidable (touched f e k) := by unfold touched; exact inferInstance
def clear (m : RMem) (f e : Nat) : RMem :=
  { m with kept := fun k => if touched f e k ∧ (m.kept k).tag ≠ 0 then RVal.zero else m.kept k,
           written := fun j => if touched f e (j / 8) ∧ (m.kept (j / 8)).tag ≠ 0 then false else m.written j }
def marked (m : RMem) (f e : Nat) : RMem := { m with written := fun j => if f ≤ j ∧ j < e then true else m.written j }
def mark (m : RMem) (f n : Nat) : RMem := marked (clear m f (f + n)) f (f + n)
theorem isMem_put {w : World} {b : Nat} {m m' : RMem} {c : Array Value} (hm : IsMem w b m) (hc : c = m'.cells) : IsMem (put w b (.cells c 101 (0, 0))) b m' := by
  subst hc; exact put_same (blk_lt hm)
theorem store_written {w : World} {b i : Nat} {m : RMem} (hm : IsMem w b m) (h : i < 64) (x : Bool) :
    stv w 1 (.pointer (some ⟨b, 96 + i, none⟩)) (.bool x) = some (put w b (.cells { m with written := fset m.written i x }.cells 101 (0, 0))) := by
  rw [stv_of (n := 1) (v := .bool x) hm rfl (by rw [mem_size]; omega) (.inl (by simp)) (by simp [Value.oneCell', RVal.val, RVal.arr])]
  simp [set_written m i x h]
theorem store_stack {w : World} {b i : Nat} {m : RMem} (hm : IsMem w b m) (h : i < 64) (x : Int) :
    stv w 1 (.pointer (some ⟨b, 32 + i, none⟩)) (.int .u8 x) = some (put w b (.cells { m with stack := fset m.stack i x }.cells 101 (0, 0))) := by
  rw [stv_of (n := 1) (v := .int .u8 x) hm rfl (by rw [mem_size]; omega) (.inl (by simp)) (by simp [Value.oneCell', RVal.val, RVal.arr])]
  simp [set_stack m i x h]
theorem store_kept {w : World} {b k : Nat} {m : RMem} (hm : IsMem w b m) (h : k < 8) (v : RVal) :
    stv w 4 (.pointer (some ⟨b, 160 + k * 4, none⟩)) v.val = some (put w b (.cells { m with kept := fset m.kept k v }.cells 101 (0, 0))) := by
  rw [stv_of (n := 4) (v := v.val) hm rfl (by rw [mem_size]; omega) (.inl (by simp)) (by simp [Value.oneCell', RVal.val, RVal.arr])]
  have := set_kept m k v h
  simp only [RVal.val, Value.cells] at this ⊢
  rw [this]
theorem clear_self (m : RMem) (f : Nat) : clear m f f = m := by
  have : ∀ k, ¬ touched f f k := fun k => by unfold touched; omega
  cases m
  simp [clear, this]
theorem touched_succ (f i k : Nat) (h : f ≤ i) : touched f (i + 1) k ↔ touched f i k ∨ k = i / 8 := by
  unfold touched
  omega
theorem clear_step0 (m : RMem) (f i : Nat) (h : f ≤ i) (h0 : ((clear m f i).kept (i / 8)).tag = 0) : clear m f (i + 1) = clear m f i := by
  have key : ∀ k, (touched f (i + 1) k ∧ (m.kept k).tag ≠ 0) ↔ (touched f i k ∧ (m.kept k).tag ≠ 0) := by
    intro k
    rw [touched_succ f i k h]
    constructor
    · rintro ⟨h1 | h1, h2⟩
      · exact ⟨h1, h2⟩
      · subst h1
        simp only [clear] at h0
        split at h0
        · rename_i h3; exact h3
        · exact absurd h0 h2
    · rintro ⟨h1, h2⟩; exact ⟨.inl h1, h2⟩
  unfold clear
  simp only [key]
theorem clear_step1 (m : RMem) (f i : Nat) (h : f ≤ i) (h1 : ((clear m f i).kept (i / 8)).tag ≠ 0) :
    clear m f (i + 1) = { clear m f i with kept := fset (clear m f i).kept (i / 8) RVal.zero, written := fun q => if q / 8 = i / 8 then false else (clear m f i).written q } := by
  have hn : ¬ (touched f i (i / 8) ∧ (m.kept (i / 8)).tag ≠ 0) := by
    intro hc
    apply h1
    simp only [clear]
    rw [if_pos hc]; rfl
  have ht : (m.kept (i / 8)).tag ≠ 0 := by
    simp only [clear] at h1
    rw [if_neg hn] at h1; exact h1
  refine rmem_ext rfl rfl ?_ ?_ rfl
  · funext q
    simp only [clear]
    by_cases hq : q / 8 = i / 8
    · rw [hq]
      rw [if_pos ⟨(touched_succ f i _ h).2 (.inr rfl), ht⟩]
      simp
    · simp only [hq, if_false]
      have : touched f (i + 1) (q / 8) ↔ touched f i (q / 8) := by rw [touched_succ f i _ h]; simp [hq]
      simp only [this]
  · funext k
    simp only [fset, clear]
    by_cases hq : k = i / 8
    · subst hq
      rw [if_pos ⟨(touched_succ f i _ h).2 (.inr rfl), ht⟩]
      simp
    · simp only [hq, if_false]
      have : touched f (i + 1) k ↔ touched f i k := by rw [touched_succ f i _ h]; simp [hq]
      simp only [this]
def unw (m : RMem) (k j : Nat) : RMem := { m with written := fun q => if q / 8 = k ∧ q % 8 < j then false else m.written q }
theorem unw_zero (m : RMem) (k : Nat) : unw m k 0 = m := by cases m; simp [unw]
theorem unw_step (m : RMem) (k j : Nat) (h : j < 8) : { unw m k j with written := fset (unw m k j).written (k * 8 + j) false } = unw m k (j + 1) := by
  refine rmem_ext rfl rfl ?_ rfl rfl
  funext q
  simp only [fset, unw]
  split
  · rename_i hq; subst hq; rw [if_pos (by omega)]
  · rename_i hq
    by_cases h1 : q / 8 = k ∧ q % 8 < j
    · rw [if_pos h1, if_pos (by omega)]
    · rw [if_neg h1, if_neg (by omega)]
theorem unw_all (m : RMem) (k : Nat) : unw m k 8 = { m with written := fun q => if q / 8 = k then false else m.written q } := by
  refine rmem_ext rfl rfl ?_ rfl rfl
  funext q
  simp only [unw]
  have : q % 8 < 8 := by omega
  simp [this]
theorem marked_self (m : RMem) (f : Nat) : marked m f f = m := by
  refine rmem_ext rfl rfl ?_ rfl rfl
  funext j
  simp only [marked]
  rw [if_neg (by omega)]
theorem marked_step (m : RMem) (f i : Nat) (h : f ≤ i) : { marked m f i with written := fset (marked m f i).written i true } = marked m f (i + 1) := by
  refine rmem_ext rfl rfl ?_ rfl rfl
  funext q
  simp only [fset, marked]
  split
  · rename_i hq; subst hq; rw [if_pos (by omega)]
  · rename_i hq
    by_cases h1 : f ≤ q ∧ q < i
    · rw [if_pos h1, if_pos (by omega)]
    · rw [if_neg h1, if_neg (by omega)]
theorem mark_ret (b : Nat) (m : RMem) (f n : Nat) (w : World) (hm : IsMem w b m) (h : f + n ≤ 64) :
    Ret Tryz.prog 86 [.pointer (some ⟨b, 0, none⟩), .int .i64 f, .int .i64 n] w fun v w' => v = .tuple #[] ∧ Kept (· = b) w w' ∧ IsMem w' b (mark m f n) := by
  refine ret_of_W Tryz.func86 rfl ok_region_Memory_mark ?_
  have e1 : IntKind.i64.wrap ((f : Int) + n) = f + n := i64w (by omega) (by omega)
  simp [c_region_Memory_mark]
  refine W_loop (fun env w' => Kept (· = b) w w' ∧ ∃ i : Nat, env = [.pointer (some ⟨b, 0, none⟩), .int .i64 f, .int .i64 n, .int .i64 i, undef, undef, undef, undef] ∧ f ≤ i ∧ i ≤ f + n ∧ IsMem w' b (clear m f i))
    (fun env _ => (f + n) - natAt env 3) ?_ ?_
  · exact ⟨Kept.refl _ _, f, by simp, by omega, by omega, by rw [clear_self]; exact hm⟩
  · rintro env w1 ⟨hk, i, rfl, h1, h2, hm1⟩
    by_cases hi : i < f + n
    · simp
      refine W_yes (by simp [e1]; omega) ?_
      have ek := mem_tag (clear m f i) (i / 8) (by omega)
      have b2 : 0 ≤ (i : Int) / 8 := by omega
      have b3 : (i : Int) / 8 < 8 := by omega
      have e2 : IntKind.i64.wrap ((i : Int) + 1) = ((i + 1 : Nat) : Int) := i64w (by omega) (by omega)
      simp [div8 i (by omega)]
      refine W_cond (t := decide (((clear m f i).kept (i / 8)).tag ≠ 0)) ?_ ?_ ?_
      · unfold IsMem at hm1
        simp [wcell_of hm1, div8n, b2, b3, ek]
      · intro ht
        have ht' : ((clear m f i).kept (i / 8)).tag ≠ 0 := by simpa using ht
        simp
        refine W_store (by simp [b2, b3]; rfl) (by simp; rfl) (by rw [div8n]; exact store_kept hm1 (by omega) RVal.zero) (stab_nil _ _ _) ?_
        have hm2 := isMem_put (m' := { clear m f i with kept := fset (clear m f i).kept (i / 8) RVal.zero }) hm1 rfl
        have hk2 := hk.put (b := b) (fun _ => rfl) (.cells { clear m f i with kept := fset (clear m f i).kept (i / 8) RVal.zero }.cells 101 (0, 0))
        generalize put w1 b (.cells { clear m f i with kept := fset (clear m f i).kept (i / 8) RVal.zero }.cells 101 (0, 0)) = w2 at hm2 hk2 ⊢
        simp
        refine W_loop (fun env w' => Kept (· = b) w w' ∧ ∃ j : Nat, env = [.pointer (some ⟨b, 0, none⟩), .int .i64 f, .int .i64 n, .int .i64 i, .int .i64 ((i : Int) / 8), .int .i64 j, undef, undef] ∧ j ≤ 8 ∧
            IsMem w' b (unw { clear m f i with kept := fset (clear m f i).kept (i / 8) RVal.zero } (i / 8) j)) (fun env _ => 8 - natAt env 5) ?_ ?_
        · exact ⟨hk2, 0, by simp, by omega, by rw [unw_zero]; exact hm2⟩
        · rintro env w3 ⟨hk3, j, rfl, hj, hm3⟩
          by_cases hj8 : j < 8
          · simp
            refine W_yes (by simp; omega) ?_
            have e3 : IntKind.i64.wrap ((i : Int) / 8 * 8 + j) = (i : Int) / 8 * 8 + j := i64w (by omega) (by omega)
            have e4 : IntKind.i64.wrap ((i : Int) / 8 * 8) = (i : Int) / 8 * 8 := i64w (by omega) (by omega)
            have e5 : IntKind.i64.wrap ((j : Int) + 1) = ((j + 1 : Nat) : Int) := i64w (by omega) (by omega)
            have e6 : ((i : Int) / 8 * 8 + j).toNat = i / 8 * 8 + j := by omega
            have b4 : 0 ≤ (i : Int) / 8 * 8 + j := by omega
            have b5 : (i : Int) / 8 * 8 + j < 64 := by omega
            simp
            refine W_store (by simp [e3, e4, b4, b5]; rfl) (by simp; rfl) (by rw [e6]; exact store_written hm3 (by omega) false) (stab_nil _ _ _) ?_
            simp
            refine ⟨⟨hk3.put (fun _ => rfl) _, j + 1, by simp [e5], by omega, ?_⟩, by simp [natAt, e5]; omega⟩
            rw [← unw_step _ _ _ hj8]
            exact isMem_put hm3 rfl
          · simp
            refine W_no (by simp; omega) ?_
            have : j = 8 := by omega
            subst this
            simp
            refine ⟨⟨hk3, i + 1, by simp [e2], by omega, by omega, ?_⟩, by simp [natAt, e2]; omega⟩
            rw [clear_step1 m f i h1 ht']
            rw [unw_all] at hm3
            exact hm3
      · intro ht
        have ht' : ((clear m f i).kept (i / 8)).tag = 0 := by simpa using ht
        simp
        refine ⟨⟨hk, i + 1, by simp [e2], by omega, by omega, ?_⟩, by simp [natAt, e2]; omega⟩
        rw [clear_step0 m f i h1 ht']; exact hm1
    · simp
      refine W_no (by simp [e1]; omega) ?_
      have : i = f + n := by omega
      subst this
      simp
      refine W_loop (fun env w' => Kept (· = b) w w' ∧ ∃ i : Nat, env = [.pointer (some ⟨b, 0, none⟩), .int .i64 f, .int .i64 n, undef, undef, undef, undef, .int .i64 i] ∧ f ≤ i ∧ i ≤ f + n ∧ IsMem w' b (marked (clear m f (f + n)) f i))
        (fun env _ => (f + n) - natAt env 7) ?_ ?_
      · exact ⟨hk, f, by simp, by omega, by omega, by rw [marked_self]; exact hm1⟩
      · rintro env w3 ⟨hk3, i, rfl, h3, h4, hm3⟩
        by_cases hi : i < f + n
        · simp
          refine W_yes (by simp [e1]; omega) ?_
          have e2 : IntKind.i64.wrap ((i : Int) + 1) = ((i + 1 : Nat) : Int) := i64w (by omega) (by omega)
          have b5 : (i : Int) < 64 := by omega
          simp
          refine W_store (by simp [b5]) (by simp) (store_written hm3 (i := i) (by omega) true) (stab_nil _ _ _) ?_
          simp
          refine ⟨⟨hk3.put (fun _ => rfl) _, i + 1, by simp [e2], by omega, by omega, ?_⟩, by simp [natAt, e2]; omega⟩
          rw [← marked_step _ _ _ h3]
          exact isMem_put hm3 rfl
        · simp
          refine W_no (by simp [e1]; omega) ?_
          have : i = f + n := by omega
          subst this
          simp
          exact ⟨hk3, hm3⟩
end Go.Proofs.YtmfgdbapankamaaGreat
set_option maxRecDepth 8000
namespace Go.Proofs.YtmfgdbapankamaaGreat
open Go.Eng
def leN (x : Nat → Int) : Nat → Int
  | 0 => 0
  | n + 1 => leN x n + x n * 256 ^ n
theorem leN_bound (x : Nat → Int) (hx : ∀ j, 0 ≤ x j ∧ x j ≤ 255) : ∀ n, 0 ≤ leN x n ∧ leN x n < 256 ^ n
  | 0 => by simp [leN]
  | n + 1 => by
    have h := leN_bound x hx n
    have h2 := hx n
    have hp : (0 : Int) < 256 ^ n := Int.pow_pos (by omega)
    simp only [leN, Int.pow_succ]
    constructor
    · have := Int.mul_nonneg h2.1 (Int.le_of_lt hp); omega
    · have : x n * 256 ^ n ≤ 255 * 256 ^ n := Int.mul_le_mul_of_nonneg_right h2.2 (Int.le_of_lt hp)
      omega
theorem pow_256 (n : Nat) : (2 : Int) ^ (8 * n) = 256 ^ n := by rw [Int.pow_mul]; rfl
theorem or_add (a c : Int) (n : Nat) (hn : n < 8) (ha0 : 0 ≤ a) (ha : a < 256 ^ n) (hc0 : 0 ≤ c) (hc : c ≤ 255) :
    bitOr .u64 a (c * 256 ^ n) = a + c * 256 ^ n := by
  unfold bitOr
  obtain ⟨a, rfl⟩ := Int.eq_ofNat_of_zero_le ha0
  obtain ⟨c, rfl⟩ := Int.eq_ofNat_of_zero_le hc0
  have h1 : (a : Nat) < 256 ^ n := by exact_mod_cast ha
  have hc' : c ≤ 255 := by omega
  have e : ((c : Int) * 256 ^ n) = ((c * 256 ^ n : Nat) : Int) := by push_cast; rfl
  rw [e]
  have hpow : 256 ^ n ≤ 256 ^ 7 := Nat.pow_le_pow_right (by omega) (by omega)
  have hlt2 : c * 256 ^ n ≤ 255 * 256 ^ 7 := Nat.mul_le_mul hc' hpow
  have hsum : a + c * 256 ^ n < 2 ^ 64 := by
    have : (256 : Nat) ^ 7 = 72057594037927936 := by decide
    omega
  have b1 : (BitVec.ofInt IntKind.u64.bits ((a : Nat) : Int)).toNat = a := by
    rw [BitVec.ofInt_natCast, BitVec.toNat_ofNat]
    exact Nat.mod_eq_of_lt (show a < 2 ^ 64 by omega)
  have b2 : (BitVec.ofInt IntKind.u64.bits ((c * 256 ^ n : Nat) : Int)).toNat = c * 256 ^ n := by
    rw [BitVec.ofInt_natCast, BitVec.toNat_ofNat]
    exact Nat.mod_eq_of_lt (show c * 256 ^ n < 2 ^ 64 by omega)
  rw [BitVec.toNat_or, b1, b2]
  have h256 : (256 : Nat) ^ n = 2 ^ (8 * n) := by rw [Nat.pow_mul]
  have hor : a ||| c * 256 ^ n = a + c * 256 ^ n := by
    rw [h256] at h1 ⊢
    rw [Nat.or_comm, ← Nat.shiftLeft_eq, ← Nat.shiftLeft_add_eq_or_of_lt h1]
    omega
  rw [hor, u64w (by omega) (by have : (2 : Nat) ^ 64 = 18446744073709551616 := by decide
                               omega)]
  push_cast
  rfl
theorem little_ret (b o n c : Nat) (x : Nat → Int) (w : World) (hn : n ≤ 8) (hx : ∀ j, 0 ≤ x j ∧ x j ≤ 255) (hc : ∀ j, j < n → wcell w b (o + j) = some (.int .u8 (x j))) :
    Ret Tryz.prog 83 [.slice (some ⟨b, o, none⟩) n c] w fun v w' => w' = w ∧ v = .int .u64 (leN x n) := by
  refine ret_of_W Tryz.func83 rfl ok_region_little ?_
  simp [c_region_little]
  refine W_loop (fun env w' => w' = w ∧ ∃ i : Nat, env = [undef, undef, .int .u64 (leN x i), .int .i64 i, .int .i64 n, .slice (some ⟨b, o, none⟩) n c, undef, undef] ∧ i ≤ n)
    (fun env _ => n - natAt env 3) ?_ ?_
  · exact ⟨rfl, 0, by simp [leN], by omega⟩
  · rintro env w' ⟨rfl, i, rfl, h1⟩
    by_cases hi : i < n
    · simp
      refine W_yes (by simp; omega) ?_
      have e2 : IntKind.i64.wrap ((i : Int) + 1) = ((i + 1 : Nat) : Int) := i64w (by omega) (by omega)
      have e3 : IntKind.i64.wrap (8 * (i : Int)) = 8 * (i : Int) := i64w (by omega) (by omega)
      have hxi := hx i
      have hb := leN_bound x hx i
      have e4 : IntKind.u64.wrap (x i) = x i := u64w (by omega) (by omega)
      have e5 : min (8 * (i : Int)).toNat IntKind.u64.bits = 8 * i := by
        have : IntKind.u64.bits = 64 := rfl
        omega
      have e6 : IntKind.u64.wrap (x i * 256 ^ i) = x i * 256 ^ i := by
        have h2 := leN_bound x hx (i + 1)
        simp only [leN] at h2
        have : (256 : Int) ^ (i + 1) ≤ 256 ^ 8 := by exact_mod_cast Nat.pow_le_pow_right (n := 256) (by omega) (show i + 1 ≤ 8 by omega)
        have hp : (0 : Int) < 256 ^ i := Int.pow_pos (by omega)
        have := Int.mul_nonneg hxi.1 (Int.le_of_lt hp)
        have h8 : (256 : Int) ^ 8 = 18446744073709551616 := by decide
        exact u64w (by omega) (by omega)
      simp [hi, hc i hi, e3, e4]
      rw [intBin_shl _ _ _ _ (by omega), e5, pow_256, e6]
      simp
      rw [or_add _ _ _ (by omega) hb.1 hb.2 hxi.1 hxi.2]
      refine ⟨⟨i + 1, ⟨by simp [leN], e2⟩, by omega⟩, by simp [natAt, e2]; omega⟩
    · simp
      refine W_no (by simp; omega) ?_
      have : i = n := by omega
      subst this
      simp
end Go.Proofs.YtmfgdbapankamaaGreat
namespace Go.Proofs.YtmfgdbapankamaaGreat
open Go.Eng
def byteN (n : Int) (j : Nat) : Int := n / 256 ^ j % 256
theorem byteN_range (n : Int) (j : Nat) : 0 ≤ byteN n j ∧ byteN n j ≤ 255 := by unfold byteN; omega
def withBytes (m : RMem) (f e : Nat) (n : Int) : RMem := { m with stack := fun q => if f ≤ q ∧ q < e then byteN n (q - f) else m.stack q }
theorem withBytes_self (m : RMem) (f : Nat) (n : Int) : withBytes m f f n = m := by
  refine rmem_ext rfl ?_ rfl rfl rfl
  funext q
  simp only [withBytes]
  rw [if_neg (by omega)]
theorem withBytes_step (m : RMem) (f i : Nat) (n : Int) : { withBytes m f (f + i) n with stack := fset (withBytes m f (f + i) n).stack (f + i) (byteN n i) } = withBytes m f (f + (i + 1)) n := by
  refine rmem_ext rfl ?_ rfl rfl rfl
  funext q
  simp only [fset, withBytes]
  split
  · rename_i hq; subst hq
    rw [if_pos (by omega), show f + i - f = i from by omega]
  · rename_i hq
    by_cases h1 : f ≤ q ∧ q < f + i
    · rw [if_pos h1, if_pos (by omega)]
    · rw [if_neg h1, if_neg (by omega)]
theorem byte_eq (n : Int) (j : Nat) (h0 : 0 ≤ n) (hj : j ≤ 8) : IntKind.u8.wrap (n.fdiv (2 ^ min (8 * (j : Int)).toNat IntKind.u64.bits)) = byteN n j := by
  have e5 : min (8 * (j : Int)).toNat IntKind.u64.bits = 8 * j := by
    have : IntKind.u64.bits = 64 := rfl
    omega
  have hp : (0 : Int) ≤ 256 ^ j := Int.le_of_lt (Int.pow_pos (by omega))
  rw [e5, pow_256, IntKind.wrap_u8, Int.fdiv_eq_ediv_of_nonneg _ hp]
  rfl
theorem number_stack (b : Nat) (m : RMem) (a : RVal) (f len c : Nat) (n : Int) (w : World) (hm : IsMem w b m) (ha : a.tag = 3) (h : f + len ≤ 64) (hlen : len ≤ 8) (h0 : 0 ≤ n) :
    Ret Tryz.prog 85 [.pointer (some ⟨b, 0, none⟩), a.val, .slice (some ⟨b, 32 + f, none⟩) len c, .int .i64 f, .int .u64 n] w
      fun v w' => v = .tuple #[] ∧ Kept (· = b) w w' ∧ IsMem w' b (mark (withBytes m f (f + len) n) f len) := by
  refine ret_of_W Tryz.func85 rfl ok_region_Memory_number ?_
  simp [c_region_Memory_number]
  have hb := blk_lt hm
  have h7 := hp_new w (.cells a.arr 68)
  have hk0 : Kept (· = b) w (w.alloc (.cells a.arr 68)) := (Kept.refl _ _).alloc _
  have hm0 : IsMem (w.alloc (.cells a.arr 68)) b m := hp_old hm _
  generalize w.alloc (.cells a.arr 68) = w0 at h7 hk0 hm0 ⊢
  refine W_loop (fun env w' => Kept (· = b) w w' ∧ w'.heap[w.heap.size]? = some (.cells a.arr 68 (0, 0)) ∧
      ∃ i : Nat, env = [.pointer (some ⟨b, 0, none⟩), undef, .slice (some ⟨b, 32 + f, none⟩) len c, .int .i64 f, .int .u64 n, .pointer (some ⟨w.heap.size, 0, none⟩), .int .i64 i, .int .i64 len, undef] ∧ i ≤ len ∧ IsMem w' b (withBytes m f (f + i) n))
    (fun env _ => len - natAt env 6) ?_ ?_
  · exact ⟨hk0, h7, 0, by simp, by omega, by rw [Nat.add_zero, withBytes_self]; exact hm0⟩
  · rintro env w1 ⟨hk, hx, i, rfl, h1, hm1⟩
    by_cases hi : i < len
    · simp
      refine W_yes (by simp; omega) ?_
      have e2 : IntKind.i64.wrap ((i : Int) + 1) = ((i + 1 : Nat) : Int) := i64w (by omega) (by omega)
      have e3 : IntKind.i64.wrap (8 * (i : Int)) = 8 * (i : Int) := i64w (by omega) (by omega)
      have e4 := byte_eq n i h0 (by omega)
      simp
      refine W_store (by simp [hi]; rfl) (by simp [e3]; rw [intBin_shr _ _ _ _ (by omega)]; simp [e4]; rfl) (by rw [Nat.add_assoc]; exact store_stack hm1 (i := f + i) (by omega) _) (stab_nil _ _ _) ?_
      have hlt := blk_lt hm1
      simp
      refine ⟨⟨hk.put (fun _ => rfl) _, ?_, i + 1, by simp [e2], by omega, ?_⟩, by simp [natAt, e2]; omega⟩
      · rw [put_other (by omega)]; exact hx
      · rw [← withBytes_step]
        exact isMem_put hm1 rfl
    · simp
      refine W_no (by simp; omega) ?_
      have : i = len := by omega
      subst this
      simp
      refine W_yes (by simp [wcell_of hx, ha]) ?_
      refine W_call0 (by simp) (mark_ret b _ f i w1 hm1 h) ?_
      rintro v w2 ⟨rfl, hk2, hm2⟩
      simp
      exact ⟨hk.trans hk2, hm2⟩
end Go.Proofs.YtmfgdbapankamaaGreat
namespace Go.Proofs.YtmfgdbapankamaaGreat
open Go.Eng
instance (m : RMem) (f n : Nat) : Decidable (Ready m f n) :=
  decidable_of_iff (∀ j, j < n → readyAt m (f + j) = true) ⟨fun h j h1 h2 => by
    have := h (j - f) (by omega)
    rwa [show f + (j - f) = j from by omega] at this, fun h j hj => h (f + j) (by omega) (by omega)⟩
def sizeOk (k : Int) : Prop := k = 1 ∨ k = 2 ∨ k = 4 ∨ k = 8
instance (k : Int) : Decidable (sizeOk k) := by unfold sizeOk; exact inferInstance
def loadS (m : RMem) (s k : Int) : RVal × Int :=
  if sizeOk k ∧ -64 ≤ s ∧ s + k ≤ 0 then
    if k = 8 ∧ (s + 64).toNat % 8 = 0 ∧ (m.kept ((s + 64).toNat / 8)).tag ≠ 0 then (m.kept ((s + 64).toNat / 8), 0)
    else if Ready m (s + 64).toNat k.toNat then (⟨1, leN (fun j => m.stack ((s + 64).toNat + j)) k.toNat, 0, none⟩, 0)
    else (RVal.zero, 14)
  else (RVal.zero, 14)
def BytesOk (m : RMem) : Prop := (∀ i, 0 ≤ m.stack i ∧ m.stack i ≤ 255) ∧ (∀ i, 0 ≤ m.ctx i ∧ m.ctx i ≤ 255)
theorem rval_row {w : World} {b : Nat} {v : RVal} {T : TypeId} {fz : Nat × Nat} (h : w.heap[b]? = some (.cells v.arr T fz)) : wrow w b 0 4 = some v.arr := by
  rw [wrow_of h (by simp [RVal.arr])]
  simp [RVal.arr]
theorem isMem_row {w : World} {b k : Nat} {m : RMem} (hm : IsMem w b m) (h : k < 8) : wrow w b (160 + k * 4) 4 = some (m.kept k).arr := by
  rw [wrow_of hm (by rw [mem_size]; omega), mem_row m k h]
theorem store_val {w : World} {b : Nat} {v u : RVal} {T : TypeId} (h : w.heap[b]? = some (.cells u.arr T (0, 0))) : stv w 4 (.pointer (some ⟨b, 0, none⟩)) v.val = some (put w b (.cells v.arr T (0, 0))) := by
  rw [stv_of (n := 4) (v := v.val) h rfl (by simp [RVal.arr]) (.inl (by simp)) (by simp [Value.oneCell', RVal.val, RVal.arr])]
  simp [RVal.arr, RVal.val]
theorem load_stack (b : Nat) (m : RMem) (a : RVal) (off k : Int) (w : World) (hm : IsMem w b m) (ha : a.tag = 3) (ho1 : -9223372036854775808 ≤ off) (ho2 : off ≤ 9223372036854775807) (hb : BytesOk m) :
    Ret Tryz.prog 63 [.pointer (some ⟨b, 0, none⟩), a.val, .int .i64 off, .int .i64 k] w
      fun v w' => Kept none' w w' ∧ v = .tuple #[(loadS m (IntKind.i64.wrap a.n + off) k).1.val, .int .i64 (loadS m (IntKind.i64.wrap a.n + off) k).2] := by
  refine ret_of_W Tryz.func63 rfl ok_region_Memory_Load ?_
  have hb' := blk_lt hm
  have hz : (Value.agg #[.int .i64 0, .int .u64 0, .int .i64 0, .pointer none]) = RVal.zero.val := rfl
  simp only [c_region_Memory_Load, hz]
  have h6 := hp_new w (.cells a.arr 68)
  have h4 := hp_new (w.alloc (.cells a.arr 68)) (.cells RVal.zero.arr 68)
  have h6' := hp_old h6 (.cells RVal.zero.arr 68)
  have hm0 : IsMem ((w.alloc (.cells a.arr 68)).alloc (.cells RVal.zero.arr 68)) b m := hp_old (hp_old hm _) _
  have hk0 : Kept none' w ((w.alloc (.cells a.arr 68)).alloc (.cells RVal.zero.arr 68)) := ((Kept.refl _ _).alloc _).alloc _
  rw [alloc_size] at h4
  simp
  generalize (w.alloc (.cells a.arr 68)).alloc (.cells RVal.zero.arr 68) = w2 at h4 h6' hm0 hk0 ⊢
  refine W_call0 (by simp) (sized_ret k w2) ?_
  rintro v w3 ⟨rfl, rfl⟩
  simp
  by_cases hs : sizeOk k
  · have hs' := hs
    unfold sizeOk at hs'
    refine W_no (by simp; omega) ?_
    simp
    refine W_call0 (by simp [rval_row h6']) (view_stack b a off k w3 ha ho1 ho2 (by omega) (by omega)) ?_
    rintro v w4 ⟨hk1, hv⟩
    have hk2 := hk0.trans hk1
    have h4' := hk1.has h4 (fun h => h)
    have h6'' := hk1.has h6' (fun h => h)
    have hm1 : IsMem w4 b m := hk1.has hm0 (fun h => h)
    generalize hN : IntKind.i64.wrap a.n = N at *
    by_cases hin : -64 ≤ N + off ∧ N + off + k ≤ 0
    · rw [if_pos hin] at hv
      obtain ⟨f, hf, rfl⟩ := hv
      have hne : ¬ (64 = f) := by omega
      simp [hne]
      refine W_no (by simp) ?_
      simp
      refine W_call0 (by simp [rval_row h6'']) (exact_ret a f k w4) ?_
      rintro v w5 ⟨rfl, hk3⟩
      have hk4 := hk2.trans hk3
      have h4'' := hk3.has h4' (fun h => h)
      have h6x := hk3.has h6'' (fun h => h)
      have hm2 : IsMem w5 b m := hk3.has hm1 (fun h => h)
      have b2 : 0 ≤ (f : Int) / 8 := by omega
      have b3 : (f : Int) / 8 < 8 := by omega
      have ek := mem_tag m (f / 8) (by omega)
      have hff : (N + off + 64).toNat = f := by omega
      have hmod : (f : Int).tmod 8 = ((f % 8 : Nat) : Int) := by rw [Int.tmod_eq_emod_of_nonneg (by omega)]; omega
      simp
      refine W_cond (t := decide (k = 8 ∧ f % 8 = 0 ∧ (m.kept (f / 8)).tag ≠ 0)) ?_ ?_ ?_
      · unfold IsMem at hm2
        have hd : IntKind.i64.wrap ((f : Int) / 8) = (f : Int) / 8 := div8 f (by omega)
        have hm3 : (decide ((f : Int).tmod 8 = 0)) = decide (f % 8 = 0) := by rw [hmod]; simp; omega
        by_cases h8 : k = 8 ∧ f % 8 = 0
        · simp [ha, h8.1, hm3, h8.2, b2, b3, hd, div8n, wcell_of hm2, ek]
        · have hx : (decide (a.tag = 3) && decide (k = 8) && decide ((f : Int).tmod 8 = 0)) = false := by
            rw [hm3]
            simp only [Bool.and_eq_false_iff, decide_eq_false_iff_not]
            by_cases h9 : k = 8
            · right; exact fun h => h8 ⟨h9, h⟩
            · left; right; exact h9
          simp only [hx, Ex.ev]
          simp
          intro h9 h10
          exact absurd ⟨h9, h10⟩ h8
      · intro ht
        have ht' : k = 8 ∧ f % 8 = 0 ∧ (m.kept (f / 8)).tag ≠ 0 := by simpa using ht
        simp
        have hd : IntKind.i64.wrap ((f : Int) / 8) = (f : Int) / 8 := div8 f (by omega)
        refine W_store (by simp) (by simp [hd, b2, b3, div8n, isMem_row hm2 (show f / 8 < 8 by omega)]) (store_val (v := m.kept (f / 8)) h4'') (stab_nil _ _ _) ?_
        have hl : loadS m (N + off) k = (m.kept (f / 8), 0) := by
          unfold loadS
          rw [hff, if_pos ⟨hs, hin⟩, if_pos ht']
        simp [rval_row (put_same (blk_lt h4'')), hl]
        exact hk4.put (fun h => absurd h (by omega)) _
      · intro ht
        have ht' : ¬ (k = 8 ∧ f % 8 = 0 ∧ (m.kept (f / 8)).tag ≠ 0) := by simpa using ht
        simp [wcell_of h6x, ha]
        refine W_yes (by simp) ?_
        obtain ⟨n, rfl⟩ : ∃ n : Nat, k = n := ⟨k.toNat, by omega⟩
        refine W_call0 (by simp) (ready_ret b m f n w5 hm2 (by omega)) ?_
        rintro v w6 ⟨rfl, r, rfl, hr⟩
        simp
        by_cases hR : Ready m f n
        · have hr' := hr.2 hR
          subst hr'
          refine W_no (by simp) ?_
          simp
          refine W_call0 (by simp) (little_ret b (32 + f) n (64 - f) (fun j => m.stack (f + j)) w6 (by omega) (fun j => hb.1 _) ?_) ?_
          · intro j hj
            rw [wcell_of hm2, Nat.add_assoc, mem_stack m _ (by omega)]
          rintro v w7 ⟨rfl, rfl⟩
          simp
          refine W_store (by simp) (by simp; rfl) (store_val (v := ⟨1, leN (fun j => m.stack (f + j)) n, 0, none⟩) h4'') (stab_nil _ _ _) ?_
          have hl : loadS m (N + off) n = (⟨1, leN (fun j => m.stack (f + j)) n, 0, none⟩, 0) := by
            unfold loadS
            rw [hff, if_pos ⟨hs, hin⟩, if_neg ht', if_pos (by simpa using hR)]
            simp
          simp [rval_row (put_same (blk_lt h4'')), hl]
          exact hk4.put (fun h => absurd h (by omega)) _
        · have hr' : r = false := by
            cases r
            · rfl
            · exact absurd (hr.1 rfl) hR
          subst hr'
          refine W_yes (by simp) ?_
          simp
          refine W_store (by simp) (by simp) (store_val (v := RVal.zero) h4'') (stab_nil _ _ _) ?_
          have hl : loadS m (N + off) n = (RVal.zero, 14) := by
            unfold loadS
            rw [hff, if_pos ⟨hs, hin⟩, if_neg ht', if_neg (by simpa using hR)]
          simp [rval_row (put_same (blk_lt h4'')), hl]
          exact hk4.put (fun h => absurd h (by omega)) _
    · rw [if_neg hin] at hv
      subst hv
      simp
      refine W_yes (by simp) ?_
      simp
      refine W_store (by simp) (by simp) (store_val (v := RVal.zero) h4') (stab_nil _ _ _) ?_
      have : ¬ (sizeOk k ∧ -64 ≤ N + off ∧ N + off + k ≤ 0) := fun h => hin h.2
      simp [rval_row (put_same (blk_lt h4')), loadS, this]
      exact hk2.put (fun h => absurd h (by omega)) _
  · have hs' := hs
    unfold sizeOk at hs'
    refine W_yes (by simp; omega) ?_
    simp
    refine W_store (by simp) (by simp) (store_val (v := RVal.zero) h4) (stab_nil _ _ _) ?_
    simp [rval_row (put_same (blk_lt h4)), loadS, hs]
    exact hk0.put (fun h => absurd h (by omega)) _
end Go.Proofs.YtmfgdbapankamaaGreat
namespace Go.Proofs.YtmfgdbapankamaaGreat
open Go.Eng
theorem writes_stack (b : Nat) (a : RVal) (w : World) (ha : a.tag = 3) : Ret Tryz.prog 84 [.pointer (some ⟨b, 0, none⟩), a.val] w
    fun v w' => v = .bool true ∧ Kept none' w w' := by
  refine ret_of_W Tryz.func84 rfl ok_region_Memory_writes ?_
  simp [c_region_Memory_writes]
  refine W_no (by simp [ha]) ?_
  simp [ha]
  exact (Kept.refl _ _).alloc _
def saveS (m : RMem) (s k : Int) (v : RVal) : RMem × Int :=
  if sizeOk k ∧ 0 < v.tag ∧ v.tag ≤ 5 ∧ -64 ≤ s ∧ s + k ≤ 0 then
    if v.tag = 1 then (mark (withBytes m (s + 64).toNat ((s + 64).toNat + k.toNat) v.n) (s + 64).toNat k.toNat, 0)
    else if k = 8 ∧ (s + 64).toNat % 8 = 0 then ({ mark m (s + 64).toNat 8 with kept := fset (mark m (s + 64).toNat 8).kept ((s + 64).toNat / 8) v }, 0)
    else (m, 14)
  else (m, 14)
theorem save_stack (b : Nat) (m : RMem) (a v : RVal) (off k : Int) (w : World) (hm : IsMem w b m) (ha : a.tag = 3) (ho1 : -9223372036854775808 ≤ off) (ho2 : off ≤ 9223372036854775807) (hv : v.tag = 1 → 0 ≤ v.n) :
    Ret Tryz.prog 64 [.pointer (some ⟨b, 0, none⟩), a.val, .int .i64 off, .int .i64 k, v.val] w
      fun r w' => Kept (· = b) w w' ∧ r = .int .i64 (saveS m (IntKind.i64.wrap a.n + off) k v).2 ∧ IsMem w' b (saveS m (IntKind.i64.wrap a.n + off) k v).1 := by
  refine ret_of_W Tryz.func64 rfl ok_region_Memory_Save ?_
  have hb' := blk_lt hm
  simp only [c_region_Memory_Save]
  have h6 := hp_new w (.cells a.arr 68)
  have h4 := hp_new (w.alloc (.cells a.arr 68)) (.cells v.arr 68)
  have h6' := hp_old h6 (.cells v.arr 68)
  have hm0 : IsMem ((w.alloc (.cells a.arr 68)).alloc (.cells v.arr 68)) b m := hp_old (hp_old hm _) _
  have hk0 : Kept none' w ((w.alloc (.cells a.arr 68)).alloc (.cells v.arr 68)) := ((Kept.refl _ _).alloc _).alloc _
  rw [alloc_size] at h4
  simp
  generalize (w.alloc (.cells a.arr 68)).alloc (.cells v.arr 68) = w2 at h4 h6' hm0 hk0 ⊢
  refine W_call0 (by simp) (sized_ret k w2) ?_
  rintro r w3 ⟨rfl, rfl⟩
  simp
  have fail : ∀ w', Kept none' w w' → Kept (· = b) w w' := fun w' h => h.mono (fun _ _ h => h.elim)
  by_cases hs : sizeOk k ∧ 0 < v.tag ∧ v.tag ≤ 5
  · have hs' := hs
    unfold sizeOk at hs'
    refine W_no (by simp [wcell_of h4]; omega) ?_
    simp
    refine W_call0 (by simp [rval_row h6']) (view_stack b a off k w3 ha ho1 ho2 (by omega) (by omega)) ?_
    rintro r w4 ⟨hk1, hr⟩
    have hk2 := hk0.trans hk1
    have h4' := hk1.has h4 (fun h => h)
    have h6'' := hk1.has h6' (fun h => h)
    have hm1 : IsMem w4 b m := hk1.has hm0 (fun h => h)
    generalize hN : IntKind.i64.wrap a.n = N at *
    by_cases hin : -64 ≤ N + off ∧ N + off + k ≤ 0
    · rw [if_pos hin] at hr
      obtain ⟨f, hf, rfl⟩ := hr
      have hne : ¬ (64 = f) := by omega
      simp [hne, rval_row h6'']
      refine W_yes (by simp) ?_
      refine W_call0 (by simp [rval_row h6'']) (writes_stack b a w4 ha) ?_
      rintro r w5 ⟨rfl, hk3⟩
      have hk4 := hk2.trans hk3
      have h4'' := hk3.has h4' (fun h => h)
      have h6x := hk3.has h6'' (fun h => h)
      have hm2 : IsMem w5 b m := hk3.has hm1 (fun h => h)
      simp
      refine W_no (by simp) ?_
      simp
      have hff : (N + off + 64).toNat = f := by omega
      obtain ⟨n, rfl⟩ : ∃ n : Nat, k = n := ⟨k.toNat, by omega⟩
      have hcond : sizeOk n ∧ 0 < v.tag ∧ v.tag ≤ 5 ∧ -64 ≤ N + off ∧ N + off + n ≤ 0 := ⟨hs.1, hs.2.1, hs.2.2, hin.1, hin.2⟩
      by_cases ht : v.tag = 1
      · refine W_yes (by simp [wcell_of h4'', ht]) ?_
        simp
        refine W_call0 (by simp [rval_row h6x, wcell_of h4'']) (number_stack b m a f n (64 - f) v.n w5 hm2 ha (by omega) (by omega) (hv ht)) ?_
        rintro r w6 ⟨rfl, hk5, hm3⟩
        simp
        have hl : saveS m (N + off) n v = (mark (withBytes m f (f + n) v.n) f n, 0) := by
          unfold saveS
          rw [hff, if_pos hcond, if_pos ht]
          simp
        rw [hl]
        exact ⟨(fail _ hk4).trans (hk5.mono fun _ _ h => h), rfl, hm3⟩
      · refine W_no (by simp [wcell_of h4'', ht]) ?_
        simp
        refine W_call0 (by simp [rval_row h6x]) (exact_ret a f n w5) ?_
        rintro r w6 ⟨rfl, hk5⟩
        have hk6 := hk4.trans hk5
        have h4y := hk5.has h4'' (fun h => h)
        have hm3 : IsMem w6 b m := hk5.has hm2 (fun h => h)
        have hmod : (f : Int).tmod 8 = ((f % 8 : Nat) : Int) := by rw [Int.tmod_eq_emod_of_nonneg (by omega)]; omega
        simp
        refine W_cond (t := !decide (n = 8 ∧ f % 8 = 0)) ?_ ?_ ?_
        · rw [hmod]
          simp [ha]
          have e1 : ((n : Int) = 8) = (n = 8) := by apply propext; omega
          have e2 : ((f : Int) % 8 = 0) = (f % 8 = 0) := by apply propext; omega
          simp only [e1, e2]
        · intro h8
          have h8' : ¬ ((n : Int) = 8 ∧ f % 8 = 0) := by
            simp at h8
            omega
          simp
          have hl : saveS m (N + off) n v = (m, 14) := by
            unfold saveS
            rw [hff, if_pos hcond, if_neg ht, if_neg h8']
          rw [hl]
          exact ⟨fail _ hk6, rfl, hm3⟩
        · intro h8
          have h8' : (n : Int) = 8 ∧ f % 8 = 0 := by
            simp at h8
            omega
          obtain ⟨h9, h10⟩ := h8'
          have h9' : n = 8 := by omega
          subst h9'
          simp
          refine W_call0 (by simp) (mark_ret b m f 8 w6 hm3 (by omega)) ?_
          rintro r w7 ⟨rfl, hk7, hm4⟩
          have hvb : w.heap.size + 1 ≠ b := by omega
          have h4z : w7.drew.heap[w.heap.size + 1]? = some (.cells v.arr 68 (0, 0)) := hk7.has h4y hvb
          have hm5 : IsMem w7.drew b (mark m f 8) := hm4
          have hk8 := hk7.drew
          have b2 : 0 ≤ (f : Int) / 8 := by omega
          have b3 : (f : Int) / 8 < 8 := by omega
          have hd : IntKind.i64.wrap ((f : Int) / 8) = (f : Int) / 8 := div8 f (by omega)
          simp
          generalize w7.drew = w8 at h4z hm5 hk8 ⊢
          refine W_store (by simp [hd, b2, b3, div8n]) (by simp [rval_row h4z]) (store_kept hm5 (k := f / 8) (by omega) v) (stab_nil _ _ _) ?_
          have hl : saveS m (N + off) (8 : Nat) v = ({ mark m f 8 with kept := fset (mark m f 8).kept (f / 8) v }, 0) := by
            unfold saveS
            rw [hff, if_pos hcond, if_neg ht, if_pos ⟨h9, h10⟩]
          simp
          rw [show (8 : Int) = ((8 : Nat) : Int) from rfl, hl]
          exact ⟨((fail _ hk6).trans (hk8.mono fun _ _ h => h)).put (fun _ => rfl) _, rfl, isMem_put hm5 rfl⟩
    · rw [if_neg hin] at hr
      subst hr
      simp
      refine W_no (by simp) ?_
      simp
      refine W_yes (by simp) ?_
      have : ¬ (sizeOk k ∧ 0 < v.tag ∧ v.tag ≤ 5 ∧ -64 ≤ N + off ∧ N + off + k ≤ 0) := fun h => hin h.2.2.2
      simp [saveS, this]
      exact ⟨fail _ hk2, hm1⟩
  · have hs' := hs
    unfold sizeOk at hs'
    refine W_yes (by simp [wcell_of h4]; omega) ?_
    have : ∀ s, ¬ (sizeOk k ∧ 0 < v.tag ∧ v.tag ≤ 5 ∧ -64 ≤ s ∧ s + k ≤ 0) := fun s h => hs ⟨h.1, h.2.1, h.2.2.1⟩
    simp [saveS, this]
    exact ⟨fail _ hk0, hm0⟩
end Go.Proofs.YtmfgdbapankamaaGreat
namespace Go.Proofs.YtmfgdbapankamaaGreat
open Go.Eng
def loadC (m : RMem) (s k : Int) : RVal × Int :=
  if sizeOk k ∧ 0 ≤ s ∧ s + k ≤ 32 then (⟨1, leN (fun j => m.ctx (s.toNat + j)) k.toNat, 0, none⟩, 0) else (RVal.zero, 14)
theorem load_ctx (b : Nat) (m : RMem) (a : RVal) (off k : Int) (w : World) (hm : IsMem w b m) (ha : a.tag = 2) (ho1 : -9223372036854775808 ≤ off) (ho2 : off ≤ 9223372036854775807) (hb : BytesOk m) :
    Ret Tryz.prog 63 [.pointer (some ⟨b, 0, none⟩), a.val, .int .i64 off, .int .i64 k] w
      fun v w' => Kept none' w w' ∧ v = .tuple #[(loadC m (IntKind.i64.wrap a.n + off) k).1.val, .int .i64 (loadC m (IntKind.i64.wrap a.n + off) k).2] := by
  refine ret_of_W Tryz.func63 rfl ok_region_Memory_Load ?_
  have hb' := blk_lt hm
  have hz : (Value.agg #[.int .i64 0, .int .u64 0, .int .i64 0, .pointer none]) = RVal.zero.val := rfl
  simp only [c_region_Memory_Load, hz]
  have h6 := hp_new w (.cells a.arr 68)
  have h4 := hp_new (w.alloc (.cells a.arr 68)) (.cells RVal.zero.arr 68)
  have h6' := hp_old h6 (.cells RVal.zero.arr 68)
  have hm0 : IsMem ((w.alloc (.cells a.arr 68)).alloc (.cells RVal.zero.arr 68)) b m := hp_old (hp_old hm _) _
  have hk0 : Kept none' w ((w.alloc (.cells a.arr 68)).alloc (.cells RVal.zero.arr 68)) := ((Kept.refl _ _).alloc _).alloc _
  rw [alloc_size] at h4
  simp
  generalize (w.alloc (.cells a.arr 68)).alloc (.cells RVal.zero.arr 68) = w2 at h4 h6' hm0 hk0 ⊢
  refine W_call0 (by simp) (sized_ret k w2) ?_
  rintro v w3 ⟨rfl, rfl⟩
  simp
  by_cases hs : sizeOk k
  · have hs' := hs
    unfold sizeOk at hs'
    refine W_no (by simp; omega) ?_
    simp
    refine W_call0 (by simp [rval_row h6']) (view_ctx b a off k w3 ha ho1 ho2 (by omega) (by omega)) ?_
    rintro v w4 ⟨hk1, hv⟩
    have hk2 := hk0.trans hk1
    have h4' := hk1.has h4 (fun h => h)
    have h6'' := hk1.has h6' (fun h => h)
    have hm1 : IsMem w4 b m := hk1.has hm0 (fun h => h)
    generalize hN : IntKind.i64.wrap a.n = N at *
    by_cases hin : 0 ≤ N + off ∧ N + off + k ≤ 32
    · rw [if_pos hin] at hv
      obtain ⟨f, hf, rfl⟩ := hv
      have hne : ¬ (32 = f) := by omega
      simp [hne]
      refine W_no (by simp) ?_
      simp
      refine W_call0 (by simp [rval_row h6'']) (exact_ret a f k w4) ?_
      rintro v w5 ⟨rfl, hk3⟩
      have hk4 := hk2.trans hk3
      have h4'' := hk3.has h4' (fun h => h)
      have h6x := hk3.has h6'' (fun h => h)
      have hm2 : IsMem w5 b m := hk3.has hm1 (fun h => h)
      have b2 : 0 ≤ (f : Int) / 8 := by omega
      have b3 : (f : Int) / 8 < 8 := by omega
      have hff : (N + off).toNat = f := by omega
      simp
      refine W_no (by simp [ha]) ?_
      simp [wcell_of h6x, ha]
      refine W_no (by simp) ?_
      simp
      refine W_no (by simp) ?_
      simp
      obtain ⟨n, rfl⟩ : ∃ n : Nat, k = n := ⟨k.toNat, by omega⟩
      refine W_call0 (by simp) (little_ret b f n (32 - f) (fun j => m.ctx (f + j)) w5 (by omega) (fun j => hb.2 _) ?_) ?_
      · intro j hj
        rw [wcell_of hm2, mem_ctx m _ (by omega)]
      rintro v w7 ⟨rfl, rfl⟩
      simp
      refine W_store (by simp) (by simp; rfl) (store_val (v := ⟨1, leN (fun j => m.ctx (f + j)) n, 0, none⟩) h4'') (stab_nil _ _ _) ?_
      have hl : loadC m (N + off) n = (⟨1, leN (fun j => m.ctx (f + j)) n, 0, none⟩, 0) := by
        unfold loadC
        rw [hff, if_pos ⟨hs, hin⟩]
        simp
      simp [rval_row (put_same (blk_lt h4'')), hl]
      exact hk4.put (fun h => absurd h (by omega)) _
    · rw [if_neg hin] at hv
      subst hv
      simp
      refine W_yes (by simp) ?_
      simp
      refine W_store (by simp) (by simp) (store_val (v := RVal.zero) h4') (stab_nil _ _ _) ?_
      have : ¬ (sizeOk k ∧ 0 ≤ N + off ∧ N + off + k ≤ 32) := fun h => hin h.2
      simp [rval_row (put_same (blk_lt h4')), loadC, this]
      exact hk2.put (fun h => absurd h (by omega)) _
  · have hs' := hs
    unfold sizeOk at hs'
    refine W_yes (by simp; omega) ?_
    simp
    refine W_store (by simp) (by simp) (store_val (v := RVal.zero) h4) (stab_nil _ _ _) ?_
    simp [rval_row (put_same (blk_lt h4)), loadC, hs]
    exact hk0.put (fun h => absurd h (by omega)) _
end Go.Proofs.YtmfgdbapankamaaGreat
