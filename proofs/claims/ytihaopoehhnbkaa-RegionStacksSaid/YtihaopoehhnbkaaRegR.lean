/- Layer 19, part R: the reference's Load; places, values, sizes. -/
import Derived.Test.YtihaopoehhnbkaaRegQ
set_option linter.unusedSimpArgs false
set_option linter.unusedVariables false
set_option maxRecDepth 8000
namespace Go.Proofs.Ytihaopoehhnbkaa
open Go.Eng

theorem stk_whole (b : Nat) (s : SMem) (f k : Nat) (n v : Int) (w : World) (hm : IsStk w b s) (h : f + k ≤ 64) (hk : k ≤ 8) (hn : 0 ≤ n) (hv0 : 0 ≤ v) (hv : v = 0 ∨ k = 8 ∧ f % 8 = 0) :
    Ret Try.prog 24 [.pointer (some ⟨b, 0, none⟩), .int .i64 f, .int .i64 k, .int .u64 n, .int .i64 v] w
      fun r w' => r = .bool true ∧ Kept (· = b) w w' ∧ IsStk w' b (ssave s f k n v) := by
  refine ret_of_W Try.func24 rfl ok_tipstaffref19_Stack_Save ?_
  have hmod : (f : Int).tmod 8 = ((f % 8 : Nat) : Int) := by rw [Int.tmod_eq_emod_of_nonneg (by omega)]; omega
  simp [c_tipstaffref19_Stack_Save]
  refine W_no ?_ ?_
  · simp [hmod]; omega
  simp
  refine W_call0 (by simp) (sclear_ret b s f k w hm h) ?_
  rintro r w1 ⟨rfl, hk1, hm1⟩
  simp
  generalize hwh : (if 0 < v then (2 : Int) else 1) = wh
  refine W_loop (fun env w' => Kept (· = b) w w' ∧ ∃ i : Nat, env = [.pointer (some ⟨b, 0, none⟩), .int .i64 f, .int .i64 k, .int .u64 n, .int .i64 v, undef, .int .i64 i] ∧ i ≤ k ∧ IsStk w' b (swith (sclear s f (f + k)) f i n wh))
    (fun env _ => k - natAt env 6) ?_ ?_
  · exact ⟨hk1, 0, by simp, by omega, by rw [swith_zero]; exact hm1⟩
  · rintro env w2 ⟨hk2, i, rfl, h1, hm2⟩
    by_cases hi : i < k
    · simp
      refine W_yes (by simp; omega) ?_
      have e2 : IntKind.i64.wrap ((i : Int) + 1) = ((i + 1 : Nat) : Int) := i64w (by omega) (by omega)
      have e3 : IntKind.i64.wrap (8 * (i : Int)) = 8 * (i : Int) := i64w (by omega) (by omega)
      have e5 : IntKind.i64.wrap ((f : Int) + i) = (f : Int) + i := i64w (by omega) (by omega)
      have e4 := byte_eq n i hn (by omega)
      have b6 : (f : Int) + i < 64 := by omega
      have b7 : (0 : Int) ≤ f + i := by omega
      have e6 : ((f : Int) + i).toNat = f + i := by omega
      simp [e3]
      rw [intBin_shr _ _ _ _ (by omega)]
      simp [e4]
      have hm2' : IsStk w2.drew b (swith (sclear s f (f + k)) f i n wh) := hm2
      refine W_store (by simp [e5, b6, b7, e6]) (by simp [e3]; rw [intBin_shr _ _ _ _ (by omega)]; simp [e4]) (store_byte hm2' (j := f + i) (by omega) 1 (byteN n i)) (stab_nil _ _ _) ?_
      have hk3 := hk2.drew.put (b := b) (fun _ => rfl) (.cells { swith (sclear s f (f + k)) f i n wh with what := fset (swith (sclear s f (f + k)) f i n wh).what (f + i) 1, num := fset (swith (sclear s f (f + k)) f i n wh).num (f + i) (byteN n i) }.cells 53 (0, 0))
      have hm3 := isStk_put (s' := { swith (sclear s f (f + k)) f i n wh with what := fset (swith (sclear s f (f + k)) f i n wh).what (f + i) 1, num := fset (swith (sclear s f (f + k)) f i n wh).num (f + i) (byteN n i) }) hm2' rfl
      generalize put w2.drew b (.cells { swith (sclear s f (f + k)) f i n wh with what := fset (swith (sclear s f (f + k)) f i n wh).what (f + i) 1, num := fset (swith (sclear s f (f + k)) f i n wh).num (f + i) (byteN n i) }.cells 53 (0, 0)) = w3 at hk3 hm3 ⊢
      have hst := swith_step (sclear s f (f + k)) f i n wh
      refine W_cond (t := decide (0 < v)) (by simp) ?_ ?_
      · intro hv'
        have hv2 : 0 < v := by simpa using hv'
        rw [if_pos hv2] at hwh
        refine W_store (by simp [e5, b6, b7, e6]) (by simp) (store_what hm3 (j := f + i) (by omega) 2) (stab_nil _ _ _) ?_
        simp
        refine ⟨⟨hk3.put (fun _ => rfl) _, i + 1, by simp [e2], by omega, ?_⟩, by simp [natAt, e2]; omega⟩
        refine isStk_put hm3 ?_
        rw [← hst]
        have : fset (fset (swith (sclear s f (f + k)) f i n wh).what (f + i) 1) (f + i) 2 = fset (swith (sclear s f (f + k)) f i n wh).what (f + i) wh := by
          funext q; simp only [fset]; rw [← hwh]; split <;> rfl
        simp only [this]
      · intro hv'
        have hv2 : ¬ 0 < v := by simpa using hv'
        rw [if_neg hv2] at hwh
        simp
        refine ⟨⟨hk3, i + 1, by simp [e2], by omega, ?_⟩, by simp [natAt, e2]; omega⟩
        rw [← hst, ← hwh]
        rw [← hwh] at hm3
        exact hm3
    · simp
      refine W_no (by simp; omega) ?_
      have : i = k := by omega
      subst this
      simp
      refine W_cond (t := decide (0 < v)) (by simp) ?_ ?_
      · intro hv'
        have hv2 : 0 < v := by simpa using hv'
        rw [if_pos hv2] at hwh
        have b2 : 0 ≤ (f : Int) / 8 := by omega
        have b3 : (f : Int) / 8 < 8 := by omega
        refine W_store (by simp [div8 f (by omega), b2, b3]; rfl) (by simp; rfl) (by rw [div8n]; exact store_kept1 hm2 (by omega) v) (stab_nil _ _ _) ?_
        simp
        refine ⟨hk2.put (fun _ => rfl) _, isStk_put hm2 ?_⟩
        unfold ssave
        rw [if_pos hv2, ← hwh]
        rfl
      · intro hv'
        have hv2 : ¬ 0 < v := by simpa using hv'
        rw [if_neg hv2] at hwh
        simp
        refine ⟨hk2, ?_⟩
        unfold ssave
        rw [if_neg hv2, ← hwh] at *
        exact hm2

theorem stk_fail (b : Nat) (f k n v : Int) (w : World) (h : f < 0) :
    Ret Try.prog 24 [.pointer (some ⟨b, 0, none⟩), .int .i64 f, .int .i64 k, .int .u64 n, .int .i64 v] w fun r w' => r = .bool false ∧ w' = w := by
  refine ret_of_W Try.func24 rfl ok_tipstaffref19_Stack_Save ?_
  simp [c_tipstaffref19_Stack_Save]
  refine W_yes (by simp [h]) ?_
  simp

theorem stk_odd (b f k : Nat) (n v : Int) (w : World) (hv : 0 < v) (h : ¬ (k = 8 ∧ f % 8 = 0)) :
    Ret Try.prog 24 [.pointer (some ⟨b, 0, none⟩), .int .i64 f, .int .i64 k, .int .u64 n, .int .i64 v] w fun r w' => r = .bool false ∧ w' = w := by
  refine ret_of_W Try.func24 rfl ok_tipstaffref19_Stack_Save ?_
  have hmod : (f : Int).tmod 8 = ((f % 8 : Nat) : Int) := by rw [Int.tmod_eq_emod_of_nonneg (by omega)]; omega
  simp [c_tipstaffref19_Stack_Save]
  refine W_yes ?_ ?_
  · simp [hmod]; omega
  simp

theorem or_low (a x : Int) (ha0 : 0 ≤ a) (ha : a < 72057594037927936) (hx0 : 0 ≤ x) (hx : x ≤ 255) : bitOr .u64 (a * 256) x = a * 256 + x := by
  have h := or_add x 0 0
  unfold bitOr
  obtain ⟨a, rfl⟩ := Int.eq_ofNat_of_zero_le ha0
  obtain ⟨x, rfl⟩ := Int.eq_ofNat_of_zero_le hx0
  have e : ((a : Int) * 256) = ((a * 256 : Nat) : Int) := by push_cast; rfl
  rw [e]
  have b1 : (BitVec.ofInt IntKind.u64.bits ((a * 256 : Nat) : Int)).toNat = a * 256 := by
    rw [BitVec.ofInt_natCast, BitVec.toNat_ofNat]
    exact Nat.mod_eq_of_lt (show a * 256 < 2 ^ 64 by omega)
  have b2 : (BitVec.ofInt IntKind.u64.bits ((x : Nat) : Int)).toNat = x := by
    rw [BitVec.ofInt_natCast, BitVec.toNat_ofNat]
    exact Nat.mod_eq_of_lt (show x < 2 ^ 64 by omega)
  rw [BitVec.toNat_or, b1, b2]
  have hor : a * 256 ||| x = a * 256 + x := by
    have h1 : x < 2 ^ 8 := by omega
    rw [show (256 : Nat) = 2 ^ 8 from rfl, ← Nat.shiftLeft_eq, ← Nat.shiftLeft_add_eq_or_of_lt h1]
  rw [hor, u64w (by omega) (by omega)]
  push_cast
  rfl

theorem leN_front (x : Nat → Int) : ∀ d, leN x (d + 1) = x 0 + 256 * leN (fun q => x (q + 1)) d
  | 0 => by simp [leN]
  | d + 1 => by
    have h := leN_front x d
    show leN x (d + 1) + x (d + 1) * 256 ^ (d + 1) = _
    rw [h]
    simp only [leN]
    rw [Int.pow_succ, Int.mul_add, ← Int.mul_assoc, Int.mul_comm (256 : Int) (x (d + 1) * 256 ^ d)]
    rw [Int.mul_assoc (x (d + 1))]
    omega

def sload (s : SMem) (f k : Nat) : Int × Int × Bool :=
  if k = 8 ∧ f % 8 = 0 ∧ 0 < s.kept (f / 8) then (0, s.kept (f / 8), true)
  else if ∀ j, j < k → s.what (f + j) = 1 then (leN (fun j => s.num (f + j)) k, 0, true) else (0, 0, false)

def nextAt (env : Env) (i : Nat) : Nat := match env[i]? with | some (.int _ n) => (n + 1).toNat | _ => 0

theorem sload_ret (b : Nat) (s : SMem) (f k : Nat) (w : World) (hm : IsStk w b s) (h : f + k ≤ 64) (hk : k ≤ 8) (hb : ∀ j, 0 ≤ s.num j ∧ s.num j ≤ 255) :
    Ret Try.prog 26 [.pointer (some ⟨b, 0, none⟩), .int .i64 f, .int .i64 k] w
      fun v w' => v = .tuple #[.int .u64 (sload s f k).1, .int .i64 (sload s f k).2.1, .bool (sload s f k).2.2] ∧ Kept none' w w' := by
  refine ret_of_W Try.func26 rfl ok_tipstaffref19_Stack_Load ?_
  have hmod : (f : Int).tmod 8 = ((f % 8 : Nat) : Int) := by rw [Int.tmod_eq_emod_of_nonneg (by omega)]; omega
  simp [c_tipstaffref19_Stack_Load]
  refine W_no (by simp) ?_
  simp
  have b2 : 0 ≤ (f : Int) / 8 := by omega
  have hd : IntKind.i64.wrap ((f : Int) / 8) = (f : Int) / 8 := div8 f (by omega)
  have hmod' : (decide ((f : Int).tmod 8 = 0)) = decide (f % 8 = 0) := by rw [hmod]; simp; omega
  have hk8 : (decide ((k : Int) = 8)) = decide (k = 8) := by simp; omega
  refine W_cond (t := decide (k = 8 ∧ f % 8 = 0 ∧ 0 < s.kept (f / 8))) ?_ ?_ ?_
  · by_cases h8 : k = 8 ∧ f % 8 = 0
    · have b3 : (f : Int) / 8 < 8 := by omega
      have ek := stk_kept s (f / 8) (by omega)
      have hm' := hm
      unfold IsStk at hm'
      simp [h8.1, hmod', h8.2, hd, b2, b3, div8n, wcell_of hm', ek]
    · have hx : (decide (k = 8) && decide (f % 8 = 0)) = false := by
        rw [Bool.and_eq_false_iff]
        by_cases h9 : k = 8
        · right; simpa using fun h10 => h8 ⟨h9, h10⟩
        · left; simpa using h9
      simp only [Ex.ev]
      simp [hk8, hmod', hx]
      intro h9 h10
      exact absurd ⟨h9, h10⟩ h8
  · intro ht
    have ht' : k = 8 ∧ f % 8 = 0 ∧ 0 < s.kept (f / 8) := by simpa using ht
    have b3 : (f : Int) / 8 < 8 := by omega
    have ek := stk_kept s (f / 8) (by omega)
    have hm' := hm
    unfold IsStk at hm'
    simp [hd, b2, b3, div8n, wcell_of hm', ek]
    unfold sload
    rw [if_pos ht']
    exact ⟨⟨rfl, rfl, rfl⟩, (Kept.refl _ _).drew⟩
  · intro ht
    have ht' : ¬ (k = 8 ∧ f % 8 = 0 ∧ 0 < s.kept (f / 8)) := by simpa using ht
    have e1 : IntKind.i64.wrap ((k : Int) - 1) = (k : Int) - 1 := i64w (by omega) (by omega)
    simp [e1]
    have hsl : sload s f k = if ∀ j, j < k → s.what (f + j) = 1 then (leN (fun j => s.num (f + j)) k, 0, true) else (0, 0, false) := by
      unfold sload; rw [if_neg ht']
    refine W_loop (fun env w' => w' = w ∧ ∃ j : Nat, env = [.pointer (some ⟨b, 0, none⟩), .int .i64 f, undef, undef, undef, undef, .int .u64 (leN (fun q => s.num (f + (j + q))) (k - j)), .int .i64 ((j : Int) - 1)] ∧ j ≤ k ∧ ∀ q, j ≤ q → q < k → s.what (f + q) = 1)
      (fun env _ => nextAt env 7) ?_ ?_
    · exact ⟨rfl, k, by simp [leN], by omega, fun q h1 h2 => by omega⟩
    · rintro env w' ⟨rfl, j, rfl, hj, hall⟩
      by_cases hj0 : j = 0
      · subst hj0
        simp
        refine W_no (by simp) ?_
        simp
        rw [hsl, if_pos (fun q hq => hall q (by omega) hq)]
        exact ⟨⟨rfl, rfl, rfl⟩, Kept.refl _ _⟩
      · obtain ⟨i, rfl⟩ : ∃ i, j = i + 1 := ⟨j - 1, by omega⟩
        have e0 : ((i + 1 : Nat) : Int) - 1 = i := by omega
        rw [e0]
        simp
        refine W_yes (by simp) ?_
        have e2 : IntKind.i64.wrap ((f : Int) + i) = (f : Int) + i := i64w (by omega) (by omega)
        have e3 : IntKind.i64.wrap ((i : Int) - 1) = (i : Int) - 1 := i64w (by omega) (by omega)
        have b4 : (f : Int) + i < 64 := by omega
        have b5 : (0 : Int) ≤ f + i := by omega
        have e6 : ((f : Int) + i).toNat = f + i := by omega
        have hm' := hm
        unfold IsStk at hm'
        have ew := stk_what s (f + i) (by omega)
        have en := stk_num s (f + i) (by omega)
        simp
        refine W_cond (t := !decide (s.what (f + i) = 1)) ?_ ?_ ?_
        · simp [e2, b4, b5, e6, wcell_of hm', ew]
        · intro hw
          have hw' : s.what (f + i) ≠ 1 := by simpa using hw
          simp
          rw [hsl, if_neg (fun hq => hw' (hq i (by omega)))]
          exact ⟨⟨rfl, rfl, rfl⟩, Kept.refl _ _⟩
        · intro hw
          have hw' : s.what (f + i) = 1 := by simpa using hw
          have hbi := hb (f + i)
          have hN := leN_bound (fun q => s.num (f + (i + 1 + q))) (fun q => hb _) (k - (i + 1))
          have hp : (256 : Int) ^ (k - (i + 1)) ≤ 256 ^ 7 := by exact_mod_cast Nat.pow_le_pow_right (n := 256) (by omega) (show k - (i + 1) ≤ 7 by omega)
          have h7 : (256 : Int) ^ 7 = 72057594037927936 := by decide
          have hfront : leN (fun q => s.num (f + (i + q))) (k - i) = leN (fun q => s.num (f + (i + 1 + q))) (k - (i + 1)) * 256 + s.num (f + i) := by
            rw [show k - i = (k - (i + 1)) + 1 by omega, leN_front]
            have : (fun q => (fun q => s.num (f + (i + q))) (q + 1)) = fun q => s.num (f + (i + 1 + q)) := by
              funext q; show s.num (f + (i + (q + 1))) = _; rw [show i + (q + 1) = i + 1 + q by omega]
            rw [this]
            simp only [Nat.add_zero]
            omega
          generalize leN (fun q => s.num (f + (i + 1 + q))) (k - (i + 1)) = N at *
          have e7 : IntKind.u64.wrap (N * 2 ^ (min (8 : Int).toNat IntKind.u64.bits)) = N * 256 := by
            have : min (8 : Int).toNat IntKind.u64.bits = 8 := rfl
            rw [this, show (2 : Int) ^ 8 = 256 from rfl]
            exact u64w (by omega) (by omega)
          have e8 : IntKind.u64.wrap (s.num (f + i)) = s.num (f + i) := u64w (by omega) (by omega)
          have e9 := or_low N (s.num (f + i)) (by omega) (by omega) hbi.1 hbi.2
          simp [e2, b4, b5, e6, wcell_of hm', en]
          have e7' : IntKind.u64.wrap (N * 2 ^ min 8 IntKind.u64.bits) = N * 256 := e7
          refine ⟨⟨i, ⟨by rw [e7', e8, e9, hfront], e3⟩, by omega, ?_⟩, by simp [nextAt, e3]⟩
          intro q g1 g2
          by_cases hq : q = i
          · subst hq; exact hw'
          · exact hall q (by omega) g2

theorem sload_fail (b : Nat) (f k : Int) (w : World) (h : f < 0) :
    Ret Try.prog 26 [.pointer (some ⟨b, 0, none⟩), .int .i64 f, .int .i64 k] w fun v w' => v = .tuple #[.int .u64 0, .int .i64 0, .bool false] ∧ w' = w := by
  refine ret_of_W Try.func26 rfl ok_tipstaffref19_Stack_Load ?_
  simp [c_tipstaffref19_Stack_Load]
  refine W_yes (by simp [h]) ?_
  simp

/-- Where so many bytes begin, if there are any there. -/
def placeOf (n off : Int) (k : Nat) : Int := if -64 ≤ n + off ∧ n + off + k ≤ 0 then n + off + 64 else -1

theorem place_ret (n off : Int) (k : Nat) (w : World) (hn1 : -9223372036854775808 ≤ n) (hn2 : n ≤ 9223372036854775807) (ho1 : -100 ≤ off) (ho2 : off ≤ 100) (hk : k ≤ 100) :
    Ret Try.prog 23 [.int .i64 n, .int .i64 off, .int .i64 k] w fun v w' => v = .int .i64 (placeOf n off k) ∧ w' = w := by
  refine ret_of_W Try.func23 rfl ok_tipstaffref19_Place ?_
  simp [c_tipstaffref19_Place]
  by_cases hbig : n < -1000000000000 ∨ 1000000000000 < n
  · refine W_yes (by simp; omega) ?_
    simp
    unfold placeOf
    rw [if_neg (by omega)]
  · refine W_no (by simp; omega) ?_
    have e1 : IntKind.i64.wrap (n + off) = n + off := i64w (by omega) (by omega)
    have e2 : IntKind.i64.wrap (n + off + 64) = n + off + 64 := i64w (by omega) (by omega)
    have e3 : IntKind.i64.wrap (n + off + 64 + k) = n + off + 64 + k := i64w (by omega) (by omega)
    simp [e1, e2]
    unfold placeOf
    by_cases hin : -64 ≤ n + off ∧ n + off + k ≤ 0
    · rw [if_pos hin]
      refine W_no (by simp [e3]; omega) ?_
      simp
    · rw [if_neg hin]
      refine W_yes (by simp [e3]; omega) ?_
      simp

def valOf (c : Nat) : RVal := ⟨2 + ((c % 3 : Nat) : Int), c, 0, none⟩

theorem value_ret (c : Nat) (w : World) (hc : c ≤ 1000) : Ret Try.prog 25 [.int .i64 c] w fun v w' => v = (valOf c).val ∧ Kept none' w w' := by
  refine ret_of_W Try.func25 rfl ok_tipstafflaw19_value ?_
  have hz : (Value.agg #[.int .i64 0, .int .u64 0, .int .i64 0, .pointer none]) = .agg RVal.zero.arr := rfl
  simp only [c_tipstafflaw19_value, hz]
  have hmod : (c : Int).tmod 3 = ((c % 3 : Nat) : Int) := by rw [Int.tmod_eq_emod_of_nonneg (by omega)]; omega
  simp [hmod]
  have hr : c % 3 = 0 ∨ c % 3 = 1 ∨ c % 3 = 2 := by omega
  have hu : IntKind.u64.wrap (c : Int) = c := u64w (by omega) (by omega)
  have h2 : ((w.alloc (.cells RVal.zero.arr 29)).alloc (.cells #[.int .i64 2, .int .i64 3, .int .i64 4] 3)).heap[w.heap.size]? = some (.cells RVal.zero.arr 29 (0, 0)) := hp_old (hp_new w _) _
  have h3 := hp_new (w.alloc (.cells RVal.zero.arr 29)) (.cells #[.int .i64 2, .int .i64 3, .int .i64 4] 3)
  rw [alloc_size] at h3
  have hk : Kept none' w ((w.alloc (.cells RVal.zero.arr 29)).alloc (.cells #[.int .i64 2, .int .i64 3, .int .i64 4] 3)) := ((Kept.refl _ _).alloc _).alloc _
  generalize (w.alloc (.cells RVal.zero.arr 29)).alloc (.cells #[.int .i64 2, .int .i64 3, .int .i64 4] 3) = w2 at *
  have hd : (c : Int) % 3 = ((c % 3 : Nat) : Int) := by omega
  rw [hd]
  have hput := hk.put (b := w.heap.size) (fun h => absurd h (by omega)) (.cells (valOf c).arr 29 (0, 0))
  have hnew : (put w2 w.heap.size (.cells (valOf c).arr 29 (0, 0))).heap[w.heap.size]? = some (.cells (valOf c).arr 29 (0, 0)) := put_same (blk_lt h2)
  have hst := store_val (v := valOf c) h2
  rcases hr with hr | hr | hr
  · have hv : valOf c = ⟨2, c, 0, none⟩ := by unfold valOf; rw [hr]; rfl
    rw [hv] at hput hnew hst ⊢
    rw [hr] at hmod ⊢
    simp [wcell_of h3, hu, -RVal.val]
    refine W_store (by simp) (by simp [hmod, wcell_of h3, hu]; rfl) hst (stab_nil _ _ _) ?_
    simp [rval_row hnew]
    exact hput
  · have hv : valOf c = ⟨3, c, 0, none⟩ := by unfold valOf; rw [hr]; rfl
    rw [hv] at hput hnew hst ⊢
    rw [hr] at hmod ⊢
    simp [wcell_of h3, hu, -RVal.val]
    refine W_store (by simp) (by simp [hmod, wcell_of h3, hu]; rfl) hst (stab_nil _ _ _) ?_
    simp [rval_row hnew]
    exact hput
  · have hv : valOf c = ⟨4, c, 0, none⟩ := by unfold valOf; rw [hr]; rfl
    rw [hv] at hput hnew hst ⊢
    rw [hr] at hmod ⊢
    simp [wcell_of h3, hu, -RVal.val]
    refine W_store (by simp) (by simp [hmod, wcell_of h3, hu]; rfl) hst (stab_nil _ _ _) ?_
    simp [rval_row hnew]
    exact hput

theorem size_ret (x : Int) (w : World) : Ret Try.prog 22 [.int .i64 x] w fun v w' => (∃ k : Nat, (k = 1 ∨ k = 2 ∨ k = 4 ∨ k = 8) ∧ v = .int .i64 k) ∧ Kept none' w w' := by
  refine ret_of_W Try.func22 rfl ok_tipstafflaw19_size ?_
  obtain ⟨k, hk4, hk, hkw⟩ := mod_small x 6 (by omega) (by omega)
  simp [c_tipstafflaw19_size]
  rw [hkw]
  have hk0 : (k : Int) < 6 := hk4
  have : k = 0 ∨ k = 1 ∨ k = 2 ∨ k = 3 ∨ k = 4 ∨ k = 5 := by omega
  rcases this with rfl | rfl | rfl | rfl | rfl | rfl <;> simp <;> exact (Kept.refl _ _).alloc _
end Go.Proofs.Ytihaopoehhnbkaa
