/- TipstaffQueues: a number of 32 bits, its bytes, put together again: what is known of these symbols. -/
import Derived.Test.YtmpgfgemnhbkhaaGreatDoorEngXYp
set_option linter.unusedSimpArgs false
set_option linter.unusedVariables false
namespace Go.Eng.tqu
open Go
def T (x : Int) (j : Nat) : Int :=
  let U := x % 18446744073709551616
  match j with
  | 0 => x
  | 1 => x
  | 2 => U
  | 3 => U % 256
  | 4 => U / 256
  | 5 => U / 256 % 256
  | 6 => U / 65536
  | 7 => U / 65536 % 256
  | 8 => U / 16777216
  | 9 => U / 16777216 % 256
  | 10 => U / 4294967296
  | 11 => U / 4294967296 % 256
  | 12 => U / 1099511627776
  | 13 => U / 281474976710656
  | 14 => U / 72057594037927936
  | 15 => U % 256
  | 16 => U / 256 % 256
  | 17 => U / 256 % 256 * 256
  | 18 => U % 65536
  | 19 => U / 65536 % 256
  | 20 => U / 65536 % 256 * 65536
  | 21 => U % 16777216
  | 22 => U / 16777216 % 256
  | 23 => U / 16777216 % 256 * 16777216
  | 24 => U % 4294967296
  | 25 => U / 72057594037927936 * 4294967296
  | 26 => U % 1099511627776
  | 27 => U / 72057594037927936 * 1099511627776
  | 28 => U % 281474976710656
  | 29 => U / 72057594037927936 * 281474976710656
  | 30 => U % 72057594037927936
  | 31 => U / 72057594037927936 * 72057594037927936
  | _ => 0
def K (j : Nat) : IntKind := match j with
  | 0 => .i32
  | 1 => .i64
  | 3 => .u8
  | 5 => .u8
  | 7 => .u8
  | 9 => .u8
  | 11 => .u8
  | _ => .u64
def θb (x : Int) (j : Nat) : Value := .int (K j) (T x j)
theorem θb_plain (x : Int) (j : Nat) : plainV (θb x j) = true := rfl
def R (x : Int) : Prop := -2147483648 ≤ x ∧ x ≤ 2147483647
theorem or_low {n : Nat} {a b : Int} (h0 : 0 ≤ a) (h1 : a < 2 ^ n) (hb : 0 ≤ b) (h2 : a + b * 2 ^ n < 18446744073709551616) : IntKind.u64.wrap ((BitVec.ofInt 64 a ||| BitVec.ofInt 64 (b * 2 ^ n)).toNat) = a + b * 2 ^ n := by
  have hb2 : 0 ≤ b * 2 ^ n := Int.mul_nonneg hb (by have : (0 : Int) < 2 ^ n := Int.pow_pos (by decide); omega)
  have e1 : (BitVec.ofInt 64 a).toNat = a.toNat := by have := bv64 h0 (by omega); omega
  have e2 : (BitVec.ofInt 64 (b * 2 ^ n)).toNat = (b * 2 ^ n).toNat := by have := bv64 hb2 (by omega); omega
  have e3 : (b * 2 ^ n).toNat = 2 ^ n * b.toNat := by
    obtain ⟨c, rfl⟩ := Int.eq_ofNat_of_zero_le hb
    have : ((c : Int) * 2 ^ n) = ((2 ^ n * c : Nat) : Int) := by rw [Int.natCast_mul, Int.mul_comm]; norm_cast
    rw [this, Int.toNat_natCast, Int.toNat_natCast]
  have e4 : a.toNat < 2 ^ n := by
    obtain ⟨c, rfl⟩ := Int.eq_ofNat_of_zero_le h0
    have : (c : Int) < ((2 ^ n : Nat) : Int) := by rw [Int.natCast_pow]; exact h1
    simpa using (Int.ofNat_lt.1 this)
  rw [BitVec.toNat_or, e1, e2, e3, Nat.or_comm, ← Nat.two_pow_add_eq_or_of_lt e4, w_u64]
  have : ((2 ^ n * b.toNat + a.toNat : Nat) : Int) = a + b * 2 ^ n := by
    rw [Nat.add_comm, Int.natCast_add, ← e3]
    omega
  rw [this]
  exact Int.emod_eq_of_lt (by omega) h2
theorem or_zero {a : Int} (h0 : 0 ≤ a) (h1 : a < 18446744073709551616) : IntKind.u64.wrap ((BitVec.ofInt 64 0 ||| BitVec.ofInt 64 a).toNat) = a := by
  rw [show BitVec.ofInt 64 0 = 0#64 from rfl, BitVec.zero_or, w_u64, bv64 h0 h1]; omega
theorem parts {x : Int} (h : R x) : x % 18446744073709551616 / 4294967296 % 256 = x % 18446744073709551616 / 72057594037927936 ∧ x % 18446744073709551616 / 1099511627776 % 256 = x % 18446744073709551616 / 72057594037927936 ∧ x % 18446744073709551616 / 281474976710656 % 256 = x % 18446744073709551616 / 72057594037927936 ∧ x % 18446744073709551616 / 72057594037927936 % 256 = x % 18446744073709551616 / 72057594037927936 := by
  obtain ⟨h0, h1⟩ := h
  rcases Int.lt_or_le x 0 with hx | hx
  · have e : x % 18446744073709551616 = x + 18446744073709551616 := by omega
    rw [e]
    have e1 : (x + 18446744073709551616) / 4294967296 = 4294967295 := by omega
    have e2 : (x + 18446744073709551616) / 1099511627776 = 16777215 := by omega
    have e3 : (x + 18446744073709551616) / 281474976710656 = 65535 := by omega
    have e4 : (x + 18446744073709551616) / 72057594037927936 = 255 := by omega
    rw [e1, e2, e3, e4]; decide
  · have e : x % 18446744073709551616 = x := by omega
    rw [e]
    have e1 : x / 4294967296 = 0 := by omega
    have e2 : x / 1099511627776 = 0 := by omega
    have e3 : x / 281474976710656 = 0 := by omega
    have e4 : x / 72057594037927936 = 0 := by omega
    rw [e1, e2, e3, e4]; decide
def r1 : List (U1 × Value × Value) := [((.conv .i64), (.chan (some 0)), (.chan (some 1))), ((.conv .u64), (.chan (some 1)), (.chan (some 2))), ((.conv .i64), (.chan (some 2)), (.chan (some 1))), ((.conv .u8), (.chan (some 2)), (.chan (some 3))),
  ((.conv .u8), (.chan (some 4)), (.chan (some 5))), ((.conv .u8), (.chan (some 6)), (.chan (some 7))), ((.conv .u8), (.chan (some 8)), (.chan (some 9))), ((.conv .u8), (.chan (some 10)), (.chan (some 11))), ((.conv .u8), (.chan (some 12)), (.chan (some 11))),
  ((.conv .u8), (.chan (some 13)), (.chan (some 11))), ((.conv .u8), (.chan (some 14)), (.chan (some 11))), ((.conv .u64), (.chan (some 3)), (.chan (some 15))), ((.conv .u64), (.chan (some 5)), (.chan (some 16))), ((.conv .u64), (.chan (some 7)), (.chan (some 19))),
  ((.conv .u64), (.chan (some 9)), (.chan (some 22))), ((.conv .u64), (.chan (some 11)), (.chan (some 14)))]
theorem conv_of {x : Int} {k : IntKind} {i j : Nat} (hk : K j = k) (h : k.wrap (T x i) = T x j) : Rule1 (θb x) ((.conv k), (.chan (some i)), (.chan (some j))) := by
  subst hk
  exact ⟨rfl, rfl, congrArg (fun z => some (Value.int (K j) z)) h⟩
theorem hr1 {x : Int} (h : R x) : ∀ p ∈ r1, Rule1 (θb x) p := by
  intro p hp
  obtain ⟨q1, q2, q3, q4⟩ := parts h
  obtain ⟨h0, h1⟩ := h
  simp only [r1, List.mem_cons, List.not_mem_nil, or_false] at hp
  rcases hp with rfl | rfl | rfl | rfl | rfl | rfl | rfl | rfl | rfl | rfl | rfl | rfl | rfl | rfl | rfl | rfl
  · exact conv_of rfl (by show IntKind.i64.wrap x = x; have := w_i64 x; omega)
  · exact conv_of rfl (w_u64 x)
  · exact conv_of rfl (by show IntKind.i64.wrap (x % 18446744073709551616) = x; have := w_i64 (x % 18446744073709551616); omega)
  · exact conv_of rfl ((w_u8 _).trans (show (x % 18446744073709551616) % 256 = _ from rfl))
  · exact conv_of rfl ((w_u8 _).trans (show (x % 18446744073709551616 / 256) % 256 = _ from rfl))
  · exact conv_of rfl ((w_u8 _).trans (show (x % 18446744073709551616 / 65536) % 256 = _ from rfl))
  · exact conv_of rfl ((w_u8 _).trans (show (x % 18446744073709551616 / 16777216) % 256 = _ from rfl))
  · exact conv_of rfl ((w_u8 _).trans (show (x % 18446744073709551616 / 4294967296) % 256 = _ from rfl))
  · exact conv_of rfl ((w_u8 _).trans (show (x % 18446744073709551616 / 1099511627776) % 256 = x % 18446744073709551616 / 4294967296 % 256 by rw [q1, q2]))
  · exact conv_of rfl ((w_u8 _).trans (show (x % 18446744073709551616 / 281474976710656) % 256 = x % 18446744073709551616 / 4294967296 % 256 by rw [q1, q3]))
  · exact conv_of rfl ((w_u8 _).trans (show (x % 18446744073709551616 / 72057594037927936) % 256 = x % 18446744073709551616 / 4294967296 % 256 by rw [q1, q4]))
  · exact conv_of rfl ((w_u64 _).trans (show (x % 18446744073709551616 % 256) % 18446744073709551616 = x % 18446744073709551616 % 256 by omega))
  · exact conv_of rfl ((w_u64 _).trans (show (x % 18446744073709551616 / 256 % 256) % 18446744073709551616 = x % 18446744073709551616 / 256 % 256 by omega))
  · exact conv_of rfl ((w_u64 _).trans (show (x % 18446744073709551616 / 65536 % 256) % 18446744073709551616 = x % 18446744073709551616 / 65536 % 256 by omega))
  · exact conv_of rfl ((w_u64 _).trans (show (x % 18446744073709551616 / 16777216 % 256) % 18446744073709551616 = x % 18446744073709551616 / 16777216 % 256 by omega))
  · exact conv_of rfl ((w_u64 _).trans (show (x % 18446744073709551616 / 4294967296 % 256) % 18446744073709551616 = x % 18446744073709551616 / 72057594037927936 by rw [q1]; omega))
def r2 : List (U2 × Value × Value × Value) := [((.bin .shr), (.chan (some 2)), (.int .i64 0), (.chan (some 2))), ((.bin .shr), (.chan (some 2)), (.int .i64 8), (.chan (some 4))), ((.bin .shr), (.chan (some 2)), (.int .i64 16), (.chan (some 6))), ((.bin .shr), (.chan (some 2)), (.int .i64 24), (.chan (some 8))),
  ((.bin .shr), (.chan (some 2)), (.int .i64 32), (.chan (some 10))), ((.bin .shr), (.chan (some 2)), (.int .i64 40), (.chan (some 12))), ((.bin .shr), (.chan (some 2)), (.int .i64 48), (.chan (some 13))), ((.bin .shr), (.chan (some 2)), (.int .i64 56), (.chan (some 14))),
  ((.bin .shl), (.chan (some 15)), (.int .i64 0), (.chan (some 15))), ((.bin .shl), (.chan (some 16)), (.int .i64 8), (.chan (some 17))), ((.bin .shl), (.chan (some 19)), (.int .i64 16), (.chan (some 20))), ((.bin .shl), (.chan (some 22)), (.int .i64 24), (.chan (some 23))),
  ((.bin .shl), (.chan (some 14)), (.int .i64 32), (.chan (some 25))), ((.bin .shl), (.chan (some 14)), (.int .i64 40), (.chan (some 27))), ((.bin .shl), (.chan (some 14)), (.int .i64 48), (.chan (some 29))), ((.bin .shl), (.chan (some 14)), (.int .i64 56), (.chan (some 31))),
  ((.bin .or), (.int .u64 0), (.chan (some 15)), (.chan (some 15))), ((.bin .or), (.chan (some 15)), (.chan (some 17)), (.chan (some 18))), ((.bin .or), (.chan (some 18)), (.chan (some 20)), (.chan (some 21))), ((.bin .or), (.chan (some 21)), (.chan (some 23)), (.chan (some 24))),
  ((.bin .or), (.chan (some 24)), (.chan (some 25)), (.chan (some 26))), ((.bin .or), (.chan (some 26)), (.chan (some 27)), (.chan (some 28))), ((.bin .or), (.chan (some 28)), (.chan (some 29)), (.chan (some 30))), ((.bin .or), (.chan (some 30)), (.chan (some 31)), (.chan (some 2))),
  ((.bin .neq), (.chan (some 2)), (.chan (some 2)), (.bool false))]
theorem shr_of {x : Int} {i j n : Nat} (hn : n ≤ 64) (hi : K i = .u64) (hj : K j = .u64) (h : T x i / 2 ^ n = T x j) : Rule2 (θb x) ((.bin .shr), (.chan (some i)), (.int .i64 (.ofNat n)), (.chan (some j))) := by
  refine ⟨rfl, rfl, rfl, ?_⟩
  show intBin .shr (K i) (T x i) .i64 (n : Int) = some (.int (K j) (T x j))
  rw [hi, hj]
  show (if (n : Int) < 0 then none else some (Value.int .u64 ((T x i).fdiv (2 ^ (min (n : Int).toNat 64))))) = _
  rw [if_neg (by omega), Int.toNat_natCast, Nat.min_eq_left hn, Int.fdiv_eq_ediv_of_nonneg _ (by have : (0 : Int) < 2 ^ n := Int.pow_pos (by decide); omega), h]
theorem shl_of {x : Int} {i j n : Nat} (hn : n ≤ 64) (hi : K i = .u64) (hj : K j = .u64) (h : (T x i * 2 ^ n) % 18446744073709551616 = T x j) : Rule2 (θb x) ((.bin .shl), (.chan (some i)), (.int .i64 (.ofNat n)), (.chan (some j))) := by
  refine ⟨rfl, rfl, rfl, ?_⟩
  show intBin .shl (K i) (T x i) .i64 (n : Int) = some (.int (K j) (T x j))
  rw [hi, hj]
  show (if (n : Int) < 0 then none else some (Value.int .u64 (IntKind.u64.wrap (T x i * 2 ^ (min (n : Int).toNat 64))))) = _
  rw [if_neg (by omega), Int.toNat_natCast, Nat.min_eq_left hn, w_u64, h]
theorem or_of {x b : Int} {i j l n : Nat} (hi : K i = .u64) (hj : K j = .u64) (hl : K l = .u64) (h0 : 0 ≤ T x i) (h1 : T x i < 2 ^ n) (hb : 0 ≤ b) (hj2 : T x j = b * 2 ^ n) (hs : T x i + T x j = T x l) (h2 : T x l < 18446744073709551616) : Rule2 (θb x) ((.bin .or), (.chan (some i)), (.chan (some j)), (.chan (some l))) := by
  refine ⟨rfl, rfl, rfl, ?_⟩
  show intBin .or (K i) (T x i) (K j) (T x j) = some (.int (K l) (T x l))
  rw [hi, hj, hl]
  show some (Value.int .u64 (IntKind.u64.wrap ((BitVec.ofInt 64 (T x i) ||| BitVec.ofInt 64 (T x j)).toNat))) = _
  rw [hj2, or_low h0 h1 hb (by omega), ← hj2, hs]
theorem hr2 {x : Int} (h : R x) : ∀ p ∈ r2, Rule2 (θb x) p := by
  intro p hp
  obtain ⟨h0, h1⟩ := h
  simp only [r2, List.mem_cons, List.not_mem_nil, or_false] at hp
  rcases hp with rfl | rfl | rfl | rfl | rfl | rfl | rfl | rfl | rfl | rfl | rfl | rfl | rfl | rfl | rfl | rfl | rfl | rfl | rfl | rfl | rfl | rfl | rfl | rfl | rfl
  · exact shr_of (n := 0) (by decide) rfl rfl (by show x % 18446744073709551616 / 1 = x % 18446744073709551616; omega)
  · exact shr_of (n := 8) (by decide) rfl rfl rfl
  · exact shr_of (n := 16) (by decide) rfl rfl rfl
  · exact shr_of (n := 24) (by decide) rfl rfl rfl
  · exact shr_of (n := 32) (by decide) rfl rfl rfl
  · exact shr_of (n := 40) (by decide) rfl rfl rfl
  · exact shr_of (n := 48) (by decide) rfl rfl rfl
  · exact shr_of (n := 56) (by decide) rfl rfl rfl
  · exact shl_of (n := 0) (by decide) rfl rfl (by show (x % 18446744073709551616 % 256 * 1) % 18446744073709551616 = x % 18446744073709551616 % 256; omega)
  · exact shl_of (n := 8) (by decide) rfl rfl (by show (x % 18446744073709551616 / 256 % 256 * 256) % 18446744073709551616 = x % 18446744073709551616 / 256 % 256 * 256; omega)
  · exact shl_of (n := 16) (by decide) rfl rfl (by show (x % 18446744073709551616 / 65536 % 256 * 65536) % 18446744073709551616 = x % 18446744073709551616 / 65536 % 256 * 65536; omega)
  · exact shl_of (n := 24) (by decide) rfl rfl (by show (x % 18446744073709551616 / 16777216 % 256 * 16777216) % 18446744073709551616 = x % 18446744073709551616 / 16777216 % 256 * 16777216; omega)
  · exact shl_of (n := 32) (by decide) rfl rfl (by show (x % 18446744073709551616 / 72057594037927936 * 4294967296) % 18446744073709551616 = x % 18446744073709551616 / 72057594037927936 * 4294967296; omega)
  · exact shl_of (n := 40) (by decide) rfl rfl (by show (x % 18446744073709551616 / 72057594037927936 * 1099511627776) % 18446744073709551616 = x % 18446744073709551616 / 72057594037927936 * 1099511627776; omega)
  · exact shl_of (n := 48) (by decide) rfl rfl (by show (x % 18446744073709551616 / 72057594037927936 * 281474976710656) % 18446744073709551616 = x % 18446744073709551616 / 72057594037927936 * 281474976710656; omega)
  · exact shl_of (n := 56) (by decide) rfl rfl (by show (x % 18446744073709551616 / 72057594037927936 * 72057594037927936) % 18446744073709551616 = x % 18446744073709551616 / 72057594037927936 * 72057594037927936; omega)
  · exact ⟨rfl, rfl, rfl, congrArg (fun z => some (Value.int .u64 z)) (or_zero (a := x % 18446744073709551616 % 256) (by omega) (by omega))⟩
  · exact or_of (n := 8) (b := x % 18446744073709551616 / 256 % 256) rfl rfl rfl (by show 0 ≤ x % 18446744073709551616 % 256; omega) (by show x % 18446744073709551616 % 256 < 256; omega) (by omega) rfl (by show x % 18446744073709551616 % 256 + x % 18446744073709551616 / 256 % 256 * 256 = x % 18446744073709551616 % 65536; omega) (by show x % 18446744073709551616 % 65536 < _; omega)
  · exact or_of (n := 16) (b := x % 18446744073709551616 / 65536 % 256) rfl rfl rfl (by show 0 ≤ x % 18446744073709551616 % 65536; omega) (by show x % 18446744073709551616 % 65536 < 65536; omega) (by omega) rfl (by show x % 18446744073709551616 % 65536 + x % 18446744073709551616 / 65536 % 256 * 65536 = x % 18446744073709551616 % 16777216; omega) (by show x % 18446744073709551616 % 16777216 < _; omega)
  · exact or_of (n := 24) (b := x % 18446744073709551616 / 16777216 % 256) rfl rfl rfl (by show 0 ≤ x % 18446744073709551616 % 16777216; omega) (by show x % 18446744073709551616 % 16777216 < 16777216; omega) (by omega) rfl (by show x % 18446744073709551616 % 16777216 + x % 18446744073709551616 / 16777216 % 256 * 16777216 = x % 18446744073709551616 % 4294967296; omega) (by show x % 18446744073709551616 % 4294967296 < _; omega)
  · exact or_of (n := 32) (b := x % 18446744073709551616 / 72057594037927936) rfl rfl rfl (by show 0 ≤ x % 18446744073709551616 % 4294967296; omega) (by show x % 18446744073709551616 % 4294967296 < 4294967296; omega) (by omega) rfl (by show x % 18446744073709551616 % 4294967296 + x % 18446744073709551616 / 72057594037927936 * 4294967296 = x % 18446744073709551616 % 1099511627776; omega) (by show x % 18446744073709551616 % 1099511627776 < _; omega)
  · exact or_of (n := 40) (b := x % 18446744073709551616 / 72057594037927936) rfl rfl rfl (by show 0 ≤ x % 18446744073709551616 % 1099511627776; omega) (by show x % 18446744073709551616 % 1099511627776 < 1099511627776; omega) (by omega) rfl (by show x % 18446744073709551616 % 1099511627776 + x % 18446744073709551616 / 72057594037927936 * 1099511627776 = x % 18446744073709551616 % 281474976710656; omega) (by show x % 18446744073709551616 % 281474976710656 < _; omega)
  · exact or_of (n := 48) (b := x % 18446744073709551616 / 72057594037927936) rfl rfl rfl (by show 0 ≤ x % 18446744073709551616 % 281474976710656; omega) (by show x % 18446744073709551616 % 281474976710656 < 281474976710656; omega) (by omega) rfl (by show x % 18446744073709551616 % 281474976710656 + x % 18446744073709551616 / 72057594037927936 * 281474976710656 = x % 18446744073709551616 % 72057594037927936; omega) (by show x % 18446744073709551616 % 72057594037927936 < _; omega)
  · exact or_of (n := 56) (b := x % 18446744073709551616 / 72057594037927936) rfl rfl rfl (by show 0 ≤ x % 18446744073709551616 % 72057594037927936; omega) (by show x % 18446744073709551616 % 72057594037927936 < 72057594037927936; omega) (by omega) rfl (by show x % 18446744073709551616 % 72057594037927936 + x % 18446744073709551616 / 72057594037927936 * 72057594037927936 = x % 18446744073709551616; omega) (by show x % 18446744073709551616 < _; omega)
  · exact ⟨rfl, rfl, rfl, congrArg (fun z => some (Value.bool z)) (by show (!(x % 18446744073709551616 == x % 18446744073709551616)) = false; simp)⟩
def θe (L : Int) (j : Nat) : Value := if j = 999 then .int .i64 L else .bool false
theorem θe_plain (L : Int) (j : Nat) : plainV (θe L j) = true := by unfold θe; split <;> rfl
def e2 : List (U2 × Value × Value × Value) := [(.mn, (.chan (some 999)), (.int .i64 8), (.int .i64 8))]
theorem he2 {L : Int} (hL : 8 ≤ L) (x : Nat → Int) : ∀ p ∈ e2, Rule2 (thP θb (θe L) x 320) p := by
  intro p hp
  simp only [e2, List.mem_cons, List.not_mem_nil, or_false] at hp
  subst hp
  exact ⟨rfl, rfl, rfl, congrArg (fun z => some (Value.int .i64 z)) (show (if (8 : Int) < L then (8 : Int) else L) = 8 by split <;> omega)⟩
/-- The symbols: eight numbers, and how many there are. -/
noncomputable abbrev sy (x : Nat → Int) (hx : ∀ i, R (x i)) (L : Int) (hL : 8 ≤ L) (s : RowS) (D : List RowD) (hf : Fits (thP θb (θe L) x 320) [s] D) : Sy :=
  syRowsP θb (θe L) x 320 θb_plain (θe_plain L) (by decide) (by decide) r1 [] r2 e2 [] [] (fun i _ => hr1 (hx i)) rfl (fun _ h => nomatch h) rfl (fun i _ => hr2 (hx i)) rfl (he2 hL x) rfl (fun i _ p h => nomatch h) (fun _ h => nomatch h) rfl [s] D hf
def es : List Value := [.chan (some 0), .chan (some 40), .chan (some 80), .chan (some 120), .chan (some 160), .chan (some 200), .chan (some 240), .chan (some 280)]
abbrev Rw (n : Nat) : RowS := (.int .i64 (.ofNat n), es.take n)
abbrev RB : RowS := (.chan (some 999), es)
end Go.Eng.tqu
