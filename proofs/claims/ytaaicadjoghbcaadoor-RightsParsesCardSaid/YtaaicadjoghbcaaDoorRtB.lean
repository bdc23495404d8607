/- Layer 11, part B: helpers' bits, numbers to the base 16. -/
import Derived.Test.YtaaicadjoghbcaaDoorRtA
import Derived.Test.YtaaicadjoghbcaaDoorRtShelf
set_option linter.unusedSimpArgs false
set_option linter.unusedVariables false
set_option maxRecDepth 8000
namespace Go.Proofs.YtaaicadjoghbcaaDoor
open Go.Eng

/-- What the program's own tables hold. -/
structure Glob (w : World) : Prop where
  helpers : ∀ i : Nat, i < 8 → wcell w 0 i = some (.int .i32 (([1, 2, 3, 5, 7, 87, 88, 89] : List Int).getD i 0))
  tz : wcell w 6 15 = some (.int .u8 4)
theorem Glob.calm {w w' : World} (h : Glob w) (hk : Kept none' w w') : Glob w' := ⟨fun i hi => wcell_calm hk (h.helpers i hi), wcell_calm hk h.tz⟩

def FirstIs (f : Nat → Int) (n : Nat) (x : Int) (r : Int) : Prop := (∃ i : Nat, i < n ∧ r = i ∧ f i = x ∧ ∀ j : Nat, j < i → f j ≠ x) ∨ (r = -1 ∧ ∀ j : Nat, j < n → f j ≠ x)

theorem index_ret (b o n c : Nat) (f : Nat → Int) (x : Int) (w : World) (hn : n ≤ 1000000) (hf : ∀ i, i < n → wcell w b (o + i) = some (.int .i32 (f i))) :
    Ret Tryd.prog 30 [.slice (some ⟨b, o, none⟩) n c, .int .i32 x] w fun v w' => w' = w ∧ ∃ r, v = .int .i64 r ∧ FirstIs f n x r := by
  refine ret_of_W Tryd.func30 rfl ok_slices_Index ?_
  simp [c_slices_Index]
  refine W_loop (fun env w' => w' = w ∧ ∃ i : Nat, env = [.slice (some ⟨b, o, none⟩) n c, .int .i32 x, undef, .int .i64 i, .int .i64 n, undef] ∧ i ≤ n ∧ ∀ j : Nat, j < i → f j ≠ x) (fun env _ => n - natAt env 3) ?_ ?_
  · exact ⟨rfl, 0, by simp, by omega, fun j hj => by omega⟩
  rintro env w1 ⟨rfl, i, rfl, hi, hall⟩
  by_cases hgo : i < n
  · simp
    refine W_yes (by simp; omega) ?_
    have e2 : IntKind.i64.wrap ((i : Int) + 1) = ((i + 1 : Nat) : Int) := i64w (by omega) (by omega)
    have hc := hf i hgo
    simp
    refine W_cond (t := decide (x = f i)) (by simp [hgo, hc]) ?_ ?_
    · intro h
      simp at h
      simp
      exact .inl ⟨i, hgo, rfl, h.symm, hall⟩
    · intro h
      simp at h
      simp
      refine ⟨⟨i + 1, e2, by omega, fun j hj => ?_⟩, by simp [natAt, e2]; omega⟩
      by_cases hji : j = i
      · subst hji; exact fun e => h e.symm
      · exact hall j (by omega)
  · simp
    refine W_no (by simp; omega) ?_
    simp
    exact .inr ⟨rfl, fun j hj => hall j (by omega)⟩

def helperAt (i : Nat) : Int := ([1, 2, 3, 5, 7, 87, 88, 89] : List Int).getD i 0
theorem bit_ret (x : Int) (w : World) (hg : Glob w) : Ret Tryd.prog 18 [.int .i32 x] w fun v w' => Kept none' w w' ∧ ∃ r, v = .tuple #[.int .i64 (max r 0), .bool (decide (0 ≤ r))] ∧ FirstIs helperAt 8 x r := by
  refine ret_of_W Tryd.func18 rfl ok_rights_Bit ?_
  simp [c_rights_Bit]
  refine W_call0 (by simp) (index_ret 0 0 8 8 helperAt x w (by omega) (fun i hi => by rw [Nat.zero_add]; exact hg.helpers i hi)) ?_
  rintro v w1 ⟨rfl, r, rfl, hr⟩
  simp
  exact ⟨Kept.refl _ _, r, ⟨by omega, Iff.rfl⟩, hr⟩

theorem tz64_ret (w : World) (hg : Glob w) : Ret Tryd.prog 62 [.int .u64 16] w fun v w' => v = .int .i64 4 ∧ Kept none' w w' := by
  refine ret_of_W Tryd.func62 rfl ok_math_bits_TrailingZeros64 ?_
  have e0 : IntKind.u64.wrap (0 - 16) = 18446744073709551600 := by decide +kernel
  have e1 : bitAnd .u64 16 18446744073709551600 = 16 := by decide +kernel
  have e2 : IntKind.u64.wrap 4573923408821661840 = 4573923408821661840 := by decide +kernel
  have e5 : (4573923408821661840 : Int).fdiv (2 ^ min 58 IntKind.u64.bits) = 15 := by decide +kernel
  have e3 : (4573923408821661840 : Int).fdiv (2 ^ 58) = 15 := by decide +kernel
  have e4 : IntKind.i64.wrap 4 = 4 := by decide +kernel
  have hb : min (58 : Int).toNat IntKind.u64.bits = 58 := by decide
  have hs : binV .shr (.int .u64 4573923408821661840) (.int .u64 58) = some (.int .u64 15) := by
    show intBin .shr .u64 4573923408821661840 .u64 58 = _
    rw [intBin_shr _ _ _ _ (by omega), hb, e3]
  have e0' : unV .neg (.int .u64 16) = some (.int .u64 18446744073709551600) := by rw [unV_neg, e0]
  simp [c_math_bits_TrailingZeros64, -W_chk, -W_set]
  rw [W_set]
  refine ok_intro (.int .i64 0) rfl ?_
  simp only [W_seq]
  refine W_no (by simp) ?_
  simp only [W_skip, W_seq]
  refine W_chkIn [.int .i64 4, .int .u8 4, .pointer (some ⟨6, 15, none⟩)] ?_ ?_
  · simp only [evs, Ex.ev, U1.ap, U2.ap, Option.bind_some, List.set_cons_succ, List.set_cons_zero, env0]
    simp [e0', e1, e2, e5, hg.tz, e4, -unV_neg]
  rw [W_set]
  refine ok_intro (.int .i64 4) ?_ ?_
  · simp only [evs, Ex.ev, U1.ap, U2.ap, Option.bind_some, List.set_cons_succ, List.set_cons_zero, env0]
    simp [e0', e1, e2, e5, hg.tz, e4, -unV_neg]
  simp
  exact Kept.refl _ _

theorem tz_ret (w : World) (hg : Glob w) : Ret Tryd.prog 51 [.int .u64 16] w fun v w' => v = .int .i64 4 ∧ Kept none' w w' := by
  refine ret_of_W Tryd.func51 rfl ok_math_bits_TrailingZeros ?_
  simp [c_math_bits_TrailingZeros]
  refine W_no (by simp) ?_
  simp
  refine W_calm (by simp) (tz64_ret w hg) ?_
  intro w1 hk
  simp
  exact hk

theorem pow2_ret (w : World) : Ret Tryd.prog 50 [.int .i64 16] w fun v w' => v = .bool true ∧ Kept none' w w' := by
  refine ret_of_W Tryd.func50 rfl ok_internal_strconv_isPowerOfTwo ?_
  have e0 : IntKind.i64.wrap 15 = 15 := by decide +kernel
  have e1 : bitAnd .i64 16 15 = 0 := by decide +kernel
  simp [c_internal_strconv_isPowerOfTwo, e0, e1]
  exact Kept.refl _ _

/-! Numbers to the base 16. -/
def dig (k : Nat) : Nat := if k < 10 then 48 + k else 87 + k
def hexF : Nat → Nat → List Nat
  | 0, _ => []
  | f + 1, n => if n < 16 then [dig n] else hexF f (n / 16) ++ [dig (n % 16)]
def hexL (n : Nat) : List Nat := hexF 16 n
theorem hexF_len : ∀ f n, (hexF f n).length ≤ f
  | 0, n => by simp [hexF]
  | f + 1, n => by
    unfold hexF
    split
    · simp
    · have := hexF_len f (n / 16)
      simp; omega
theorem dig_le {k : Nat} (h : k < 16) : dig k ≤ 255 := by unfold dig; split <;> omega
theorem hexF_le : ∀ f n, ∀ x ∈ hexF f n, x ≤ 255
  | 0, n, x, h => by simp [hexF] at h
  | f + 1, n, x, h => by
    unfold hexF at h
    split at h
    · rename_i h16
      simp at h; subst h; exact dig_le h16
    · simp at h
      rcases h with h | h
      · exact hexF_le f _ x h
      · subst h; exact dig_le (Nat.mod_lt _ (by omega))
def digs : ByteArray := ⟨#[48, 49, 50, 51, 52, 53, 54, 55, 56, 57, 97, 98, 99, 100, 101, 102, 103, 104, 105, 106, 107, 108, 109, 110, 111, 112, 113, 114, 115, 116, 117, 118, 119, 120, 121, 122]⟩
theorem digs_at : ∀ k, k < 16 → idxStrV (.string digs) (.int .u64 (k : Nat)) = some (.int .u8 (dig k : Nat)) := by
  intro k hk
  have h : k = 0 ∨ k = 1 ∨ k = 2 ∨ k = 3 ∨ k = 4 ∨ k = 5 ∨ k = 6 ∨ k = 7 ∨ k = 8 ∨ k = 9 ∨ k = 10 ∨ k = 11 ∨ k = 12 ∨ k = 13 ∨ k = 14 ∨ k = 15 := by omega
  rcases h with rfl | rfl | rfl | rfl | rfl | rfl | rfl | rfl | rfl | rfl | rfl | rfl | rfl | rfl | rfl | rfl <;> rfl

/-- The box holds the digits so far at its end. -/
def EndIs (w : World) (b : Nat) (T : TypeId) (s : List Nat) : Prop := s.length ≤ 65 ∧ ∃ cur, w.heap[b]? = some (.cells cur T (0, 0)) ∧ cur.size = 65 ∧ ∀ (j x : Nat), s[j]? = some x → cur[65 - s.length + j]? = some (.int .u8 (x : Nat))
theorem EndIs.push {w0 w : World} {b : Nat} {T : TypeId} {s : List Nat} (h : EndIs w b T s) (hl : s.length < 65) (x : Nat) (hk : Kept none' w0 w) (hb : w0.heap.size ≤ b) :
    ∃ w', stv w 1 (.pointer (some ⟨b, 65 - s.length - 1, none⟩)) (.int .u8 (x : Nat)) = some w' ∧ EndIs w' b T (x :: s) ∧ Kept none' w0 w' := by
  obtain ⟨_, cur, hc, hs, hx⟩ := h
  refine ⟨_, stv_of (n := 1) (v := .int .u8 (x : Nat)) hc rfl (by omega) (.inl (by simp)) (by simp [Value.oneCell']), ⟨by simp; omega, _, put_same (blk_lt hc), by simpa using hs, ?_⟩, hk.putNew hb _⟩
  intro j y hj
  simp only [cells_int, List.length_cons]
  show (setRow cur (65 - s.length - 1) [Value.int .u8 (x : Nat)])[65 - (s.length + 1) + j]? = _
  rw [setRow_eq]
  cases j with
  | zero =>
    simp at hj
    subst hj
    rw [if_pos (by simp only [List.length_singleton]; omega), show 65 - (s.length + 1) + 0 - (65 - s.length - 1) = 0 from by omega]
    rfl
  | succ j =>
    rw [if_neg (by simp only [List.length_singleton]; omega)]
    have := hx j y (by simpa using hj)
    rw [← this]
    congr 1
    omega

set_option maxHeartbeats 1000000 in
theorem formatBits_ret (u : Nat) (w : World) (hg : Glob w) (hu : u < 18446744073709551616) : Ret Tryd.prog 35 [.slice none 0 0, .int .u64 u, .int .i64 16, .bool false, .bool false] w
    fun v w' => v = .tuple #[.slice none 0 0, .string (bs (hexL u))] ∧ Kept none' w w' := by
  refine ret_of_W Tryd.func35 rfl ok_internal_strconv_formatBits ?_
  simp [c_internal_strconv_formatBits]
  refine W_no (by simp) ?_
  simp
  refine W_no (by simp) ?_
  simp
  have hE0 : EndIs (w.alloc (.cells (Array.replicate 65 (.int .u8 0)) 91)) w.heap.size 91 [] := ⟨by simp, _, hp_new w _, by simp, fun j x h => by simp at h⟩
  have hk0 : Kept none' w (w.alloc (.cells (Array.replicate 65 (.int .u8 0)) 91)) := (Kept.refl _ _).alloc _
  generalize w.alloc (.cells (Array.replicate 65 (.int .u8 0)) 91) = w1 at hE0 hk0 ⊢
  refine W_calm (by simp) (pow2_ret w1) ?_
  intro w2 hk2
  simp
  refine W_yes (by simp) ?_
  have e16 : IntKind.u64.wrap 16 = 16 := by decide +kernel
  have e15 : IntKind.u64.wrap 15 = 15 := by decide +kernel
  have e4 : IntKind.u64.wrap 4 = 4 := by decide +kernel
  simp [e16]
  refine W_calm (by simp [e16]) (tz_ret w2 (hg.calm (hk0.trans hk2))) ?_
  intro w3 hk3
  simp [e16, e15, e4]
  have hE3 : EndIs w3 w.heap.size 91 [] := by
    obtain ⟨h1, cur, h2, h3⟩ := hE0
    exact ⟨h1, cur, (hk2.trans hk3).has h2 (fun h => h), h3⟩
  have hk03 := hk0.trans (hk2.trans hk3)
  generalize hbx : w.heap.size = bx at hE3
  have hbx' : w.heap.size ≤ bx := by omega
  refine W_loop (fun env w' => Kept none' w w' ∧ ∃ (f u' : Nat) (s : List Nat), env = [.slice none 0 0, .int .u64 u', undef, .bool false, .bool false, .slice none 0 0, .string ⟨#[]⟩, .pointer (some ⟨bx, 0, none⟩), .int .i64 ((65 - s.length : Nat) : Int), undef, undef, .int .u64 4, .int .u64 16, .int .u64 15, undef, undef, undef] ∧
      hexL u = hexF f u' ++ s ∧ 1 ≤ f ∧ s.length + f = 16 ∧ u' < 16 ^ f ∧ EndIs w' bx 91 s) (fun env _ => natAt env 1) ?_ ?_
  · exact ⟨hk03, 16, u, [], by simp, by simp [hexL], by omega, by simp, by simpa using hu, hE3⟩
  rintro env w4 ⟨hk4, f, u', s, rfl, hhex, hf1, hsf, hu', hE⟩
  by_cases hgo : 16 ≤ u'
  · obtain ⟨f', rfl⟩ : ∃ f', f = f' + 1 := by
      cases f with
      | zero => simp at hu'; omega
      | succ f' => exact ⟨f', rfl⟩
    have hm : bitAnd .u64 (u' : Nat) 15 = ((u' % 16 : Nat) : Int) := by
      have h16 : u' < 18446744073709551616 := Nat.lt_of_lt_of_le hu' (by
        have : (16 : Nat) ^ (f' + 1) ≤ 16 ^ 16 := Nat.pow_le_pow_right (by omega) (by omega)
        simpa using this)
      rw [show ((15 : Int)) = ((15 : Nat) : Int) from rfl, bitAnd_u64 u' 15 h16 (by omega)]
      congr 1
      exact Nat.and_two_pow_sub_one_eq_mod u' 4
    have hsh : binV .shr (.int .u64 (u' : Nat)) (.int .u64 4) = some (.int .u64 ((u' / 16 : Nat) : Int)) := by
      show intBin .shr .u64 (u' : Nat) .u64 4 = _
      rw [intBin_shr _ _ _ _ (by omega), show min (4 : Int).toNat IntKind.u64.bits = 4 from by decide, show (2 : Int) ^ 4 = ((16 : Nat) : Int) from by decide]
      congr 2
      exact (Int.ofNat_fdiv u' 16).symm
    have hdg := digs_at (u' % 16) (Nat.mod_lt _ (by omega))
    rw [show ((u' % 16 : Nat) : Int) = (u' : Int) % 16 from by simp] at hdg
    unfold digs at hdg
    have ei : IntKind.i64.wrap (((65 - s.length : Nat) : Int) - 1) = ((65 - s.length - 1 : Nat) : Int) := by rw [i64w (by omega) (by omega)]; omega
    obtain ⟨w5, hst, hE5, hk5⟩ := hE.push (by omega) (dig (u' % 16)) hk4 hbx'
    have hlt : ((65 - s.length - 1 : Nat) : Int) < 65 := by omega
    have h65 : 65 - (dig (u' % 16) :: s).length = 65 - s.length - 1 := by simp only [List.length_cons]; omega
    have hhx : hexF (f' + 1) u' = hexF f' (u' / 16) ++ [dig (u' % 16)] := by rw [hexF, if_neg (by omega)]
    simp
    refine W_yes (by simp; omega) ?_
    simp only [W_skip, W_seq, W_block, W_set]
    refine ok_intro (.int .i64 ((65 - s.length - 1 : Nat) : Int)) (by simp [ei]) ?_
    refine W_chkIn [.int .u8 (dig (u' % 16) : Nat)] ?_ ?_
    · simp [hm, hdg, -idxStrV_string]
    refine W_store (xv := .pointer (some ⟨bx, 65 - s.length - 1, none⟩)) (vv := .int .u8 (dig (u' % 16) : Nat)) ?_ ?_ hst (stab_nil _ _ _) ?_
    · simp; omega
    · simp [hm, hdg, -idxStrV_string]
    simp only [W_set]
    refine ok_intro (.int .u64 ((u' / 16 : Nat) : Int)) ?_ ?_
    · simpa using hsh
    simp
    refine ⟨⟨hk5, f', u' / 16, dig (u' % 16) :: s, ⟨rfl, ?_⟩, ?_, ?_, ?_, ?_, hE5⟩, ?_⟩
    · simp only [List.length_cons]; omega
    · rw [hhex, hhx, List.append_assoc]; rfl
    · cases f' with
      | zero => simp at hu'; omega
      | succ f' => omega
    · simp only [List.length_cons]; omega
    · rw [Nat.pow_succ] at hu'
      exact Nat.div_lt_of_lt_mul (by rw [Nat.mul_comm]; exact hu')
    · simp [natAt]; omega
  · have hu16 : u' < 16 := by omega
    simp
    refine W_no (by simp; omega) ?_
    have hdg := digs_at u' hu16
    unfold digs at hdg
    have hf0 : hexF f u' = [dig u'] := by
      cases f with
      | zero => omega
      | succ f' => rw [hexF, if_pos hu16]
    have ei : IntKind.i64.wrap (((65 - s.length : Nat) : Int) - 1) = ((65 - s.length - 1 : Nat) : Int) := by rw [i64w (by omega) (by omega)]; omega
    obtain ⟨w5, hst, hE5, hk5⟩ := hE.push (by omega) (dig u') hk4 hbx'
    simp only [W_seq, W_exit, Wx_exit_c, Wx_exit_post, Wx_exit_blk, if_true, W_set]
    refine ok_intro (.int .i64 ((65 - s.length - 1 : Nat) : Int)) (by simp [ei]) ?_
    refine W_chkIn [.int .u8 (dig u' : Nat)] ?_ ?_
    · simp [hdg, -idxStrV_string]
    refine W_store (xv := .pointer (some ⟨bx, 65 - s.length - 1, none⟩)) (vv := .int .u8 (dig u' : Nat)) ?_ ?_ hst (stab_nil _ _ _) ?_
    · simp; omega
    · simp [hdg, -idxStrV_string]
    simp
    refine W_no (by simp) ?_
    simp
    refine W_no (by simp) ?_
    simp only [W_skip, W_seq, W_set]
    obtain ⟨_, cur, hcu, hcs, hcx⟩ := hE5
    have hll : (dig u' :: s).length = s.length + 1 := rfl
    have hb := bytes_bstr (w := w5) (b := bx) (off := 65 - (s.length + 1)) (c := s.length + 1) (m := dig u' :: s) (by simp) (fun j x hj => by rw [wcell_of hcu]; exact hcx j x hj)
    rw [hll] at hb
    refine ok_intro (.string (bs (hexL u))) ?_ ?_
    · have h3 : ¬ 65 = 65 - s.length - 1 := by omega
      simp [h3]
      rw [if_pos (by omega), Option.bind_some, show 65 - s.length - 1 = 65 - (s.length + 1) from by omega, show 65 - (65 - (s.length + 1)) = s.length + 1 from by omega, hb, hhex, hf0]
      rfl
    simp
    exact hk5

theorem format_ret (u : Nat) (w : World) (hg : Glob w) (hu : u < 18446744073709551616) : Ret Tryd.prog 22 [.int .u64 u, .int .i64 16] w fun v w' => v = .string (bs (hexL u)) ∧ Kept none' w w' := by
  refine ret_of_W Tryd.func22 rfl ok_internal_strconv_FormatUint ?_
  simp [c_internal_strconv_FormatUint]
  refine W_no (by simp) ?_
  simp
  refine W_calm (by simp) (formatBits_ret u w hg hu) ?_
  intro w1 hk
  simp
  exact hk
theorem formatU_ret (u : Nat) (w : World) (hg : Glob w) (hu : u < 18446744073709551616) : Ret Tryd.prog 13 [.int .u64 u, .int .i64 16] w fun v w' => v = .string (bs (hexL u)) ∧ Kept none' w w' := by
  refine ret_of_W Tryd.func13 rfl ok_strconv_FormatUint ?_
  simp [c_strconv_FormatUint]
  refine W_calm (by simp) (format_ret u w hg hu) ?_
  intro w1 hk
  simp
  exact hk
end Go.Proofs.YtaaicadjoghbcaaDoor
