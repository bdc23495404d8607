/- Layer 11, part F: numbers to the base 16 read. -/
import Derived.Test.YtaaicadjoghbcaaDoorRtE
set_option linter.unusedSimpArgs false
set_option linter.unusedVariables false
set_option maxRecDepth 8000
namespace Go.Proofs.YtaaicadjoghbcaaDoor
open Go.Eng

def hexDig (c : Nat) : Option Nat := if 48 ≤ c ∧ c ≤ 57 then some (c - 48) else if 97 ≤ c ||| 32 ∧ c ||| 32 ≤ 102 then some ((c ||| 32) - 87) else none
inductive PR where
  | num (n : Nat)
  | syn
  | rng
def p16 (a : Nat) : List Nat → PR
  | [] => .num a
  | c :: r => match hexDig c with
    | none => .syn
    | some d => if 65535 < a * 16 + d then .rng else p16 (a * 16 + d) r
def pu (l : List Nat) : PR := if l = [] then .syn else p16 0 l
def PR.inner : PR → Value
  | .num n => .tuple #[.int .u64 n, .nilIface]
  | .syn => .tuple #[.int .u64 0, .iface 81 (.int .i64 2)]
  | .rng => .tuple #[.int .u64 65535, .iface 81 (.int .i64 1)]

theorem cv_bs (w : World) (l : List Nat) (hl : Oct l) : ∃ c w', ((Tag.cv 9 58).sem [.string (bs l)]).run Tryd.prog w = .ok (.slice (some ⟨w.heap.size, 0, none⟩) l.length c) w' ∧ Kept none' w w' ∧ ∀ (i x : Nat), l[i]? = some x → wcell w' w.heap.size i = some (.int .u8 x) := by
  refine ⟨grownCap w (bs l).size 0 5, Lib.bytesWorld w 5 (bs l), ?_, ?_, ?_⟩
  · have := Lib.run_convert_string_bytes (P := Tryd.prog) w 9 58 5 (bs l) Tryd.underlying9 Tryd.underlying58 Tryd.underlying5
    rw [bs_size] at this
    simp only [Tag.sem]
    rw [bs_size]
    exact this
  · exact ⟨rfl, rfl, rfl, by rw [Lib.bytesWorld_size]; omega, fun j hj _ => Lib.bytesWorld_at_old w 5 _ j hj⟩
  · intro i x hi
    have h1 := Lib.bytesWorld_at_new w 5 (bs l)
    have hil : i < l.length := (List.getElem?_eq_some_iff.1 hi).1
    rw [wcell_of h1]
    unfold Lib.bytesCells
    rw [Array.getElem?_append_left (by rw [Array.size_map]; simpa using hil)]
    have h255 := hl x (List.mem_of_getElem? hi)
    simp [bs, hi, Nat.mod_eq_of_lt (show x < 256 by omega)]

theorem bitOr_u8 (a b : Nat) (ha : a ≤ 255) (hb : b ≤ 255) : bitOr .u8 (a : Int) (b : Int) = ((a ||| b : Nat) : Int) := by
  unfold bitOr
  have h := Nat.or_lt_two_pow (x := a) (y := b) (n := 8) (by omega) (by omega)
  show IntKind.u8.wrap ((BitVec.ofInt 8 (a : Int) ||| BitVec.ofInt 8 (b : Int)).toNat : Int) = _
  rw [bv_nat, bv_nat, BitVec.toNat_or, BitVec.toNat_ofNat, BitVec.toNat_ofNat, Nat.mod_eq_of_lt (by omega), Nat.mod_eq_of_lt (by omega), u8w (by omega) (by omega)]
theorem lower_T (w0 : World) (c : Nat) (hc : c ≤ 255) : T Tryd.prog w0 41 [.int .u8 c] = some (.int .u8 ((c ||| 32 : Nat) : Int)) :=
  T_of (by kernel_rfl) Tryd.func41 rfl ok_internal_strconv_lower (by simp) (by simp) fun B hB => by
    have : bitOr .u8 (c : Int) 32 = ((c ||| 32 : Nat) : Int) := bitOr_u8 c 32 hc (by omega)
    simp [c_internal_strconv_lower, this]

theorem or32_lt {c : Nat} (h : c ≤ 255) : c ||| 32 ≤ 255 := by
  have := Nat.or_lt_two_pow (x := c) (y := 32) (n := 8) (by omega) (by omega)
  omega

theorem inner_ret (l : List Nat) (w : World) (hl : Oct l) (hlen : l.length ≤ 1000000) : Ret Tryd.prog 27 [.string (bs l), .int .i64 16, .int .i64 16] w fun v w' => v = (pu l).inner ∧ Kept none' w w' := by
  refine ret_of_W Tryd.func27 rfl ok_internal_strconv_ParseUint ?_
  have he := bs_eql hl (l := []) (fun x h => by simp at h)
  have hbn : bs [] = ⟨#[]⟩ := rfl
  rw [hbn] at he
  simp [c_internal_strconv_ParseUint]
  refine ok_intro [.bool (decide (l = []))] (by simp [he]) ?_
  by_cases hn : l = []
  · subst hn
    refine W_yes (by simp [he]) ?_
    simp
    exact ⟨rfl, Kept.refl _ _⟩
  refine W_no (by simp [he, hn]) ?_
  have hpu : pu l = p16 0 l := by unfold pu; rw [if_neg hn]
  rw [hpu]
  simp only [W_seq, W_skip, W_block]
  simp
  refine W_yes (by simp) ?_
  simp only [W_seq, W_skip, W_block, W_blk]
  refine W_no (by simp) ?_
  refine W_no (by simp) ?_
  simp only [W_seq, W_skip, W_block, W_blk, W_set]
  refine ok_intro (.int .u64 0) (by simp) ?_
  refine ok_intro (.int .i64 16) (by simp) ?_
  refine ok_intro (.bool false) (by simp) ?_
  refine W_no (by simp) ?_
  simp only [W_seq, W_set]
  refine ok_intro (.bool true) (by simp) ?_
  refine W_yes (by simp) ?_
  simp only [W_seq, W_set, W_blk]
  refine ok_intro (.int .u64 1152921504606846976) (by simp) ?_
  have hsh : binV .shl (.int .u64 1) (.int .u64 16) = some (.int .u64 65536) := by rfl
  have e16 : IntKind.u64.wrap 16 = 16 := by decide +kernel
  have e1 : IntKind.u64.wrap 65535 = 65535 := by decide +kernel
  refine ok_intro (.int .u64 65535) (by simp [hsh, e16, e1]) ?_
  refine ok_intro (.bool false) (by simp) ?_
  refine ok_intro (.int .u64 0) (by simp) ?_
  obtain ⟨cp, w1, hrun, hk1, hcell⟩ := cv_bs w l hl
  refine W_sem (by simp) hrun (stab_nil _ _ _) ?_
  simp
  generalize w.heap.size = b at hcell
  refine W_loop (fun env w' => Kept none' w1 w' ∧ ∃ (i a : Nat), env = [undef, .int .i64 16, undef, undef, undef, .bool false, .string (bs l), undef, undef, undef, undef, undef, undef, undef, undef, .int .u64 1152921504606846976, undef, undef, undef, .int .u64 65535, .bool false, .int .u64 ((a : Nat) : Int), .slice (some ⟨b, 0, none⟩) l.length cp, .int .i64 ((i : Nat) : Int), .int .i64 l.length, undef, undef, undef, undef, undef, undef, undef, undef, undef, undef] ∧ i ≤ l.length ∧ a < 65536 ∧ p16 0 l = p16 a (l.drop i)) (fun env _ => l.length - natAt env 23) ?_ ?_
  · exact ⟨Kept.refl _ _, 0, 0, by simp, by omega, by omega, rfl⟩
  rintro env w2 ⟨hk2, i, a, rfl, hi, ha, hp⟩
  by_cases hgo : i < l.length
  · simp
    refine W_yes (by simp; omega) ?_
    have hget : l[i]? = some l[i] := List.getElem?_eq_getElem hgo
    have hc255 := hl l[i] (List.getElem_mem hgo)
    have hcc := wcell_calm hk2 (hcell i _ hget)
    have hdrop : l.drop i = l[i] :: l.drop (i + 1) := List.drop_eq_getElem_cons hgo
    rw [hdrop] at hp
    generalize l[i] = c at hget hc255 hcc hdrop hp
    simp only [W_seq, W_skip]
    rw [W_block]
    simp only [W_seq, W_set]
    refine ok_intro (.int .u8 c) (by simp [hgo, hcc]) ?_
    refine ok_intro (.int .u8 0) (by simp) ?_
    refine W_cut (fun env w' => Kept none' w1 w' ∧ ∃ (d : Nat) (x7 x8 x9 x10 x11 x12 : Value), env = [undef, .int .i64 16, undef, undef, undef, .bool false, .string (bs l), undef, undef, undef, undef, undef, undef, undef, undef, .int .u64 1152921504606846976, undef, undef, undef, .int .u64 65535, .bool false, .int .u64 (a : Int), .slice (some ⟨b, 0, none⟩) l.length cp, .int .i64 (i : Int), .int .i64 l.length, .int .u8 (c : Int), .int .u8 (d : Int), x7, x8, x9, x10, x11, x12, undef, undef] ∧ d < 256 ∧ hexDig c = if d < 16 then some d else none) ?_ ?_
    · rw [W_block]
      simp only [W_seq, W_set]
      refine ok_intro (.bool false) (by simp [pickV]) ?_
      refine W_no (by simp) ?_
      simp only [W_seq, W_set]
      by_cases hd : 48 ≤ c ∧ c ≤ 57
      · have h1 : (48 : Int) ≤ c := by omega
        have h2 : (c : Int) ≤ 57 := by omega
        refine ok_intro (.bool true) (by simp [h1, h2]) ?_
        refine W_yes (by simp) ?_
        have e : IntKind.u8.wrap ((c : Int) - 48) = ((c - 48 : Nat) : Int) := by rw [u8w (by omega) (by omega)]; omega
        simp only [W_set]
        refine ok_intro (.int .u8 ((c - 48 : Nat) : Int)) (by simp [e]) ?_
        simp
        exact ⟨hk2, c - 48, rfl, by omega, by unfold hexDig; rw [if_pos hd, if_pos (by omega)]⟩
      · refine ok_intro (.bool false) ?_ ?_
        · simp; omega
        refine W_no (by simp) ?_
        have hlo := fun w : World => lower_T w c hc255
        have hor : 32 ≤ c ||| 32 := Nat.right_le_or
        have hol := or32_lt hc255
        simp only [W_seq]
        refine W_calm (by simp) (ret_of_T (hlo w2)) ?_
        intro w3 hk3
        have hfail : ∀ (w4 : World) (d : Nat), Kept none' w1 w4 → hexDig c = none → PR.syn.inner = (p16 0 l).inner ∧ Kept none' w w4 := fun w4 d hk hh => by
          refine ⟨?_, hk1.trans hk⟩
          rw [hp]; unfold p16; rw [hh]
        by_cases h97 : 97 ≤ c ||| 32
        · have i97 : (97 : Int) ≤ ((c ||| 32 : Nat) : Int) := by omega
          generalize hq : c ||| 32 = q at hor hol h97 i97
          rw [hq] at hlo
          simp only [W_seq]
          refine W_chkIn [.int .u8 c] (by simp [i97]) ?_
          simp only [W_seq]
          refine W_yes (by simp [i97]) ?_
          refine W_calm (by simp) (ret_of_T (hlo w3)) ?_
          intro w4 hk4
          simp only [W_seq, W_set]
          by_cases h122 : q ≤ 122
          · have i122 : (q : Int) ≤ 122 := by omega
            refine ok_intro (.bool true) (by simp [i97, i122]) ?_
            refine W_yes (by simp) ?_
            simp only [W_seq]
            refine W_calm (by simp) (ret_of_T (hlo w4)) ?_
            intro w5 hk5
            have e : IntKind.u8.wrap (IntKind.u8.wrap ((q : Int) - 97) + 10) = ((q - 87 : Nat) : Int) := by rw [u8w (n := (q : Int) - 97) (by omega) (by omega), u8w (by omega) (by omega)]; omega
            simp only [W_set]
            refine ok_intro (.int .u8 ((q - 87 : Nat) : Int)) (by simp [e]) ?_
            simp
            refine ⟨((hk2.trans hk3).trans hk4).trans hk5, q - 87, rfl, by omega, ?_⟩
            unfold hexDig
            rw [if_neg hd, hq]
            by_cases h102 : q ≤ 102
            · rw [if_pos ⟨h97, h102⟩, if_pos (by omega)]
            · rw [if_neg (by omega), if_neg (by omega)]
          · refine ok_intro (.bool false) (by simp [i97]; omega) ?_
            refine W_no (by simp) ?_
            simp
            have hh : hexDig c = none := by unfold hexDig; rw [if_neg hd, hq, if_neg (by omega)]
            exact hfail w4 0 ((hk2.trans hk3).trans hk4) hh
        · have i97 : ¬ (97 : Int) ≤ ((c ||| 32 : Nat) : Int) := by omega
          simp only [W_seq]
          refine W_chkIn [.bool false] (by simp [i97]) ?_
          simp only [W_seq]
          refine W_no (by simp [i97]) ?_
          simp only [W_clr, W_seq, W_set]
          refine ok_intro (.bool false) (by simp [i97]) ?_
          refine W_no (by simp) ?_
          simp
          have hh : hexDig c = none := by unfold hexDig; rw [if_neg hd, if_neg (by omega)]
          exact hfail w3 0 (hk2.trans hk3) hh
    · rintro env w3 ⟨hk3, d, x7, x8, x9, x10, x11, x12, rfl, hd, hh⟩
      have e8 : IntKind.u8.wrap 16 = 16 := by decide +kernel
      have e6 : IntKind.u64.wrap 16 = 16 := by decide +kernel
      simp only [W_seq]
      by_cases h16 : d < 16
      · rw [if_pos h16] at hh
        refine W_no (by simp [e8]; omega) ?_
        simp only [W_seq, W_skip]
        refine W_no (by simp; omega) ?_
        simp only [W_seq, W_skip, W_set]
        have m1 : IntKind.u64.wrap ((a : Int) * 16) = ((a * 16 : Nat) : Int) := by rw [u64w (by omega) (by omega)]; omega
        have m2 : IntKind.u64.wrap (((a * 16 : Nat) : Int) + IntKind.u64.wrap (d : Int)) = ((a * 16 + d : Nat) : Int) := by rw [u64w (n := (d : Int)) (by omega) (by omega), u64w (by omega) (by omega)]; omega
        refine ok_intro (.int .u64 ((a * 16 : Nat) : Int)) (by simp [e6, m1, -Int.natCast_mul]) ?_
        refine ok_intro (.int .u64 ((a * 16 + d : Nat) : Int)) (by simp [m2, -Int.natCast_mul, -Int.natCast_add]) ?_
        by_cases hov : 65535 < a * 16 + d
        · refine W_yes (by simp [-Int.natCast_mul, -Int.natCast_add]; right; omega) ?_
          simp
          refine ⟨?_, hk1.trans hk3⟩
          rw [hp]; unfold p16; rw [hh]; simp only [hov, if_true]; rfl
        · refine W_no (by simp [-Int.natCast_mul, -Int.natCast_add]; omega) ?_
          have e2 : IntKind.i64.wrap ((i : Int) + 1) = ((i + 1 : Nat) : Int) := i64w (by omega) (by omega)
          simp [-Int.natCast_mul, -Int.natCast_add, e2]
          refine ⟨⟨hk3, i + 1, a * 16 + d, ⟨rfl, rfl⟩, by omega, by omega, ?_⟩, by simp [natAt]; omega⟩
          rw [hp, p16, hh]; simp only [hov, if_false]
      · rw [if_neg h16] at hh
        refine W_yes (by simp [e8]; omega) ?_
        simp
        refine ⟨?_, hk1.trans hk3⟩
        rw [hp]; unfold p16; rw [hh]; rfl
  · have hil : i = l.length := by omega
    subst hil
    simp
    refine W_no (by simp) ?_
    simp
    refine W_no (by simp) ?_
    simp [hp, p16]
    exact ⟨rfl, hk1.trans hk2⟩
end Go.Proofs.YtaaicadjoghbcaaDoor
