/- TipstaffCounts: the walk (mktcs.py). -/
import Derived.Test.YtmpgfgemnhbkhaaGreatDoorXtcr0
import Derived.Test.YtmpgfgemnhbkhaaGreatDoorXtcr1
import Derived.Test.YtmpgfgemnhbkhaaGreatDoorXtcr2
import Derived.Test.YtmpgfgemnhbkhaaGreatDoorXtcr3
set_option maxRecDepth 100000
set_option linter.unusedVariables false
namespace Go.Proofs.YtmpgfgemnhbkhaaGreatDoor
open Go Go.Eng
def itemC : Nat → Cmd → Cmd
  | 0, .seq a _ => a
  | n + 1, .seq _ b => itemC n b
  | _, c => c
def fstC : Cmd → Cmd
  | .seq a _ => a
  | c => c
def secC : Cmd → Cmd
  | .seq _ b => b
  | c => c
def inC : Cmd → Cmd
  | .block _ a => a
  | .loop _ a => a
  | c => c
def tcC0 : Cmd := cutP 6 cm4
def tcC1 : Cmd := itemC 6 cm4
def tcC2 : Cmd := fstC (itemC 7 cm4)
def tcC3 : Cmd := secC (inC (inC (secC (itemC 7 cm4))))
def tcC4 : Cmd := cutD 8 cm4
theorem tc_cut : cutD 6 cm4 = .seq tcC1 (.seq (.seq tcC2 (.block 0 (.loop [0, 1, 9, 15, 19, 20] (.seq (.cond (.op2 (.bin .leq) (.var 20) (.var 19)) .skip (.exit 0)) tcC3)))) tcC4) := by kernel_rfl
theorem tc_x0 : toX Tryz.prog 2 377 tcC0 = some tcX0 := by kernel_rfl
theorem tc_x1 : toX Tryz.prog 2 377 tcC1 = some tcX1 := by kernel_rfl
theorem tc_x2 : toX Tryz.prog 2 377 tcC2 = some tcX2 := by kernel_rfl
theorem tc_x3 : toX Tryz.prog 2 377 tcC3 = some tcX3 := by kernel_rfl
theorem tc_x4 : toX Tryz.prog 2 377 tcC4 = some tcX4 := by kernel_rfl
theorem tc_round (a b : Int) (p : Nat → Int) (h : tco.H a b p) : ∀ i, i < 19 → endsN 2 .normal (tcS (i + 1) (.chan (some 4))) (tcR (tco.sy a b p h) tcX3 (tcS i (.chan (some 4)))) = true
  | 0, _ => tc_r0 a b p h
  | 1, _ => tc_r1 a b p h
  | 2, _ => tc_r2 a b p h
  | 3, _ => tc_r3 a b p h
  | 4, _ => tc_r4 a b p h
  | 5, _ => tc_r5 a b p h
  | 6, _ => tc_r6 a b p h
  | 7, _ => tc_r7 a b p h
  | 8, _ => tc_r8 a b p h
  | 9, _ => tc_r9 a b p h
  | 10, _ => tc_r10 a b p h
  | 11, _ => tc_r11 a b p h
  | 12, _ => tc_r12 a b p h
  | 13, _ => tc_r13 a b p h
  | 14, _ => tc_r14 a b p h
  | 15, _ => tc_r15 a b p h
  | 16, _ => tc_r16 a b p h
  | 17, _ => tc_r17 a b p h
  | 18, _ => tc_r18 a b p h
  | _ + 19, h => by omega
theorem tc_leq {env : Env} {w : World} {i k : Nat} (h20 : env[20]? = some (.int .i64 (.ofNat i))) (h19 : env[19]? = some (.int .i64 (.ofNat k))) : Ex.ev env w (.op2 (.bin .leq) (.var 20) (.var 19)) = some (.bool (decide (i ≤ k))) := by
  have e1 : Ex.ev env w (.var 20) = some (.int .i64 (.ofNat i)) := by show (env[20]?).bind varV = _; rw [h20]; rfl
  have e2 : Ex.ev env w (.var 19) = some (.int .i64 (.ofNat k)) := by show (env[19]?).bind varV = _; rw [h19]; rfl
  show ((Ex.ev env w (.var 20)).bind fun u => (Ex.ev env w (.var 19)).bind fun v => U2.ap (.bin .leq) u v) = _
  rw [e1, e2]
  show some (Value.bool (decide ((Int.ofNat i) ≤ (Int.ofNat k)))) = _
  congr 2
  exact decide_eq_decide.2 Int.ofNat_le
theorem wp_sq {P : Program} {a b : Cmd} {Q : Exit → Env → World → Prop} {env : Env} {w : World} (h : a.wp P (thenTo (b.wp P Q) Q) env w) : (Cmd.seq a b).wp P Q env w := h
/-- The walk, where k is a, and the fuel b. -/
theorem tc_main (a : Nat) (ha : a < 20) (b : Int) (p : Nat → Int) (h : tco.H (.ofNat a) b p) (hk : endsN 2 .normal (tcQ (.int .i64 (.ofNat a))) (tcR (tco.sy (.ofNat a) b p h) tcX1 tcP) = true)
    (he : endsV [.var 2] (.bool true) (tcR (tco.sy (.ofNat a) b p h) tcX4 (tcS a (.int .i64 (.ofNat a)))) = true) (w : World) (hb : Begin 2 hG w) : Ret Tryz.prog 4 [.int .i64 (p 0), .int .i64 (p 1)] w fun v w' => v = .bool true ∧ Kept none' w w' := by
  letI S : Sy := tco.sy (.ofNat a) b p h
  have ht := xtabS_ok w hb
  have hR := xcall_ok (wE := w) add_ok ht 400
  have snd := fun c x (hx : toX Tryz.prog 2 377 c = some x) => toX_snd add_ok ht.fun hR c x hx
  refine ret_of_cmd Tryz.func4 (Nat.le_of_ble_eq_true (by kernel_rfl)) cmp_4 ?_
  refine wp_pre 6 cm4 (Cmd.wp_mono tcC0 (fun y e u hp => ?_) (stretchN (snd tcC0 tcX0 tc_x0) (tc_pre (.ofNat a) b p h) (AtS.begin hb trivial (vs := [.chan (some 0), .chan (some 1)]) (vs' := [.int .i64 (p 0), .int .i64 (p 1)]) ⟨.inl ⟨rfl, rfl⟩, .inl ⟨rfl, rfl⟩, trivial⟩ xf4.V)))
  obtain ⟨rfl, h1⟩ := hp
  show (cutD 6 cm4).wp Tryz.prog _ e u
  rw [tc_cut]
  refine Cmd.wp_mono tcC1 (fun y e u hp => ?_) (stretchN (snd tcC1 tcX1 tc_x1) hk h1)
  obtain ⟨rfl, h2⟩ := hp
  have h3 : AtS 2 w (tcQ (.chan (some 4))) e u := h2.put (i := 19) (x := .chan (some 4)) rfl rfl rfl rfl
  refine wp_sq (wp_sq (Cmd.wp_mono tcC2 (fun y e u hp => ?_) (stretchN (snd tcC2 tcX2 tc_x2) (tc_one (.ofNat a) b p h) h3)))
  obtain ⟨rfl, h4⟩ := hp
  show Cmd.wp Tryz.prog (.loop [0, 1, 9, 15, 19, 20] (.seq (.cond (.op2 (.bin .leq) (.var 20) (.var 19)) .skip (.exit 0)) tcC3)) _ e u
  refine wp_rounds (fun i e u => AtS 2 w (tcS i (.chan (some 4))) e u) a (h4.mask (by kernel_rfl)) (fun i hi e u hat => ?_) (fun e u hat => ?_)
  · have q20 := hat.slot (i := 20) (u := .int .i64 (.ofNat (i + 1))) rfl rfl
    have q19 := hat.slot (i := 19) (u := .chan (some 4)) rfl rfl
    show Ok (Ex.ev e u (.op2 (.bin .leq) (.var 20) (.var 19))) _
    rw [tc_leq q20 q19, Ok_some, decide_eq_true (show i + 1 ≤ a from hi)]
    refine Cmd.wp_mono tcC3 (fun y e u hp => ?_) (stretchN (snd tcC3 tcX3 tc_x3) (tc_round (.ofNat a) b p h i (by omega)) hat)
    obtain ⟨rfl, h5⟩ := hp
    exact h5.mask (by kernel_rfl)
  · have q20 := hat.slot (i := 20) (u := .int .i64 (.ofNat (a + 1))) rfl rfl
    have q19 := hat.slot (i := 19) (u := .chan (some 4)) rfl rfl
    show Ok (Ex.ev e u (.op2 (.bin .leq) (.var 20) (.var 19))) _
    rw [tc_leq q20 q19, Ok_some, decide_eq_false (show ¬ (a + 1 ≤ a) by omega)]
    have h5 : AtS 2 w (tcS a (.int .i64 (.ofNat a))) e u := hat.put (i := 19) (x := .int .i64 (.ofNat a)) rfl rfl rfl rfl
    refine Cmd.wp_mono tcC4 (fun y e u hp => ?_) (stretchV (snd tcC4 tcX4 tc_x4) (rs := [.var 2]) (by kernel_rfl) rfl he h5)
    obtain ⟨rfl, h6⟩ := hp
    exact h6
theorem tco_ret0 (x0 x1 : Int) (hr0 : -9223372036854775808 ≤ x0 ∧ x0 ≤ 9223372036854775807) (hr1 : -9223372036854775808 ≤ x1 ∧ x1 ≤ 9223372036854775807) (hc0 : (x0 % 18446744073709551616) % 20 = 0) (w : World) (hb : Begin 2 hG w) : Ret Tryz.prog 4 [.int .i64 x0, .int .i64 x1] w fun v w' => v = .bool true ∧ Kept none' w w' := by
  have h0 := Int.emod_nonneg (x1 % 18446744073709551616) (show (12 : Int) ≠ 0 by decide)
  have h1 := Int.emod_lt_of_pos (x1 % 18446744073709551616) (show (0 : Int) < 12 by decide)
  rcases (by omega : (x1 % 18446744073709551616) % 12 = 0 ∨ (x1 % 18446744073709551616) % 12 = 1 ∨ (x1 % 18446744073709551616) % 12 = 2 ∨ (x1 % 18446744073709551616) % 12 = 3 ∨ (x1 % 18446744073709551616) % 12 = 4 ∨ (x1 % 18446744073709551616) % 12 = 5 ∨ (x1 % 18446744073709551616) % 12 = 6 ∨ (x1 % 18446744073709551616) % 12 = 7 ∨ (x1 % 18446744073709551616) % 12 = 8 ∨ (x1 % 18446744073709551616) % 12 = 9 ∨ (x1 % 18446744073709551616) % 12 = 10 ∨ (x1 % 18446744073709551616) % 12 = 11) with hc1 | hc1 | hc1 | hc1 | hc1 | hc1 | hc1 | hc1 | hc1 | hc1 | hc1 | hc1
  · exact tc_main 0 (by decide) 0 (fun i => match i with | 0 => x0 | _ => x1) ⟨hr0, hr1, hc0, hc1⟩ (tc_k0 0 _ _) (tc_e0_0 _ _) w hb
  · exact tc_main 0 (by decide) 1 (fun i => match i with | 0 => x0 | _ => x1) ⟨hr0, hr1, hc0, hc1⟩ (tc_k0 1 _ _) (tc_e0_1 _ _) w hb
  · exact tc_main 0 (by decide) 2 (fun i => match i with | 0 => x0 | _ => x1) ⟨hr0, hr1, hc0, hc1⟩ (tc_k0 2 _ _) (tc_e0_2 _ _) w hb
  · exact tc_main 0 (by decide) 3 (fun i => match i with | 0 => x0 | _ => x1) ⟨hr0, hr1, hc0, hc1⟩ (tc_k0 3 _ _) (tc_e0_3 _ _) w hb
  · exact tc_main 0 (by decide) 4 (fun i => match i with | 0 => x0 | _ => x1) ⟨hr0, hr1, hc0, hc1⟩ (tc_k0 4 _ _) (tc_e0_4 _ _) w hb
  · exact tc_main 0 (by decide) 5 (fun i => match i with | 0 => x0 | _ => x1) ⟨hr0, hr1, hc0, hc1⟩ (tc_k0 5 _ _) (tc_e0_5 _ _) w hb
  · exact tc_main 0 (by decide) 6 (fun i => match i with | 0 => x0 | _ => x1) ⟨hr0, hr1, hc0, hc1⟩ (tc_k0 6 _ _) (tc_e0_6 _ _) w hb
  · exact tc_main 0 (by decide) 7 (fun i => match i with | 0 => x0 | _ => x1) ⟨hr0, hr1, hc0, hc1⟩ (tc_k0 7 _ _) (tc_e0_7 _ _) w hb
  · exact tc_main 0 (by decide) 8 (fun i => match i with | 0 => x0 | _ => x1) ⟨hr0, hr1, hc0, hc1⟩ (tc_k0 8 _ _) (tc_e0_8 _ _) w hb
  · exact tc_main 0 (by decide) 9 (fun i => match i with | 0 => x0 | _ => x1) ⟨hr0, hr1, hc0, hc1⟩ (tc_k0 9 _ _) (tc_e0_9 _ _) w hb
  · exact tc_main 0 (by decide) 10 (fun i => match i with | 0 => x0 | _ => x1) ⟨hr0, hr1, hc0, hc1⟩ (tc_k0 10 _ _) (tc_e0_10 _ _) w hb
  · exact tc_main 0 (by decide) 11 (fun i => match i with | 0 => x0 | _ => x1) ⟨hr0, hr1, hc0, hc1⟩ (tc_k0 11 _ _) (tc_e0_11 _ _) w hb
theorem tco_ret1 (x0 x1 : Int) (hr0 : -9223372036854775808 ≤ x0 ∧ x0 ≤ 9223372036854775807) (hr1 : -9223372036854775808 ≤ x1 ∧ x1 ≤ 9223372036854775807) (hc0 : (x0 % 18446744073709551616) % 20 = 1) (w : World) (hb : Begin 2 hG w) : Ret Tryz.prog 4 [.int .i64 x0, .int .i64 x1] w fun v w' => v = .bool true ∧ Kept none' w w' := by
  have h0 := Int.emod_nonneg (x1 % 18446744073709551616) (show (12 : Int) ≠ 0 by decide)
  have h1 := Int.emod_lt_of_pos (x1 % 18446744073709551616) (show (0 : Int) < 12 by decide)
  rcases (by omega : (x1 % 18446744073709551616) % 12 = 0 ∨ (x1 % 18446744073709551616) % 12 = 1 ∨ (x1 % 18446744073709551616) % 12 = 2 ∨ (x1 % 18446744073709551616) % 12 = 3 ∨ (x1 % 18446744073709551616) % 12 = 4 ∨ (x1 % 18446744073709551616) % 12 = 5 ∨ (x1 % 18446744073709551616) % 12 = 6 ∨ (x1 % 18446744073709551616) % 12 = 7 ∨ (x1 % 18446744073709551616) % 12 = 8 ∨ (x1 % 18446744073709551616) % 12 = 9 ∨ (x1 % 18446744073709551616) % 12 = 10 ∨ (x1 % 18446744073709551616) % 12 = 11) with hc1 | hc1 | hc1 | hc1 | hc1 | hc1 | hc1 | hc1 | hc1 | hc1 | hc1 | hc1
  · exact tc_main 1 (by decide) 0 (fun i => match i with | 0 => x0 | _ => x1) ⟨hr0, hr1, hc0, hc1⟩ (tc_k1 0 _ _) (tc_e1_0 _ _) w hb
  · exact tc_main 1 (by decide) 1 (fun i => match i with | 0 => x0 | _ => x1) ⟨hr0, hr1, hc0, hc1⟩ (tc_k1 1 _ _) (tc_e1_1 _ _) w hb
  · exact tc_main 1 (by decide) 2 (fun i => match i with | 0 => x0 | _ => x1) ⟨hr0, hr1, hc0, hc1⟩ (tc_k1 2 _ _) (tc_e1_2 _ _) w hb
  · exact tc_main 1 (by decide) 3 (fun i => match i with | 0 => x0 | _ => x1) ⟨hr0, hr1, hc0, hc1⟩ (tc_k1 3 _ _) (tc_e1_3 _ _) w hb
  · exact tc_main 1 (by decide) 4 (fun i => match i with | 0 => x0 | _ => x1) ⟨hr0, hr1, hc0, hc1⟩ (tc_k1 4 _ _) (tc_e1_4 _ _) w hb
  · exact tc_main 1 (by decide) 5 (fun i => match i with | 0 => x0 | _ => x1) ⟨hr0, hr1, hc0, hc1⟩ (tc_k1 5 _ _) (tc_e1_5 _ _) w hb
  · exact tc_main 1 (by decide) 6 (fun i => match i with | 0 => x0 | _ => x1) ⟨hr0, hr1, hc0, hc1⟩ (tc_k1 6 _ _) (tc_e1_6 _ _) w hb
  · exact tc_main 1 (by decide) 7 (fun i => match i with | 0 => x0 | _ => x1) ⟨hr0, hr1, hc0, hc1⟩ (tc_k1 7 _ _) (tc_e1_7 _ _) w hb
  · exact tc_main 1 (by decide) 8 (fun i => match i with | 0 => x0 | _ => x1) ⟨hr0, hr1, hc0, hc1⟩ (tc_k1 8 _ _) (tc_e1_8 _ _) w hb
  · exact tc_main 1 (by decide) 9 (fun i => match i with | 0 => x0 | _ => x1) ⟨hr0, hr1, hc0, hc1⟩ (tc_k1 9 _ _) (tc_e1_9 _ _) w hb
  · exact tc_main 1 (by decide) 10 (fun i => match i with | 0 => x0 | _ => x1) ⟨hr0, hr1, hc0, hc1⟩ (tc_k1 10 _ _) (tc_e1_10 _ _) w hb
  · exact tc_main 1 (by decide) 11 (fun i => match i with | 0 => x0 | _ => x1) ⟨hr0, hr1, hc0, hc1⟩ (tc_k1 11 _ _) (tc_e1_11 _ _) w hb
theorem tco_ret2 (x0 x1 : Int) (hr0 : -9223372036854775808 ≤ x0 ∧ x0 ≤ 9223372036854775807) (hr1 : -9223372036854775808 ≤ x1 ∧ x1 ≤ 9223372036854775807) (hc0 : (x0 % 18446744073709551616) % 20 = 2) (w : World) (hb : Begin 2 hG w) : Ret Tryz.prog 4 [.int .i64 x0, .int .i64 x1] w fun v w' => v = .bool true ∧ Kept none' w w' := by
  have h0 := Int.emod_nonneg (x1 % 18446744073709551616) (show (12 : Int) ≠ 0 by decide)
  have h1 := Int.emod_lt_of_pos (x1 % 18446744073709551616) (show (0 : Int) < 12 by decide)
  rcases (by omega : (x1 % 18446744073709551616) % 12 = 0 ∨ (x1 % 18446744073709551616) % 12 = 1 ∨ (x1 % 18446744073709551616) % 12 = 2 ∨ (x1 % 18446744073709551616) % 12 = 3 ∨ (x1 % 18446744073709551616) % 12 = 4 ∨ (x1 % 18446744073709551616) % 12 = 5 ∨ (x1 % 18446744073709551616) % 12 = 6 ∨ (x1 % 18446744073709551616) % 12 = 7 ∨ (x1 % 18446744073709551616) % 12 = 8 ∨ (x1 % 18446744073709551616) % 12 = 9 ∨ (x1 % 18446744073709551616) % 12 = 10 ∨ (x1 % 18446744073709551616) % 12 = 11) with hc1 | hc1 | hc1 | hc1 | hc1 | hc1 | hc1 | hc1 | hc1 | hc1 | hc1 | hc1
  · exact tc_main 2 (by decide) 0 (fun i => match i with | 0 => x0 | _ => x1) ⟨hr0, hr1, hc0, hc1⟩ (tc_k2 0 _ _) (tc_e2_0 _ _) w hb
  · exact tc_main 2 (by decide) 1 (fun i => match i with | 0 => x0 | _ => x1) ⟨hr0, hr1, hc0, hc1⟩ (tc_k2 1 _ _) (tc_e2_1 _ _) w hb
  · exact tc_main 2 (by decide) 2 (fun i => match i with | 0 => x0 | _ => x1) ⟨hr0, hr1, hc0, hc1⟩ (tc_k2 2 _ _) (tc_e2_2 _ _) w hb
  · exact tc_main 2 (by decide) 3 (fun i => match i with | 0 => x0 | _ => x1) ⟨hr0, hr1, hc0, hc1⟩ (tc_k2 3 _ _) (tc_e2_3 _ _) w hb
  · exact tc_main 2 (by decide) 4 (fun i => match i with | 0 => x0 | _ => x1) ⟨hr0, hr1, hc0, hc1⟩ (tc_k2 4 _ _) (tc_e2_4 _ _) w hb
  · exact tc_main 2 (by decide) 5 (fun i => match i with | 0 => x0 | _ => x1) ⟨hr0, hr1, hc0, hc1⟩ (tc_k2 5 _ _) (tc_e2_5 _ _) w hb
  · exact tc_main 2 (by decide) 6 (fun i => match i with | 0 => x0 | _ => x1) ⟨hr0, hr1, hc0, hc1⟩ (tc_k2 6 _ _) (tc_e2_6 _ _) w hb
  · exact tc_main 2 (by decide) 7 (fun i => match i with | 0 => x0 | _ => x1) ⟨hr0, hr1, hc0, hc1⟩ (tc_k2 7 _ _) (tc_e2_7 _ _) w hb
  · exact tc_main 2 (by decide) 8 (fun i => match i with | 0 => x0 | _ => x1) ⟨hr0, hr1, hc0, hc1⟩ (tc_k2 8 _ _) (tc_e2_8 _ _) w hb
  · exact tc_main 2 (by decide) 9 (fun i => match i with | 0 => x0 | _ => x1) ⟨hr0, hr1, hc0, hc1⟩ (tc_k2 9 _ _) (tc_e2_9 _ _) w hb
  · exact tc_main 2 (by decide) 10 (fun i => match i with | 0 => x0 | _ => x1) ⟨hr0, hr1, hc0, hc1⟩ (tc_k2 10 _ _) (tc_e2_10 _ _) w hb
  · exact tc_main 2 (by decide) 11 (fun i => match i with | 0 => x0 | _ => x1) ⟨hr0, hr1, hc0, hc1⟩ (tc_k2 11 _ _) (tc_e2_11 _ _) w hb
theorem tco_ret3 (x0 x1 : Int) (hr0 : -9223372036854775808 ≤ x0 ∧ x0 ≤ 9223372036854775807) (hr1 : -9223372036854775808 ≤ x1 ∧ x1 ≤ 9223372036854775807) (hc0 : (x0 % 18446744073709551616) % 20 = 3) (w : World) (hb : Begin 2 hG w) : Ret Tryz.prog 4 [.int .i64 x0, .int .i64 x1] w fun v w' => v = .bool true ∧ Kept none' w w' := by
  have h0 := Int.emod_nonneg (x1 % 18446744073709551616) (show (12 : Int) ≠ 0 by decide)
  have h1 := Int.emod_lt_of_pos (x1 % 18446744073709551616) (show (0 : Int) < 12 by decide)
  rcases (by omega : (x1 % 18446744073709551616) % 12 = 0 ∨ (x1 % 18446744073709551616) % 12 = 1 ∨ (x1 % 18446744073709551616) % 12 = 2 ∨ (x1 % 18446744073709551616) % 12 = 3 ∨ (x1 % 18446744073709551616) % 12 = 4 ∨ (x1 % 18446744073709551616) % 12 = 5 ∨ (x1 % 18446744073709551616) % 12 = 6 ∨ (x1 % 18446744073709551616) % 12 = 7 ∨ (x1 % 18446744073709551616) % 12 = 8 ∨ (x1 % 18446744073709551616) % 12 = 9 ∨ (x1 % 18446744073709551616) % 12 = 10 ∨ (x1 % 18446744073709551616) % 12 = 11) with hc1 | hc1 | hc1 | hc1 | hc1 | hc1 | hc1 | hc1 | hc1 | hc1 | hc1 | hc1
  · exact tc_main 3 (by decide) 0 (fun i => match i with | 0 => x0 | _ => x1) ⟨hr0, hr1, hc0, hc1⟩ (tc_k3 0 _ _) (tc_e3_0 _ _) w hb
  · exact tc_main 3 (by decide) 1 (fun i => match i with | 0 => x0 | _ => x1) ⟨hr0, hr1, hc0, hc1⟩ (tc_k3 1 _ _) (tc_e3_1 _ _) w hb
  · exact tc_main 3 (by decide) 2 (fun i => match i with | 0 => x0 | _ => x1) ⟨hr0, hr1, hc0, hc1⟩ (tc_k3 2 _ _) (tc_e3_2 _ _) w hb
  · exact tc_main 3 (by decide) 3 (fun i => match i with | 0 => x0 | _ => x1) ⟨hr0, hr1, hc0, hc1⟩ (tc_k3 3 _ _) (tc_e3_3 _ _) w hb
  · exact tc_main 3 (by decide) 4 (fun i => match i with | 0 => x0 | _ => x1) ⟨hr0, hr1, hc0, hc1⟩ (tc_k3 4 _ _) (tc_e3_4 _ _) w hb
  · exact tc_main 3 (by decide) 5 (fun i => match i with | 0 => x0 | _ => x1) ⟨hr0, hr1, hc0, hc1⟩ (tc_k3 5 _ _) (tc_e3_5 _ _) w hb
  · exact tc_main 3 (by decide) 6 (fun i => match i with | 0 => x0 | _ => x1) ⟨hr0, hr1, hc0, hc1⟩ (tc_k3 6 _ _) (tc_e3_6 _ _) w hb
  · exact tc_main 3 (by decide) 7 (fun i => match i with | 0 => x0 | _ => x1) ⟨hr0, hr1, hc0, hc1⟩ (tc_k3 7 _ _) (tc_e3_7 _ _) w hb
  · exact tc_main 3 (by decide) 8 (fun i => match i with | 0 => x0 | _ => x1) ⟨hr0, hr1, hc0, hc1⟩ (tc_k3 8 _ _) (tc_e3_8 _ _) w hb
  · exact tc_main 3 (by decide) 9 (fun i => match i with | 0 => x0 | _ => x1) ⟨hr0, hr1, hc0, hc1⟩ (tc_k3 9 _ _) (tc_e3_9 _ _) w hb
  · exact tc_main 3 (by decide) 10 (fun i => match i with | 0 => x0 | _ => x1) ⟨hr0, hr1, hc0, hc1⟩ (tc_k3 10 _ _) (tc_e3_10 _ _) w hb
  · exact tc_main 3 (by decide) 11 (fun i => match i with | 0 => x0 | _ => x1) ⟨hr0, hr1, hc0, hc1⟩ (tc_k3 11 _ _) (tc_e3_11 _ _) w hb
theorem tco_ret4 (x0 x1 : Int) (hr0 : -9223372036854775808 ≤ x0 ∧ x0 ≤ 9223372036854775807) (hr1 : -9223372036854775808 ≤ x1 ∧ x1 ≤ 9223372036854775807) (hc0 : (x0 % 18446744073709551616) % 20 = 4) (w : World) (hb : Begin 2 hG w) : Ret Tryz.prog 4 [.int .i64 x0, .int .i64 x1] w fun v w' => v = .bool true ∧ Kept none' w w' := by
  have h0 := Int.emod_nonneg (x1 % 18446744073709551616) (show (12 : Int) ≠ 0 by decide)
  have h1 := Int.emod_lt_of_pos (x1 % 18446744073709551616) (show (0 : Int) < 12 by decide)
  rcases (by omega : (x1 % 18446744073709551616) % 12 = 0 ∨ (x1 % 18446744073709551616) % 12 = 1 ∨ (x1 % 18446744073709551616) % 12 = 2 ∨ (x1 % 18446744073709551616) % 12 = 3 ∨ (x1 % 18446744073709551616) % 12 = 4 ∨ (x1 % 18446744073709551616) % 12 = 5 ∨ (x1 % 18446744073709551616) % 12 = 6 ∨ (x1 % 18446744073709551616) % 12 = 7 ∨ (x1 % 18446744073709551616) % 12 = 8 ∨ (x1 % 18446744073709551616) % 12 = 9 ∨ (x1 % 18446744073709551616) % 12 = 10 ∨ (x1 % 18446744073709551616) % 12 = 11) with hc1 | hc1 | hc1 | hc1 | hc1 | hc1 | hc1 | hc1 | hc1 | hc1 | hc1 | hc1
  · exact tc_main 4 (by decide) 0 (fun i => match i with | 0 => x0 | _ => x1) ⟨hr0, hr1, hc0, hc1⟩ (tc_k4 0 _ _) (tc_e4_0 _ _) w hb
  · exact tc_main 4 (by decide) 1 (fun i => match i with | 0 => x0 | _ => x1) ⟨hr0, hr1, hc0, hc1⟩ (tc_k4 1 _ _) (tc_e4_1 _ _) w hb
  · exact tc_main 4 (by decide) 2 (fun i => match i with | 0 => x0 | _ => x1) ⟨hr0, hr1, hc0, hc1⟩ (tc_k4 2 _ _) (tc_e4_2 _ _) w hb
  · exact tc_main 4 (by decide) 3 (fun i => match i with | 0 => x0 | _ => x1) ⟨hr0, hr1, hc0, hc1⟩ (tc_k4 3 _ _) (tc_e4_3 _ _) w hb
  · exact tc_main 4 (by decide) 4 (fun i => match i with | 0 => x0 | _ => x1) ⟨hr0, hr1, hc0, hc1⟩ (tc_k4 4 _ _) (tc_e4_4 _ _) w hb
  · exact tc_main 4 (by decide) 5 (fun i => match i with | 0 => x0 | _ => x1) ⟨hr0, hr1, hc0, hc1⟩ (tc_k4 5 _ _) (tc_e4_5 _ _) w hb
  · exact tc_main 4 (by decide) 6 (fun i => match i with | 0 => x0 | _ => x1) ⟨hr0, hr1, hc0, hc1⟩ (tc_k4 6 _ _) (tc_e4_6 _ _) w hb
  · exact tc_main 4 (by decide) 7 (fun i => match i with | 0 => x0 | _ => x1) ⟨hr0, hr1, hc0, hc1⟩ (tc_k4 7 _ _) (tc_e4_7 _ _) w hb
  · exact tc_main 4 (by decide) 8 (fun i => match i with | 0 => x0 | _ => x1) ⟨hr0, hr1, hc0, hc1⟩ (tc_k4 8 _ _) (tc_e4_8 _ _) w hb
  · exact tc_main 4 (by decide) 9 (fun i => match i with | 0 => x0 | _ => x1) ⟨hr0, hr1, hc0, hc1⟩ (tc_k4 9 _ _) (tc_e4_9 _ _) w hb
  · exact tc_main 4 (by decide) 10 (fun i => match i with | 0 => x0 | _ => x1) ⟨hr0, hr1, hc0, hc1⟩ (tc_k4 10 _ _) (tc_e4_10 _ _) w hb
  · exact tc_main 4 (by decide) 11 (fun i => match i with | 0 => x0 | _ => x1) ⟨hr0, hr1, hc0, hc1⟩ (tc_k4 11 _ _) (tc_e4_11 _ _) w hb
theorem tco_ret5 (x0 x1 : Int) (hr0 : -9223372036854775808 ≤ x0 ∧ x0 ≤ 9223372036854775807) (hr1 : -9223372036854775808 ≤ x1 ∧ x1 ≤ 9223372036854775807) (hc0 : (x0 % 18446744073709551616) % 20 = 5) (w : World) (hb : Begin 2 hG w) : Ret Tryz.prog 4 [.int .i64 x0, .int .i64 x1] w fun v w' => v = .bool true ∧ Kept none' w w' := by
  have h0 := Int.emod_nonneg (x1 % 18446744073709551616) (show (12 : Int) ≠ 0 by decide)
  have h1 := Int.emod_lt_of_pos (x1 % 18446744073709551616) (show (0 : Int) < 12 by decide)
  rcases (by omega : (x1 % 18446744073709551616) % 12 = 0 ∨ (x1 % 18446744073709551616) % 12 = 1 ∨ (x1 % 18446744073709551616) % 12 = 2 ∨ (x1 % 18446744073709551616) % 12 = 3 ∨ (x1 % 18446744073709551616) % 12 = 4 ∨ (x1 % 18446744073709551616) % 12 = 5 ∨ (x1 % 18446744073709551616) % 12 = 6 ∨ (x1 % 18446744073709551616) % 12 = 7 ∨ (x1 % 18446744073709551616) % 12 = 8 ∨ (x1 % 18446744073709551616) % 12 = 9 ∨ (x1 % 18446744073709551616) % 12 = 10 ∨ (x1 % 18446744073709551616) % 12 = 11) with hc1 | hc1 | hc1 | hc1 | hc1 | hc1 | hc1 | hc1 | hc1 | hc1 | hc1 | hc1
  · exact tc_main 5 (by decide) 0 (fun i => match i with | 0 => x0 | _ => x1) ⟨hr0, hr1, hc0, hc1⟩ (tc_k5 0 _ _) (tc_e5_0 _ _) w hb
  · exact tc_main 5 (by decide) 1 (fun i => match i with | 0 => x0 | _ => x1) ⟨hr0, hr1, hc0, hc1⟩ (tc_k5 1 _ _) (tc_e5_1 _ _) w hb
  · exact tc_main 5 (by decide) 2 (fun i => match i with | 0 => x0 | _ => x1) ⟨hr0, hr1, hc0, hc1⟩ (tc_k5 2 _ _) (tc_e5_2 _ _) w hb
  · exact tc_main 5 (by decide) 3 (fun i => match i with | 0 => x0 | _ => x1) ⟨hr0, hr1, hc0, hc1⟩ (tc_k5 3 _ _) (tc_e5_3 _ _) w hb
  · exact tc_main 5 (by decide) 4 (fun i => match i with | 0 => x0 | _ => x1) ⟨hr0, hr1, hc0, hc1⟩ (tc_k5 4 _ _) (tc_e5_4 _ _) w hb
  · exact tc_main 5 (by decide) 5 (fun i => match i with | 0 => x0 | _ => x1) ⟨hr0, hr1, hc0, hc1⟩ (tc_k5 5 _ _) (tc_e5_5 _ _) w hb
  · exact tc_main 5 (by decide) 6 (fun i => match i with | 0 => x0 | _ => x1) ⟨hr0, hr1, hc0, hc1⟩ (tc_k5 6 _ _) (tc_e5_6 _ _) w hb
  · exact tc_main 5 (by decide) 7 (fun i => match i with | 0 => x0 | _ => x1) ⟨hr0, hr1, hc0, hc1⟩ (tc_k5 7 _ _) (tc_e5_7 _ _) w hb
  · exact tc_main 5 (by decide) 8 (fun i => match i with | 0 => x0 | _ => x1) ⟨hr0, hr1, hc0, hc1⟩ (tc_k5 8 _ _) (tc_e5_8 _ _) w hb
  · exact tc_main 5 (by decide) 9 (fun i => match i with | 0 => x0 | _ => x1) ⟨hr0, hr1, hc0, hc1⟩ (tc_k5 9 _ _) (tc_e5_9 _ _) w hb
  · exact tc_main 5 (by decide) 10 (fun i => match i with | 0 => x0 | _ => x1) ⟨hr0, hr1, hc0, hc1⟩ (tc_k5 10 _ _) (tc_e5_10 _ _) w hb
  · exact tc_main 5 (by decide) 11 (fun i => match i with | 0 => x0 | _ => x1) ⟨hr0, hr1, hc0, hc1⟩ (tc_k5 11 _ _) (tc_e5_11 _ _) w hb
theorem tco_ret6 (x0 x1 : Int) (hr0 : -9223372036854775808 ≤ x0 ∧ x0 ≤ 9223372036854775807) (hr1 : -9223372036854775808 ≤ x1 ∧ x1 ≤ 9223372036854775807) (hc0 : (x0 % 18446744073709551616) % 20 = 6) (w : World) (hb : Begin 2 hG w) : Ret Tryz.prog 4 [.int .i64 x0, .int .i64 x1] w fun v w' => v = .bool true ∧ Kept none' w w' := by
  have h0 := Int.emod_nonneg (x1 % 18446744073709551616) (show (12 : Int) ≠ 0 by decide)
  have h1 := Int.emod_lt_of_pos (x1 % 18446744073709551616) (show (0 : Int) < 12 by decide)
  rcases (by omega : (x1 % 18446744073709551616) % 12 = 0 ∨ (x1 % 18446744073709551616) % 12 = 1 ∨ (x1 % 18446744073709551616) % 12 = 2 ∨ (x1 % 18446744073709551616) % 12 = 3 ∨ (x1 % 18446744073709551616) % 12 = 4 ∨ (x1 % 18446744073709551616) % 12 = 5 ∨ (x1 % 18446744073709551616) % 12 = 6 ∨ (x1 % 18446744073709551616) % 12 = 7 ∨ (x1 % 18446744073709551616) % 12 = 8 ∨ (x1 % 18446744073709551616) % 12 = 9 ∨ (x1 % 18446744073709551616) % 12 = 10 ∨ (x1 % 18446744073709551616) % 12 = 11) with hc1 | hc1 | hc1 | hc1 | hc1 | hc1 | hc1 | hc1 | hc1 | hc1 | hc1 | hc1
  · exact tc_main 6 (by decide) 0 (fun i => match i with | 0 => x0 | _ => x1) ⟨hr0, hr1, hc0, hc1⟩ (tc_k6 0 _ _) (tc_e6_0 _ _) w hb
  · exact tc_main 6 (by decide) 1 (fun i => match i with | 0 => x0 | _ => x1) ⟨hr0, hr1, hc0, hc1⟩ (tc_k6 1 _ _) (tc_e6_1 _ _) w hb
  · exact tc_main 6 (by decide) 2 (fun i => match i with | 0 => x0 | _ => x1) ⟨hr0, hr1, hc0, hc1⟩ (tc_k6 2 _ _) (tc_e6_2 _ _) w hb
  · exact tc_main 6 (by decide) 3 (fun i => match i with | 0 => x0 | _ => x1) ⟨hr0, hr1, hc0, hc1⟩ (tc_k6 3 _ _) (tc_e6_3 _ _) w hb
  · exact tc_main 6 (by decide) 4 (fun i => match i with | 0 => x0 | _ => x1) ⟨hr0, hr1, hc0, hc1⟩ (tc_k6 4 _ _) (tc_e6_4 _ _) w hb
  · exact tc_main 6 (by decide) 5 (fun i => match i with | 0 => x0 | _ => x1) ⟨hr0, hr1, hc0, hc1⟩ (tc_k6 5 _ _) (tc_e6_5 _ _) w hb
  · exact tc_main 6 (by decide) 6 (fun i => match i with | 0 => x0 | _ => x1) ⟨hr0, hr1, hc0, hc1⟩ (tc_k6 6 _ _) (tc_e6_6 _ _) w hb
  · exact tc_main 6 (by decide) 7 (fun i => match i with | 0 => x0 | _ => x1) ⟨hr0, hr1, hc0, hc1⟩ (tc_k6 7 _ _) (tc_e6_7 _ _) w hb
  · exact tc_main 6 (by decide) 8 (fun i => match i with | 0 => x0 | _ => x1) ⟨hr0, hr1, hc0, hc1⟩ (tc_k6 8 _ _) (tc_e6_8 _ _) w hb
  · exact tc_main 6 (by decide) 9 (fun i => match i with | 0 => x0 | _ => x1) ⟨hr0, hr1, hc0, hc1⟩ (tc_k6 9 _ _) (tc_e6_9 _ _) w hb
  · exact tc_main 6 (by decide) 10 (fun i => match i with | 0 => x0 | _ => x1) ⟨hr0, hr1, hc0, hc1⟩ (tc_k6 10 _ _) (tc_e6_10 _ _) w hb
  · exact tc_main 6 (by decide) 11 (fun i => match i with | 0 => x0 | _ => x1) ⟨hr0, hr1, hc0, hc1⟩ (tc_k6 11 _ _) (tc_e6_11 _ _) w hb
theorem tco_ret7 (x0 x1 : Int) (hr0 : -9223372036854775808 ≤ x0 ∧ x0 ≤ 9223372036854775807) (hr1 : -9223372036854775808 ≤ x1 ∧ x1 ≤ 9223372036854775807) (hc0 : (x0 % 18446744073709551616) % 20 = 7) (w : World) (hb : Begin 2 hG w) : Ret Tryz.prog 4 [.int .i64 x0, .int .i64 x1] w fun v w' => v = .bool true ∧ Kept none' w w' := by
  have h0 := Int.emod_nonneg (x1 % 18446744073709551616) (show (12 : Int) ≠ 0 by decide)
  have h1 := Int.emod_lt_of_pos (x1 % 18446744073709551616) (show (0 : Int) < 12 by decide)
  rcases (by omega : (x1 % 18446744073709551616) % 12 = 0 ∨ (x1 % 18446744073709551616) % 12 = 1 ∨ (x1 % 18446744073709551616) % 12 = 2 ∨ (x1 % 18446744073709551616) % 12 = 3 ∨ (x1 % 18446744073709551616) % 12 = 4 ∨ (x1 % 18446744073709551616) % 12 = 5 ∨ (x1 % 18446744073709551616) % 12 = 6 ∨ (x1 % 18446744073709551616) % 12 = 7 ∨ (x1 % 18446744073709551616) % 12 = 8 ∨ (x1 % 18446744073709551616) % 12 = 9 ∨ (x1 % 18446744073709551616) % 12 = 10 ∨ (x1 % 18446744073709551616) % 12 = 11) with hc1 | hc1 | hc1 | hc1 | hc1 | hc1 | hc1 | hc1 | hc1 | hc1 | hc1 | hc1
  · exact tc_main 7 (by decide) 0 (fun i => match i with | 0 => x0 | _ => x1) ⟨hr0, hr1, hc0, hc1⟩ (tc_k7 0 _ _) (tc_e7_0 _ _) w hb
  · exact tc_main 7 (by decide) 1 (fun i => match i with | 0 => x0 | _ => x1) ⟨hr0, hr1, hc0, hc1⟩ (tc_k7 1 _ _) (tc_e7_1 _ _) w hb
  · exact tc_main 7 (by decide) 2 (fun i => match i with | 0 => x0 | _ => x1) ⟨hr0, hr1, hc0, hc1⟩ (tc_k7 2 _ _) (tc_e7_2 _ _) w hb
  · exact tc_main 7 (by decide) 3 (fun i => match i with | 0 => x0 | _ => x1) ⟨hr0, hr1, hc0, hc1⟩ (tc_k7 3 _ _) (tc_e7_3 _ _) w hb
  · exact tc_main 7 (by decide) 4 (fun i => match i with | 0 => x0 | _ => x1) ⟨hr0, hr1, hc0, hc1⟩ (tc_k7 4 _ _) (tc_e7_4 _ _) w hb
  · exact tc_main 7 (by decide) 5 (fun i => match i with | 0 => x0 | _ => x1) ⟨hr0, hr1, hc0, hc1⟩ (tc_k7 5 _ _) (tc_e7_5 _ _) w hb
  · exact tc_main 7 (by decide) 6 (fun i => match i with | 0 => x0 | _ => x1) ⟨hr0, hr1, hc0, hc1⟩ (tc_k7 6 _ _) (tc_e7_6 _ _) w hb
  · exact tc_main 7 (by decide) 7 (fun i => match i with | 0 => x0 | _ => x1) ⟨hr0, hr1, hc0, hc1⟩ (tc_k7 7 _ _) (tc_e7_7 _ _) w hb
  · exact tc_main 7 (by decide) 8 (fun i => match i with | 0 => x0 | _ => x1) ⟨hr0, hr1, hc0, hc1⟩ (tc_k7 8 _ _) (tc_e7_8 _ _) w hb
  · exact tc_main 7 (by decide) 9 (fun i => match i with | 0 => x0 | _ => x1) ⟨hr0, hr1, hc0, hc1⟩ (tc_k7 9 _ _) (tc_e7_9 _ _) w hb
  · exact tc_main 7 (by decide) 10 (fun i => match i with | 0 => x0 | _ => x1) ⟨hr0, hr1, hc0, hc1⟩ (tc_k7 10 _ _) (tc_e7_10 _ _) w hb
  · exact tc_main 7 (by decide) 11 (fun i => match i with | 0 => x0 | _ => x1) ⟨hr0, hr1, hc0, hc1⟩ (tc_k7 11 _ _) (tc_e7_11 _ _) w hb
theorem tco_ret8 (x0 x1 : Int) (hr0 : -9223372036854775808 ≤ x0 ∧ x0 ≤ 9223372036854775807) (hr1 : -9223372036854775808 ≤ x1 ∧ x1 ≤ 9223372036854775807) (hc0 : (x0 % 18446744073709551616) % 20 = 8) (w : World) (hb : Begin 2 hG w) : Ret Tryz.prog 4 [.int .i64 x0, .int .i64 x1] w fun v w' => v = .bool true ∧ Kept none' w w' := by
  have h0 := Int.emod_nonneg (x1 % 18446744073709551616) (show (12 : Int) ≠ 0 by decide)
  have h1 := Int.emod_lt_of_pos (x1 % 18446744073709551616) (show (0 : Int) < 12 by decide)
  rcases (by omega : (x1 % 18446744073709551616) % 12 = 0 ∨ (x1 % 18446744073709551616) % 12 = 1 ∨ (x1 % 18446744073709551616) % 12 = 2 ∨ (x1 % 18446744073709551616) % 12 = 3 ∨ (x1 % 18446744073709551616) % 12 = 4 ∨ (x1 % 18446744073709551616) % 12 = 5 ∨ (x1 % 18446744073709551616) % 12 = 6 ∨ (x1 % 18446744073709551616) % 12 = 7 ∨ (x1 % 18446744073709551616) % 12 = 8 ∨ (x1 % 18446744073709551616) % 12 = 9 ∨ (x1 % 18446744073709551616) % 12 = 10 ∨ (x1 % 18446744073709551616) % 12 = 11) with hc1 | hc1 | hc1 | hc1 | hc1 | hc1 | hc1 | hc1 | hc1 | hc1 | hc1 | hc1
  · exact tc_main 8 (by decide) 0 (fun i => match i with | 0 => x0 | _ => x1) ⟨hr0, hr1, hc0, hc1⟩ (tc_k8 0 _ _) (tc_e8_0 _ _) w hb
  · exact tc_main 8 (by decide) 1 (fun i => match i with | 0 => x0 | _ => x1) ⟨hr0, hr1, hc0, hc1⟩ (tc_k8 1 _ _) (tc_e8_1 _ _) w hb
  · exact tc_main 8 (by decide) 2 (fun i => match i with | 0 => x0 | _ => x1) ⟨hr0, hr1, hc0, hc1⟩ (tc_k8 2 _ _) (tc_e8_2 _ _) w hb
  · exact tc_main 8 (by decide) 3 (fun i => match i with | 0 => x0 | _ => x1) ⟨hr0, hr1, hc0, hc1⟩ (tc_k8 3 _ _) (tc_e8_3 _ _) w hb
  · exact tc_main 8 (by decide) 4 (fun i => match i with | 0 => x0 | _ => x1) ⟨hr0, hr1, hc0, hc1⟩ (tc_k8 4 _ _) (tc_e8_4 _ _) w hb
  · exact tc_main 8 (by decide) 5 (fun i => match i with | 0 => x0 | _ => x1) ⟨hr0, hr1, hc0, hc1⟩ (tc_k8 5 _ _) (tc_e8_5 _ _) w hb
  · exact tc_main 8 (by decide) 6 (fun i => match i with | 0 => x0 | _ => x1) ⟨hr0, hr1, hc0, hc1⟩ (tc_k8 6 _ _) (tc_e8_6 _ _) w hb
  · exact tc_main 8 (by decide) 7 (fun i => match i with | 0 => x0 | _ => x1) ⟨hr0, hr1, hc0, hc1⟩ (tc_k8 7 _ _) (tc_e8_7 _ _) w hb
  · exact tc_main 8 (by decide) 8 (fun i => match i with | 0 => x0 | _ => x1) ⟨hr0, hr1, hc0, hc1⟩ (tc_k8 8 _ _) (tc_e8_8 _ _) w hb
  · exact tc_main 8 (by decide) 9 (fun i => match i with | 0 => x0 | _ => x1) ⟨hr0, hr1, hc0, hc1⟩ (tc_k8 9 _ _) (tc_e8_9 _ _) w hb
  · exact tc_main 8 (by decide) 10 (fun i => match i with | 0 => x0 | _ => x1) ⟨hr0, hr1, hc0, hc1⟩ (tc_k8 10 _ _) (tc_e8_10 _ _) w hb
  · exact tc_main 8 (by decide) 11 (fun i => match i with | 0 => x0 | _ => x1) ⟨hr0, hr1, hc0, hc1⟩ (tc_k8 11 _ _) (tc_e8_11 _ _) w hb
theorem tco_ret9 (x0 x1 : Int) (hr0 : -9223372036854775808 ≤ x0 ∧ x0 ≤ 9223372036854775807) (hr1 : -9223372036854775808 ≤ x1 ∧ x1 ≤ 9223372036854775807) (hc0 : (x0 % 18446744073709551616) % 20 = 9) (w : World) (hb : Begin 2 hG w) : Ret Tryz.prog 4 [.int .i64 x0, .int .i64 x1] w fun v w' => v = .bool true ∧ Kept none' w w' := by
  have h0 := Int.emod_nonneg (x1 % 18446744073709551616) (show (12 : Int) ≠ 0 by decide)
  have h1 := Int.emod_lt_of_pos (x1 % 18446744073709551616) (show (0 : Int) < 12 by decide)
  rcases (by omega : (x1 % 18446744073709551616) % 12 = 0 ∨ (x1 % 18446744073709551616) % 12 = 1 ∨ (x1 % 18446744073709551616) % 12 = 2 ∨ (x1 % 18446744073709551616) % 12 = 3 ∨ (x1 % 18446744073709551616) % 12 = 4 ∨ (x1 % 18446744073709551616) % 12 = 5 ∨ (x1 % 18446744073709551616) % 12 = 6 ∨ (x1 % 18446744073709551616) % 12 = 7 ∨ (x1 % 18446744073709551616) % 12 = 8 ∨ (x1 % 18446744073709551616) % 12 = 9 ∨ (x1 % 18446744073709551616) % 12 = 10 ∨ (x1 % 18446744073709551616) % 12 = 11) with hc1 | hc1 | hc1 | hc1 | hc1 | hc1 | hc1 | hc1 | hc1 | hc1 | hc1 | hc1
  · exact tc_main 9 (by decide) 0 (fun i => match i with | 0 => x0 | _ => x1) ⟨hr0, hr1, hc0, hc1⟩ (tc_k9 0 _ _) (tc_e9_0 _ _) w hb
  · exact tc_main 9 (by decide) 1 (fun i => match i with | 0 => x0 | _ => x1) ⟨hr0, hr1, hc0, hc1⟩ (tc_k9 1 _ _) (tc_e9_1 _ _) w hb
  · exact tc_main 9 (by decide) 2 (fun i => match i with | 0 => x0 | _ => x1) ⟨hr0, hr1, hc0, hc1⟩ (tc_k9 2 _ _) (tc_e9_2 _ _) w hb
  · exact tc_main 9 (by decide) 3 (fun i => match i with | 0 => x0 | _ => x1) ⟨hr0, hr1, hc0, hc1⟩ (tc_k9 3 _ _) (tc_e9_3 _ _) w hb
  · exact tc_main 9 (by decide) 4 (fun i => match i with | 0 => x0 | _ => x1) ⟨hr0, hr1, hc0, hc1⟩ (tc_k9 4 _ _) (tc_e9_4 _ _) w hb
  · exact tc_main 9 (by decide) 5 (fun i => match i with | 0 => x0 | _ => x1) ⟨hr0, hr1, hc0, hc1⟩ (tc_k9 5 _ _) (tc_e9_5 _ _) w hb
  · exact tc_main 9 (by decide) 6 (fun i => match i with | 0 => x0 | _ => x1) ⟨hr0, hr1, hc0, hc1⟩ (tc_k9 6 _ _) (tc_e9_6 _ _) w hb
  · exact tc_main 9 (by decide) 7 (fun i => match i with | 0 => x0 | _ => x1) ⟨hr0, hr1, hc0, hc1⟩ (tc_k9 7 _ _) (tc_e9_7 _ _) w hb
  · exact tc_main 9 (by decide) 8 (fun i => match i with | 0 => x0 | _ => x1) ⟨hr0, hr1, hc0, hc1⟩ (tc_k9 8 _ _) (tc_e9_8 _ _) w hb
  · exact tc_main 9 (by decide) 9 (fun i => match i with | 0 => x0 | _ => x1) ⟨hr0, hr1, hc0, hc1⟩ (tc_k9 9 _ _) (tc_e9_9 _ _) w hb
  · exact tc_main 9 (by decide) 10 (fun i => match i with | 0 => x0 | _ => x1) ⟨hr0, hr1, hc0, hc1⟩ (tc_k9 10 _ _) (tc_e9_10 _ _) w hb
  · exact tc_main 9 (by decide) 11 (fun i => match i with | 0 => x0 | _ => x1) ⟨hr0, hr1, hc0, hc1⟩ (tc_k9 11 _ _) (tc_e9_11 _ _) w hb
theorem tco_ret10 (x0 x1 : Int) (hr0 : -9223372036854775808 ≤ x0 ∧ x0 ≤ 9223372036854775807) (hr1 : -9223372036854775808 ≤ x1 ∧ x1 ≤ 9223372036854775807) (hc0 : (x0 % 18446744073709551616) % 20 = 10) (w : World) (hb : Begin 2 hG w) : Ret Tryz.prog 4 [.int .i64 x0, .int .i64 x1] w fun v w' => v = .bool true ∧ Kept none' w w' := by
  have h0 := Int.emod_nonneg (x1 % 18446744073709551616) (show (12 : Int) ≠ 0 by decide)
  have h1 := Int.emod_lt_of_pos (x1 % 18446744073709551616) (show (0 : Int) < 12 by decide)
  rcases (by omega : (x1 % 18446744073709551616) % 12 = 0 ∨ (x1 % 18446744073709551616) % 12 = 1 ∨ (x1 % 18446744073709551616) % 12 = 2 ∨ (x1 % 18446744073709551616) % 12 = 3 ∨ (x1 % 18446744073709551616) % 12 = 4 ∨ (x1 % 18446744073709551616) % 12 = 5 ∨ (x1 % 18446744073709551616) % 12 = 6 ∨ (x1 % 18446744073709551616) % 12 = 7 ∨ (x1 % 18446744073709551616) % 12 = 8 ∨ (x1 % 18446744073709551616) % 12 = 9 ∨ (x1 % 18446744073709551616) % 12 = 10 ∨ (x1 % 18446744073709551616) % 12 = 11) with hc1 | hc1 | hc1 | hc1 | hc1 | hc1 | hc1 | hc1 | hc1 | hc1 | hc1 | hc1
  · exact tc_main 10 (by decide) 0 (fun i => match i with | 0 => x0 | _ => x1) ⟨hr0, hr1, hc0, hc1⟩ (tc_k10 0 _ _) (tc_e10_0 _ _) w hb
  · exact tc_main 10 (by decide) 1 (fun i => match i with | 0 => x0 | _ => x1) ⟨hr0, hr1, hc0, hc1⟩ (tc_k10 1 _ _) (tc_e10_1 _ _) w hb
  · exact tc_main 10 (by decide) 2 (fun i => match i with | 0 => x0 | _ => x1) ⟨hr0, hr1, hc0, hc1⟩ (tc_k10 2 _ _) (tc_e10_2 _ _) w hb
  · exact tc_main 10 (by decide) 3 (fun i => match i with | 0 => x0 | _ => x1) ⟨hr0, hr1, hc0, hc1⟩ (tc_k10 3 _ _) (tc_e10_3 _ _) w hb
  · exact tc_main 10 (by decide) 4 (fun i => match i with | 0 => x0 | _ => x1) ⟨hr0, hr1, hc0, hc1⟩ (tc_k10 4 _ _) (tc_e10_4 _ _) w hb
  · exact tc_main 10 (by decide) 5 (fun i => match i with | 0 => x0 | _ => x1) ⟨hr0, hr1, hc0, hc1⟩ (tc_k10 5 _ _) (tc_e10_5 _ _) w hb
  · exact tc_main 10 (by decide) 6 (fun i => match i with | 0 => x0 | _ => x1) ⟨hr0, hr1, hc0, hc1⟩ (tc_k10 6 _ _) (tc_e10_6 _ _) w hb
  · exact tc_main 10 (by decide) 7 (fun i => match i with | 0 => x0 | _ => x1) ⟨hr0, hr1, hc0, hc1⟩ (tc_k10 7 _ _) (tc_e10_7 _ _) w hb
  · exact tc_main 10 (by decide) 8 (fun i => match i with | 0 => x0 | _ => x1) ⟨hr0, hr1, hc0, hc1⟩ (tc_k10 8 _ _) (tc_e10_8 _ _) w hb
  · exact tc_main 10 (by decide) 9 (fun i => match i with | 0 => x0 | _ => x1) ⟨hr0, hr1, hc0, hc1⟩ (tc_k10 9 _ _) (tc_e10_9 _ _) w hb
  · exact tc_main 10 (by decide) 10 (fun i => match i with | 0 => x0 | _ => x1) ⟨hr0, hr1, hc0, hc1⟩ (tc_k10 10 _ _) (tc_e10_10 _ _) w hb
  · exact tc_main 10 (by decide) 11 (fun i => match i with | 0 => x0 | _ => x1) ⟨hr0, hr1, hc0, hc1⟩ (tc_k10 11 _ _) (tc_e10_11 _ _) w hb
theorem tco_ret11 (x0 x1 : Int) (hr0 : -9223372036854775808 ≤ x0 ∧ x0 ≤ 9223372036854775807) (hr1 : -9223372036854775808 ≤ x1 ∧ x1 ≤ 9223372036854775807) (hc0 : (x0 % 18446744073709551616) % 20 = 11) (w : World) (hb : Begin 2 hG w) : Ret Tryz.prog 4 [.int .i64 x0, .int .i64 x1] w fun v w' => v = .bool true ∧ Kept none' w w' := by
  have h0 := Int.emod_nonneg (x1 % 18446744073709551616) (show (12 : Int) ≠ 0 by decide)
  have h1 := Int.emod_lt_of_pos (x1 % 18446744073709551616) (show (0 : Int) < 12 by decide)
  rcases (by omega : (x1 % 18446744073709551616) % 12 = 0 ∨ (x1 % 18446744073709551616) % 12 = 1 ∨ (x1 % 18446744073709551616) % 12 = 2 ∨ (x1 % 18446744073709551616) % 12 = 3 ∨ (x1 % 18446744073709551616) % 12 = 4 ∨ (x1 % 18446744073709551616) % 12 = 5 ∨ (x1 % 18446744073709551616) % 12 = 6 ∨ (x1 % 18446744073709551616) % 12 = 7 ∨ (x1 % 18446744073709551616) % 12 = 8 ∨ (x1 % 18446744073709551616) % 12 = 9 ∨ (x1 % 18446744073709551616) % 12 = 10 ∨ (x1 % 18446744073709551616) % 12 = 11) with hc1 | hc1 | hc1 | hc1 | hc1 | hc1 | hc1 | hc1 | hc1 | hc1 | hc1 | hc1
  · exact tc_main 11 (by decide) 0 (fun i => match i with | 0 => x0 | _ => x1) ⟨hr0, hr1, hc0, hc1⟩ (tc_k11 0 _ _) (tc_e11_0 _ _) w hb
  · exact tc_main 11 (by decide) 1 (fun i => match i with | 0 => x0 | _ => x1) ⟨hr0, hr1, hc0, hc1⟩ (tc_k11 1 _ _) (tc_e11_1 _ _) w hb
  · exact tc_main 11 (by decide) 2 (fun i => match i with | 0 => x0 | _ => x1) ⟨hr0, hr1, hc0, hc1⟩ (tc_k11 2 _ _) (tc_e11_2 _ _) w hb
  · exact tc_main 11 (by decide) 3 (fun i => match i with | 0 => x0 | _ => x1) ⟨hr0, hr1, hc0, hc1⟩ (tc_k11 3 _ _) (tc_e11_3 _ _) w hb
  · exact tc_main 11 (by decide) 4 (fun i => match i with | 0 => x0 | _ => x1) ⟨hr0, hr1, hc0, hc1⟩ (tc_k11 4 _ _) (tc_e11_4 _ _) w hb
  · exact tc_main 11 (by decide) 5 (fun i => match i with | 0 => x0 | _ => x1) ⟨hr0, hr1, hc0, hc1⟩ (tc_k11 5 _ _) (tc_e11_5 _ _) w hb
  · exact tc_main 11 (by decide) 6 (fun i => match i with | 0 => x0 | _ => x1) ⟨hr0, hr1, hc0, hc1⟩ (tc_k11 6 _ _) (tc_e11_6 _ _) w hb
  · exact tc_main 11 (by decide) 7 (fun i => match i with | 0 => x0 | _ => x1) ⟨hr0, hr1, hc0, hc1⟩ (tc_k11 7 _ _) (tc_e11_7 _ _) w hb
  · exact tc_main 11 (by decide) 8 (fun i => match i with | 0 => x0 | _ => x1) ⟨hr0, hr1, hc0, hc1⟩ (tc_k11 8 _ _) (tc_e11_8 _ _) w hb
  · exact tc_main 11 (by decide) 9 (fun i => match i with | 0 => x0 | _ => x1) ⟨hr0, hr1, hc0, hc1⟩ (tc_k11 9 _ _) (tc_e11_9 _ _) w hb
  · exact tc_main 11 (by decide) 10 (fun i => match i with | 0 => x0 | _ => x1) ⟨hr0, hr1, hc0, hc1⟩ (tc_k11 10 _ _) (tc_e11_10 _ _) w hb
  · exact tc_main 11 (by decide) 11 (fun i => match i with | 0 => x0 | _ => x1) ⟨hr0, hr1, hc0, hc1⟩ (tc_k11 11 _ _) (tc_e11_11 _ _) w hb
theorem tco_ret12 (x0 x1 : Int) (hr0 : -9223372036854775808 ≤ x0 ∧ x0 ≤ 9223372036854775807) (hr1 : -9223372036854775808 ≤ x1 ∧ x1 ≤ 9223372036854775807) (hc0 : (x0 % 18446744073709551616) % 20 = 12) (w : World) (hb : Begin 2 hG w) : Ret Tryz.prog 4 [.int .i64 x0, .int .i64 x1] w fun v w' => v = .bool true ∧ Kept none' w w' := by
  have h0 := Int.emod_nonneg (x1 % 18446744073709551616) (show (12 : Int) ≠ 0 by decide)
  have h1 := Int.emod_lt_of_pos (x1 % 18446744073709551616) (show (0 : Int) < 12 by decide)
  rcases (by omega : (x1 % 18446744073709551616) % 12 = 0 ∨ (x1 % 18446744073709551616) % 12 = 1 ∨ (x1 % 18446744073709551616) % 12 = 2 ∨ (x1 % 18446744073709551616) % 12 = 3 ∨ (x1 % 18446744073709551616) % 12 = 4 ∨ (x1 % 18446744073709551616) % 12 = 5 ∨ (x1 % 18446744073709551616) % 12 = 6 ∨ (x1 % 18446744073709551616) % 12 = 7 ∨ (x1 % 18446744073709551616) % 12 = 8 ∨ (x1 % 18446744073709551616) % 12 = 9 ∨ (x1 % 18446744073709551616) % 12 = 10 ∨ (x1 % 18446744073709551616) % 12 = 11) with hc1 | hc1 | hc1 | hc1 | hc1 | hc1 | hc1 | hc1 | hc1 | hc1 | hc1 | hc1
  · exact tc_main 12 (by decide) 0 (fun i => match i with | 0 => x0 | _ => x1) ⟨hr0, hr1, hc0, hc1⟩ (tc_k12 0 _ _) (tc_e12_0 _ _) w hb
  · exact tc_main 12 (by decide) 1 (fun i => match i with | 0 => x0 | _ => x1) ⟨hr0, hr1, hc0, hc1⟩ (tc_k12 1 _ _) (tc_e12_1 _ _) w hb
  · exact tc_main 12 (by decide) 2 (fun i => match i with | 0 => x0 | _ => x1) ⟨hr0, hr1, hc0, hc1⟩ (tc_k12 2 _ _) (tc_e12_2 _ _) w hb
  · exact tc_main 12 (by decide) 3 (fun i => match i with | 0 => x0 | _ => x1) ⟨hr0, hr1, hc0, hc1⟩ (tc_k12 3 _ _) (tc_e12_3 _ _) w hb
  · exact tc_main 12 (by decide) 4 (fun i => match i with | 0 => x0 | _ => x1) ⟨hr0, hr1, hc0, hc1⟩ (tc_k12 4 _ _) (tc_e12_4 _ _) w hb
  · exact tc_main 12 (by decide) 5 (fun i => match i with | 0 => x0 | _ => x1) ⟨hr0, hr1, hc0, hc1⟩ (tc_k12 5 _ _) (tc_e12_5 _ _) w hb
  · exact tc_main 12 (by decide) 6 (fun i => match i with | 0 => x0 | _ => x1) ⟨hr0, hr1, hc0, hc1⟩ (tc_k12 6 _ _) (tc_e12_6 _ _) w hb
  · exact tc_main 12 (by decide) 7 (fun i => match i with | 0 => x0 | _ => x1) ⟨hr0, hr1, hc0, hc1⟩ (tc_k12 7 _ _) (tc_e12_7 _ _) w hb
  · exact tc_main 12 (by decide) 8 (fun i => match i with | 0 => x0 | _ => x1) ⟨hr0, hr1, hc0, hc1⟩ (tc_k12 8 _ _) (tc_e12_8 _ _) w hb
  · exact tc_main 12 (by decide) 9 (fun i => match i with | 0 => x0 | _ => x1) ⟨hr0, hr1, hc0, hc1⟩ (tc_k12 9 _ _) (tc_e12_9 _ _) w hb
  · exact tc_main 12 (by decide) 10 (fun i => match i with | 0 => x0 | _ => x1) ⟨hr0, hr1, hc0, hc1⟩ (tc_k12 10 _ _) (tc_e12_10 _ _) w hb
  · exact tc_main 12 (by decide) 11 (fun i => match i with | 0 => x0 | _ => x1) ⟨hr0, hr1, hc0, hc1⟩ (tc_k12 11 _ _) (tc_e12_11 _ _) w hb
theorem tco_ret13 (x0 x1 : Int) (hr0 : -9223372036854775808 ≤ x0 ∧ x0 ≤ 9223372036854775807) (hr1 : -9223372036854775808 ≤ x1 ∧ x1 ≤ 9223372036854775807) (hc0 : (x0 % 18446744073709551616) % 20 = 13) (w : World) (hb : Begin 2 hG w) : Ret Tryz.prog 4 [.int .i64 x0, .int .i64 x1] w fun v w' => v = .bool true ∧ Kept none' w w' := by
  have h0 := Int.emod_nonneg (x1 % 18446744073709551616) (show (12 : Int) ≠ 0 by decide)
  have h1 := Int.emod_lt_of_pos (x1 % 18446744073709551616) (show (0 : Int) < 12 by decide)
  rcases (by omega : (x1 % 18446744073709551616) % 12 = 0 ∨ (x1 % 18446744073709551616) % 12 = 1 ∨ (x1 % 18446744073709551616) % 12 = 2 ∨ (x1 % 18446744073709551616) % 12 = 3 ∨ (x1 % 18446744073709551616) % 12 = 4 ∨ (x1 % 18446744073709551616) % 12 = 5 ∨ (x1 % 18446744073709551616) % 12 = 6 ∨ (x1 % 18446744073709551616) % 12 = 7 ∨ (x1 % 18446744073709551616) % 12 = 8 ∨ (x1 % 18446744073709551616) % 12 = 9 ∨ (x1 % 18446744073709551616) % 12 = 10 ∨ (x1 % 18446744073709551616) % 12 = 11) with hc1 | hc1 | hc1 | hc1 | hc1 | hc1 | hc1 | hc1 | hc1 | hc1 | hc1 | hc1
  · exact tc_main 13 (by decide) 0 (fun i => match i with | 0 => x0 | _ => x1) ⟨hr0, hr1, hc0, hc1⟩ (tc_k13 0 _ _) (tc_e13_0 _ _) w hb
  · exact tc_main 13 (by decide) 1 (fun i => match i with | 0 => x0 | _ => x1) ⟨hr0, hr1, hc0, hc1⟩ (tc_k13 1 _ _) (tc_e13_1 _ _) w hb
  · exact tc_main 13 (by decide) 2 (fun i => match i with | 0 => x0 | _ => x1) ⟨hr0, hr1, hc0, hc1⟩ (tc_k13 2 _ _) (tc_e13_2 _ _) w hb
  · exact tc_main 13 (by decide) 3 (fun i => match i with | 0 => x0 | _ => x1) ⟨hr0, hr1, hc0, hc1⟩ (tc_k13 3 _ _) (tc_e13_3 _ _) w hb
  · exact tc_main 13 (by decide) 4 (fun i => match i with | 0 => x0 | _ => x1) ⟨hr0, hr1, hc0, hc1⟩ (tc_k13 4 _ _) (tc_e13_4 _ _) w hb
  · exact tc_main 13 (by decide) 5 (fun i => match i with | 0 => x0 | _ => x1) ⟨hr0, hr1, hc0, hc1⟩ (tc_k13 5 _ _) (tc_e13_5 _ _) w hb
  · exact tc_main 13 (by decide) 6 (fun i => match i with | 0 => x0 | _ => x1) ⟨hr0, hr1, hc0, hc1⟩ (tc_k13 6 _ _) (tc_e13_6 _ _) w hb
  · exact tc_main 13 (by decide) 7 (fun i => match i with | 0 => x0 | _ => x1) ⟨hr0, hr1, hc0, hc1⟩ (tc_k13 7 _ _) (tc_e13_7 _ _) w hb
  · exact tc_main 13 (by decide) 8 (fun i => match i with | 0 => x0 | _ => x1) ⟨hr0, hr1, hc0, hc1⟩ (tc_k13 8 _ _) (tc_e13_8 _ _) w hb
  · exact tc_main 13 (by decide) 9 (fun i => match i with | 0 => x0 | _ => x1) ⟨hr0, hr1, hc0, hc1⟩ (tc_k13 9 _ _) (tc_e13_9 _ _) w hb
  · exact tc_main 13 (by decide) 10 (fun i => match i with | 0 => x0 | _ => x1) ⟨hr0, hr1, hc0, hc1⟩ (tc_k13 10 _ _) (tc_e13_10 _ _) w hb
  · exact tc_main 13 (by decide) 11 (fun i => match i with | 0 => x0 | _ => x1) ⟨hr0, hr1, hc0, hc1⟩ (tc_k13 11 _ _) (tc_e13_11 _ _) w hb
theorem tco_ret14 (x0 x1 : Int) (hr0 : -9223372036854775808 ≤ x0 ∧ x0 ≤ 9223372036854775807) (hr1 : -9223372036854775808 ≤ x1 ∧ x1 ≤ 9223372036854775807) (hc0 : (x0 % 18446744073709551616) % 20 = 14) (w : World) (hb : Begin 2 hG w) : Ret Tryz.prog 4 [.int .i64 x0, .int .i64 x1] w fun v w' => v = .bool true ∧ Kept none' w w' := by
  have h0 := Int.emod_nonneg (x1 % 18446744073709551616) (show (12 : Int) ≠ 0 by decide)
  have h1 := Int.emod_lt_of_pos (x1 % 18446744073709551616) (show (0 : Int) < 12 by decide)
  rcases (by omega : (x1 % 18446744073709551616) % 12 = 0 ∨ (x1 % 18446744073709551616) % 12 = 1 ∨ (x1 % 18446744073709551616) % 12 = 2 ∨ (x1 % 18446744073709551616) % 12 = 3 ∨ (x1 % 18446744073709551616) % 12 = 4 ∨ (x1 % 18446744073709551616) % 12 = 5 ∨ (x1 % 18446744073709551616) % 12 = 6 ∨ (x1 % 18446744073709551616) % 12 = 7 ∨ (x1 % 18446744073709551616) % 12 = 8 ∨ (x1 % 18446744073709551616) % 12 = 9 ∨ (x1 % 18446744073709551616) % 12 = 10 ∨ (x1 % 18446744073709551616) % 12 = 11) with hc1 | hc1 | hc1 | hc1 | hc1 | hc1 | hc1 | hc1 | hc1 | hc1 | hc1 | hc1
  · exact tc_main 14 (by decide) 0 (fun i => match i with | 0 => x0 | _ => x1) ⟨hr0, hr1, hc0, hc1⟩ (tc_k14 0 _ _) (tc_e14_0 _ _) w hb
  · exact tc_main 14 (by decide) 1 (fun i => match i with | 0 => x0 | _ => x1) ⟨hr0, hr1, hc0, hc1⟩ (tc_k14 1 _ _) (tc_e14_1 _ _) w hb
  · exact tc_main 14 (by decide) 2 (fun i => match i with | 0 => x0 | _ => x1) ⟨hr0, hr1, hc0, hc1⟩ (tc_k14 2 _ _) (tc_e14_2 _ _) w hb
  · exact tc_main 14 (by decide) 3 (fun i => match i with | 0 => x0 | _ => x1) ⟨hr0, hr1, hc0, hc1⟩ (tc_k14 3 _ _) (tc_e14_3 _ _) w hb
  · exact tc_main 14 (by decide) 4 (fun i => match i with | 0 => x0 | _ => x1) ⟨hr0, hr1, hc0, hc1⟩ (tc_k14 4 _ _) (tc_e14_4 _ _) w hb
  · exact tc_main 14 (by decide) 5 (fun i => match i with | 0 => x0 | _ => x1) ⟨hr0, hr1, hc0, hc1⟩ (tc_k14 5 _ _) (tc_e14_5 _ _) w hb
  · exact tc_main 14 (by decide) 6 (fun i => match i with | 0 => x0 | _ => x1) ⟨hr0, hr1, hc0, hc1⟩ (tc_k14 6 _ _) (tc_e14_6 _ _) w hb
  · exact tc_main 14 (by decide) 7 (fun i => match i with | 0 => x0 | _ => x1) ⟨hr0, hr1, hc0, hc1⟩ (tc_k14 7 _ _) (tc_e14_7 _ _) w hb
  · exact tc_main 14 (by decide) 8 (fun i => match i with | 0 => x0 | _ => x1) ⟨hr0, hr1, hc0, hc1⟩ (tc_k14 8 _ _) (tc_e14_8 _ _) w hb
  · exact tc_main 14 (by decide) 9 (fun i => match i with | 0 => x0 | _ => x1) ⟨hr0, hr1, hc0, hc1⟩ (tc_k14 9 _ _) (tc_e14_9 _ _) w hb
  · exact tc_main 14 (by decide) 10 (fun i => match i with | 0 => x0 | _ => x1) ⟨hr0, hr1, hc0, hc1⟩ (tc_k14 10 _ _) (tc_e14_10 _ _) w hb
  · exact tc_main 14 (by decide) 11 (fun i => match i with | 0 => x0 | _ => x1) ⟨hr0, hr1, hc0, hc1⟩ (tc_k14 11 _ _) (tc_e14_11 _ _) w hb
theorem tco_ret15 (x0 x1 : Int) (hr0 : -9223372036854775808 ≤ x0 ∧ x0 ≤ 9223372036854775807) (hr1 : -9223372036854775808 ≤ x1 ∧ x1 ≤ 9223372036854775807) (hc0 : (x0 % 18446744073709551616) % 20 = 15) (w : World) (hb : Begin 2 hG w) : Ret Tryz.prog 4 [.int .i64 x0, .int .i64 x1] w fun v w' => v = .bool true ∧ Kept none' w w' := by
  have h0 := Int.emod_nonneg (x1 % 18446744073709551616) (show (12 : Int) ≠ 0 by decide)
  have h1 := Int.emod_lt_of_pos (x1 % 18446744073709551616) (show (0 : Int) < 12 by decide)
  rcases (by omega : (x1 % 18446744073709551616) % 12 = 0 ∨ (x1 % 18446744073709551616) % 12 = 1 ∨ (x1 % 18446744073709551616) % 12 = 2 ∨ (x1 % 18446744073709551616) % 12 = 3 ∨ (x1 % 18446744073709551616) % 12 = 4 ∨ (x1 % 18446744073709551616) % 12 = 5 ∨ (x1 % 18446744073709551616) % 12 = 6 ∨ (x1 % 18446744073709551616) % 12 = 7 ∨ (x1 % 18446744073709551616) % 12 = 8 ∨ (x1 % 18446744073709551616) % 12 = 9 ∨ (x1 % 18446744073709551616) % 12 = 10 ∨ (x1 % 18446744073709551616) % 12 = 11) with hc1 | hc1 | hc1 | hc1 | hc1 | hc1 | hc1 | hc1 | hc1 | hc1 | hc1 | hc1
  · exact tc_main 15 (by decide) 0 (fun i => match i with | 0 => x0 | _ => x1) ⟨hr0, hr1, hc0, hc1⟩ (tc_k15 0 _ _) (tc_e15_0 _ _) w hb
  · exact tc_main 15 (by decide) 1 (fun i => match i with | 0 => x0 | _ => x1) ⟨hr0, hr1, hc0, hc1⟩ (tc_k15 1 _ _) (tc_e15_1 _ _) w hb
  · exact tc_main 15 (by decide) 2 (fun i => match i with | 0 => x0 | _ => x1) ⟨hr0, hr1, hc0, hc1⟩ (tc_k15 2 _ _) (tc_e15_2 _ _) w hb
  · exact tc_main 15 (by decide) 3 (fun i => match i with | 0 => x0 | _ => x1) ⟨hr0, hr1, hc0, hc1⟩ (tc_k15 3 _ _) (tc_e15_3 _ _) w hb
  · exact tc_main 15 (by decide) 4 (fun i => match i with | 0 => x0 | _ => x1) ⟨hr0, hr1, hc0, hc1⟩ (tc_k15 4 _ _) (tc_e15_4 _ _) w hb
  · exact tc_main 15 (by decide) 5 (fun i => match i with | 0 => x0 | _ => x1) ⟨hr0, hr1, hc0, hc1⟩ (tc_k15 5 _ _) (tc_e15_5 _ _) w hb
  · exact tc_main 15 (by decide) 6 (fun i => match i with | 0 => x0 | _ => x1) ⟨hr0, hr1, hc0, hc1⟩ (tc_k15 6 _ _) (tc_e15_6 _ _) w hb
  · exact tc_main 15 (by decide) 7 (fun i => match i with | 0 => x0 | _ => x1) ⟨hr0, hr1, hc0, hc1⟩ (tc_k15 7 _ _) (tc_e15_7 _ _) w hb
  · exact tc_main 15 (by decide) 8 (fun i => match i with | 0 => x0 | _ => x1) ⟨hr0, hr1, hc0, hc1⟩ (tc_k15 8 _ _) (tc_e15_8 _ _) w hb
  · exact tc_main 15 (by decide) 9 (fun i => match i with | 0 => x0 | _ => x1) ⟨hr0, hr1, hc0, hc1⟩ (tc_k15 9 _ _) (tc_e15_9 _ _) w hb
  · exact tc_main 15 (by decide) 10 (fun i => match i with | 0 => x0 | _ => x1) ⟨hr0, hr1, hc0, hc1⟩ (tc_k15 10 _ _) (tc_e15_10 _ _) w hb
  · exact tc_main 15 (by decide) 11 (fun i => match i with | 0 => x0 | _ => x1) ⟨hr0, hr1, hc0, hc1⟩ (tc_k15 11 _ _) (tc_e15_11 _ _) w hb
theorem tco_ret16 (x0 x1 : Int) (hr0 : -9223372036854775808 ≤ x0 ∧ x0 ≤ 9223372036854775807) (hr1 : -9223372036854775808 ≤ x1 ∧ x1 ≤ 9223372036854775807) (hc0 : (x0 % 18446744073709551616) % 20 = 16) (w : World) (hb : Begin 2 hG w) : Ret Tryz.prog 4 [.int .i64 x0, .int .i64 x1] w fun v w' => v = .bool true ∧ Kept none' w w' := by
  have h0 := Int.emod_nonneg (x1 % 18446744073709551616) (show (12 : Int) ≠ 0 by decide)
  have h1 := Int.emod_lt_of_pos (x1 % 18446744073709551616) (show (0 : Int) < 12 by decide)
  rcases (by omega : (x1 % 18446744073709551616) % 12 = 0 ∨ (x1 % 18446744073709551616) % 12 = 1 ∨ (x1 % 18446744073709551616) % 12 = 2 ∨ (x1 % 18446744073709551616) % 12 = 3 ∨ (x1 % 18446744073709551616) % 12 = 4 ∨ (x1 % 18446744073709551616) % 12 = 5 ∨ (x1 % 18446744073709551616) % 12 = 6 ∨ (x1 % 18446744073709551616) % 12 = 7 ∨ (x1 % 18446744073709551616) % 12 = 8 ∨ (x1 % 18446744073709551616) % 12 = 9 ∨ (x1 % 18446744073709551616) % 12 = 10 ∨ (x1 % 18446744073709551616) % 12 = 11) with hc1 | hc1 | hc1 | hc1 | hc1 | hc1 | hc1 | hc1 | hc1 | hc1 | hc1 | hc1
  · exact tc_main 16 (by decide) 0 (fun i => match i with | 0 => x0 | _ => x1) ⟨hr0, hr1, hc0, hc1⟩ (tc_k16 0 _ _) (tc_e16_0 _ _) w hb
  · exact tc_main 16 (by decide) 1 (fun i => match i with | 0 => x0 | _ => x1) ⟨hr0, hr1, hc0, hc1⟩ (tc_k16 1 _ _) (tc_e16_1 _ _) w hb
  · exact tc_main 16 (by decide) 2 (fun i => match i with | 0 => x0 | _ => x1) ⟨hr0, hr1, hc0, hc1⟩ (tc_k16 2 _ _) (tc_e16_2 _ _) w hb
  · exact tc_main 16 (by decide) 3 (fun i => match i with | 0 => x0 | _ => x1) ⟨hr0, hr1, hc0, hc1⟩ (tc_k16 3 _ _) (tc_e16_3 _ _) w hb
  · exact tc_main 16 (by decide) 4 (fun i => match i with | 0 => x0 | _ => x1) ⟨hr0, hr1, hc0, hc1⟩ (tc_k16 4 _ _) (tc_e16_4 _ _) w hb
  · exact tc_main 16 (by decide) 5 (fun i => match i with | 0 => x0 | _ => x1) ⟨hr0, hr1, hc0, hc1⟩ (tc_k16 5 _ _) (tc_e16_5 _ _) w hb
  · exact tc_main 16 (by decide) 6 (fun i => match i with | 0 => x0 | _ => x1) ⟨hr0, hr1, hc0, hc1⟩ (tc_k16 6 _ _) (tc_e16_6 _ _) w hb
  · exact tc_main 16 (by decide) 7 (fun i => match i with | 0 => x0 | _ => x1) ⟨hr0, hr1, hc0, hc1⟩ (tc_k16 7 _ _) (tc_e16_7 _ _) w hb
  · exact tc_main 16 (by decide) 8 (fun i => match i with | 0 => x0 | _ => x1) ⟨hr0, hr1, hc0, hc1⟩ (tc_k16 8 _ _) (tc_e16_8 _ _) w hb
  · exact tc_main 16 (by decide) 9 (fun i => match i with | 0 => x0 | _ => x1) ⟨hr0, hr1, hc0, hc1⟩ (tc_k16 9 _ _) (tc_e16_9 _ _) w hb
  · exact tc_main 16 (by decide) 10 (fun i => match i with | 0 => x0 | _ => x1) ⟨hr0, hr1, hc0, hc1⟩ (tc_k16 10 _ _) (tc_e16_10 _ _) w hb
  · exact tc_main 16 (by decide) 11 (fun i => match i with | 0 => x0 | _ => x1) ⟨hr0, hr1, hc0, hc1⟩ (tc_k16 11 _ _) (tc_e16_11 _ _) w hb
theorem tco_ret17 (x0 x1 : Int) (hr0 : -9223372036854775808 ≤ x0 ∧ x0 ≤ 9223372036854775807) (hr1 : -9223372036854775808 ≤ x1 ∧ x1 ≤ 9223372036854775807) (hc0 : (x0 % 18446744073709551616) % 20 = 17) (w : World) (hb : Begin 2 hG w) : Ret Tryz.prog 4 [.int .i64 x0, .int .i64 x1] w fun v w' => v = .bool true ∧ Kept none' w w' := by
  have h0 := Int.emod_nonneg (x1 % 18446744073709551616) (show (12 : Int) ≠ 0 by decide)
  have h1 := Int.emod_lt_of_pos (x1 % 18446744073709551616) (show (0 : Int) < 12 by decide)
  rcases (by omega : (x1 % 18446744073709551616) % 12 = 0 ∨ (x1 % 18446744073709551616) % 12 = 1 ∨ (x1 % 18446744073709551616) % 12 = 2 ∨ (x1 % 18446744073709551616) % 12 = 3 ∨ (x1 % 18446744073709551616) % 12 = 4 ∨ (x1 % 18446744073709551616) % 12 = 5 ∨ (x1 % 18446744073709551616) % 12 = 6 ∨ (x1 % 18446744073709551616) % 12 = 7 ∨ (x1 % 18446744073709551616) % 12 = 8 ∨ (x1 % 18446744073709551616) % 12 = 9 ∨ (x1 % 18446744073709551616) % 12 = 10 ∨ (x1 % 18446744073709551616) % 12 = 11) with hc1 | hc1 | hc1 | hc1 | hc1 | hc1 | hc1 | hc1 | hc1 | hc1 | hc1 | hc1
  · exact tc_main 17 (by decide) 0 (fun i => match i with | 0 => x0 | _ => x1) ⟨hr0, hr1, hc0, hc1⟩ (tc_k17 0 _ _) (tc_e17_0 _ _) w hb
  · exact tc_main 17 (by decide) 1 (fun i => match i with | 0 => x0 | _ => x1) ⟨hr0, hr1, hc0, hc1⟩ (tc_k17 1 _ _) (tc_e17_1 _ _) w hb
  · exact tc_main 17 (by decide) 2 (fun i => match i with | 0 => x0 | _ => x1) ⟨hr0, hr1, hc0, hc1⟩ (tc_k17 2 _ _) (tc_e17_2 _ _) w hb
  · exact tc_main 17 (by decide) 3 (fun i => match i with | 0 => x0 | _ => x1) ⟨hr0, hr1, hc0, hc1⟩ (tc_k17 3 _ _) (tc_e17_3 _ _) w hb
  · exact tc_main 17 (by decide) 4 (fun i => match i with | 0 => x0 | _ => x1) ⟨hr0, hr1, hc0, hc1⟩ (tc_k17 4 _ _) (tc_e17_4 _ _) w hb
  · exact tc_main 17 (by decide) 5 (fun i => match i with | 0 => x0 | _ => x1) ⟨hr0, hr1, hc0, hc1⟩ (tc_k17 5 _ _) (tc_e17_5 _ _) w hb
  · exact tc_main 17 (by decide) 6 (fun i => match i with | 0 => x0 | _ => x1) ⟨hr0, hr1, hc0, hc1⟩ (tc_k17 6 _ _) (tc_e17_6 _ _) w hb
  · exact tc_main 17 (by decide) 7 (fun i => match i with | 0 => x0 | _ => x1) ⟨hr0, hr1, hc0, hc1⟩ (tc_k17 7 _ _) (tc_e17_7 _ _) w hb
  · exact tc_main 17 (by decide) 8 (fun i => match i with | 0 => x0 | _ => x1) ⟨hr0, hr1, hc0, hc1⟩ (tc_k17 8 _ _) (tc_e17_8 _ _) w hb
  · exact tc_main 17 (by decide) 9 (fun i => match i with | 0 => x0 | _ => x1) ⟨hr0, hr1, hc0, hc1⟩ (tc_k17 9 _ _) (tc_e17_9 _ _) w hb
  · exact tc_main 17 (by decide) 10 (fun i => match i with | 0 => x0 | _ => x1) ⟨hr0, hr1, hc0, hc1⟩ (tc_k17 10 _ _) (tc_e17_10 _ _) w hb
  · exact tc_main 17 (by decide) 11 (fun i => match i with | 0 => x0 | _ => x1) ⟨hr0, hr1, hc0, hc1⟩ (tc_k17 11 _ _) (tc_e17_11 _ _) w hb
theorem tco_ret18 (x0 x1 : Int) (hr0 : -9223372036854775808 ≤ x0 ∧ x0 ≤ 9223372036854775807) (hr1 : -9223372036854775808 ≤ x1 ∧ x1 ≤ 9223372036854775807) (hc0 : (x0 % 18446744073709551616) % 20 = 18) (w : World) (hb : Begin 2 hG w) : Ret Tryz.prog 4 [.int .i64 x0, .int .i64 x1] w fun v w' => v = .bool true ∧ Kept none' w w' := by
  have h0 := Int.emod_nonneg (x1 % 18446744073709551616) (show (12 : Int) ≠ 0 by decide)
  have h1 := Int.emod_lt_of_pos (x1 % 18446744073709551616) (show (0 : Int) < 12 by decide)
  rcases (by omega : (x1 % 18446744073709551616) % 12 = 0 ∨ (x1 % 18446744073709551616) % 12 = 1 ∨ (x1 % 18446744073709551616) % 12 = 2 ∨ (x1 % 18446744073709551616) % 12 = 3 ∨ (x1 % 18446744073709551616) % 12 = 4 ∨ (x1 % 18446744073709551616) % 12 = 5 ∨ (x1 % 18446744073709551616) % 12 = 6 ∨ (x1 % 18446744073709551616) % 12 = 7 ∨ (x1 % 18446744073709551616) % 12 = 8 ∨ (x1 % 18446744073709551616) % 12 = 9 ∨ (x1 % 18446744073709551616) % 12 = 10 ∨ (x1 % 18446744073709551616) % 12 = 11) with hc1 | hc1 | hc1 | hc1 | hc1 | hc1 | hc1 | hc1 | hc1 | hc1 | hc1 | hc1
  · exact tc_main 18 (by decide) 0 (fun i => match i with | 0 => x0 | _ => x1) ⟨hr0, hr1, hc0, hc1⟩ (tc_k18 0 _ _) (tc_e18_0 _ _) w hb
  · exact tc_main 18 (by decide) 1 (fun i => match i with | 0 => x0 | _ => x1) ⟨hr0, hr1, hc0, hc1⟩ (tc_k18 1 _ _) (tc_e18_1 _ _) w hb
  · exact tc_main 18 (by decide) 2 (fun i => match i with | 0 => x0 | _ => x1) ⟨hr0, hr1, hc0, hc1⟩ (tc_k18 2 _ _) (tc_e18_2 _ _) w hb
  · exact tc_main 18 (by decide) 3 (fun i => match i with | 0 => x0 | _ => x1) ⟨hr0, hr1, hc0, hc1⟩ (tc_k18 3 _ _) (tc_e18_3 _ _) w hb
  · exact tc_main 18 (by decide) 4 (fun i => match i with | 0 => x0 | _ => x1) ⟨hr0, hr1, hc0, hc1⟩ (tc_k18 4 _ _) (tc_e18_4 _ _) w hb
  · exact tc_main 18 (by decide) 5 (fun i => match i with | 0 => x0 | _ => x1) ⟨hr0, hr1, hc0, hc1⟩ (tc_k18 5 _ _) (tc_e18_5 _ _) w hb
  · exact tc_main 18 (by decide) 6 (fun i => match i with | 0 => x0 | _ => x1) ⟨hr0, hr1, hc0, hc1⟩ (tc_k18 6 _ _) (tc_e18_6 _ _) w hb
  · exact tc_main 18 (by decide) 7 (fun i => match i with | 0 => x0 | _ => x1) ⟨hr0, hr1, hc0, hc1⟩ (tc_k18 7 _ _) (tc_e18_7 _ _) w hb
  · exact tc_main 18 (by decide) 8 (fun i => match i with | 0 => x0 | _ => x1) ⟨hr0, hr1, hc0, hc1⟩ (tc_k18 8 _ _) (tc_e18_8 _ _) w hb
  · exact tc_main 18 (by decide) 9 (fun i => match i with | 0 => x0 | _ => x1) ⟨hr0, hr1, hc0, hc1⟩ (tc_k18 9 _ _) (tc_e18_9 _ _) w hb
  · exact tc_main 18 (by decide) 10 (fun i => match i with | 0 => x0 | _ => x1) ⟨hr0, hr1, hc0, hc1⟩ (tc_k18 10 _ _) (tc_e18_10 _ _) w hb
  · exact tc_main 18 (by decide) 11 (fun i => match i with | 0 => x0 | _ => x1) ⟨hr0, hr1, hc0, hc1⟩ (tc_k18 11 _ _) (tc_e18_11 _ _) w hb
theorem tco_ret19 (x0 x1 : Int) (hr0 : -9223372036854775808 ≤ x0 ∧ x0 ≤ 9223372036854775807) (hr1 : -9223372036854775808 ≤ x1 ∧ x1 ≤ 9223372036854775807) (hc0 : (x0 % 18446744073709551616) % 20 = 19) (w : World) (hb : Begin 2 hG w) : Ret Tryz.prog 4 [.int .i64 x0, .int .i64 x1] w fun v w' => v = .bool true ∧ Kept none' w w' := by
  have h0 := Int.emod_nonneg (x1 % 18446744073709551616) (show (12 : Int) ≠ 0 by decide)
  have h1 := Int.emod_lt_of_pos (x1 % 18446744073709551616) (show (0 : Int) < 12 by decide)
  rcases (by omega : (x1 % 18446744073709551616) % 12 = 0 ∨ (x1 % 18446744073709551616) % 12 = 1 ∨ (x1 % 18446744073709551616) % 12 = 2 ∨ (x1 % 18446744073709551616) % 12 = 3 ∨ (x1 % 18446744073709551616) % 12 = 4 ∨ (x1 % 18446744073709551616) % 12 = 5 ∨ (x1 % 18446744073709551616) % 12 = 6 ∨ (x1 % 18446744073709551616) % 12 = 7 ∨ (x1 % 18446744073709551616) % 12 = 8 ∨ (x1 % 18446744073709551616) % 12 = 9 ∨ (x1 % 18446744073709551616) % 12 = 10 ∨ (x1 % 18446744073709551616) % 12 = 11) with hc1 | hc1 | hc1 | hc1 | hc1 | hc1 | hc1 | hc1 | hc1 | hc1 | hc1 | hc1
  · exact tc_main 19 (by decide) 0 (fun i => match i with | 0 => x0 | _ => x1) ⟨hr0, hr1, hc0, hc1⟩ (tc_k19 0 _ _) (tc_e19_0 _ _) w hb
  · exact tc_main 19 (by decide) 1 (fun i => match i with | 0 => x0 | _ => x1) ⟨hr0, hr1, hc0, hc1⟩ (tc_k19 1 _ _) (tc_e19_1 _ _) w hb
  · exact tc_main 19 (by decide) 2 (fun i => match i with | 0 => x0 | _ => x1) ⟨hr0, hr1, hc0, hc1⟩ (tc_k19 2 _ _) (tc_e19_2 _ _) w hb
  · exact tc_main 19 (by decide) 3 (fun i => match i with | 0 => x0 | _ => x1) ⟨hr0, hr1, hc0, hc1⟩ (tc_k19 3 _ _) (tc_e19_3 _ _) w hb
  · exact tc_main 19 (by decide) 4 (fun i => match i with | 0 => x0 | _ => x1) ⟨hr0, hr1, hc0, hc1⟩ (tc_k19 4 _ _) (tc_e19_4 _ _) w hb
  · exact tc_main 19 (by decide) 5 (fun i => match i with | 0 => x0 | _ => x1) ⟨hr0, hr1, hc0, hc1⟩ (tc_k19 5 _ _) (tc_e19_5 _ _) w hb
  · exact tc_main 19 (by decide) 6 (fun i => match i with | 0 => x0 | _ => x1) ⟨hr0, hr1, hc0, hc1⟩ (tc_k19 6 _ _) (tc_e19_6 _ _) w hb
  · exact tc_main 19 (by decide) 7 (fun i => match i with | 0 => x0 | _ => x1) ⟨hr0, hr1, hc0, hc1⟩ (tc_k19 7 _ _) (tc_e19_7 _ _) w hb
  · exact tc_main 19 (by decide) 8 (fun i => match i with | 0 => x0 | _ => x1) ⟨hr0, hr1, hc0, hc1⟩ (tc_k19 8 _ _) (tc_e19_8 _ _) w hb
  · exact tc_main 19 (by decide) 9 (fun i => match i with | 0 => x0 | _ => x1) ⟨hr0, hr1, hc0, hc1⟩ (tc_k19 9 _ _) (tc_e19_9 _ _) w hb
  · exact tc_main 19 (by decide) 10 (fun i => match i with | 0 => x0 | _ => x1) ⟨hr0, hr1, hc0, hc1⟩ (tc_k19 10 _ _) (tc_e19_10 _ _) w hb
  · exact tc_main 19 (by decide) 11 (fun i => match i with | 0 => x0 | _ => x1) ⟨hr0, hr1, hc0, hc1⟩ (tc_k19 11 _ _) (tc_e19_11 _ _) w hb
theorem tco_ret (x0 : Int) (hr0 : -9223372036854775808 ≤ x0 ∧ x0 ≤ 9223372036854775807) (x1 : Int) (hr1 : -9223372036854775808 ≤ x1 ∧ x1 ≤ 9223372036854775807) (w : World) (hb : Begin 2 hG w) : Ret Tryz.prog 4 [.int .i64 x0, .int .i64 x1] w fun v w' => v = .bool true ∧ Kept none' w w' := by
  have h0 := Int.emod_nonneg (x0 % 18446744073709551616) (show (20 : Int) ≠ 0 by decide)
  have h1 := Int.emod_lt_of_pos (x0 % 18446744073709551616) (show (0 : Int) < 20 by decide)
  rcases (by omega : (x0 % 18446744073709551616) % 20 = 0 ∨ (x0 % 18446744073709551616) % 20 = 1 ∨ (x0 % 18446744073709551616) % 20 = 2 ∨ (x0 % 18446744073709551616) % 20 = 3 ∨ (x0 % 18446744073709551616) % 20 = 4 ∨ (x0 % 18446744073709551616) % 20 = 5 ∨ (x0 % 18446744073709551616) % 20 = 6 ∨ (x0 % 18446744073709551616) % 20 = 7 ∨ (x0 % 18446744073709551616) % 20 = 8 ∨ (x0 % 18446744073709551616) % 20 = 9 ∨ (x0 % 18446744073709551616) % 20 = 10 ∨ (x0 % 18446744073709551616) % 20 = 11 ∨ (x0 % 18446744073709551616) % 20 = 12 ∨ (x0 % 18446744073709551616) % 20 = 13 ∨ (x0 % 18446744073709551616) % 20 = 14 ∨ (x0 % 18446744073709551616) % 20 = 15 ∨ (x0 % 18446744073709551616) % 20 = 16 ∨ (x0 % 18446744073709551616) % 20 = 17 ∨ (x0 % 18446744073709551616) % 20 = 18 ∨ (x0 % 18446744073709551616) % 20 = 19) with hc0 | hc0 | hc0 | hc0 | hc0 | hc0 | hc0 | hc0 | hc0 | hc0 | hc0 | hc0 | hc0 | hc0 | hc0 | hc0 | hc0 | hc0 | hc0 | hc0
  · exact tco_ret0 x0 x1 hr0 hr1 hc0 w hb
  · exact tco_ret1 x0 x1 hr0 hr1 hc0 w hb
  · exact tco_ret2 x0 x1 hr0 hr1 hc0 w hb
  · exact tco_ret3 x0 x1 hr0 hr1 hc0 w hb
  · exact tco_ret4 x0 x1 hr0 hr1 hc0 w hb
  · exact tco_ret5 x0 x1 hr0 hr1 hc0 w hb
  · exact tco_ret6 x0 x1 hr0 hr1 hc0 w hb
  · exact tco_ret7 x0 x1 hr0 hr1 hc0 w hb
  · exact tco_ret8 x0 x1 hr0 hr1 hc0 w hb
  · exact tco_ret9 x0 x1 hr0 hr1 hc0 w hb
  · exact tco_ret10 x0 x1 hr0 hr1 hc0 w hb
  · exact tco_ret11 x0 x1 hr0 hr1 hc0 w hb
  · exact tco_ret12 x0 x1 hr0 hr1 hc0 w hb
  · exact tco_ret13 x0 x1 hr0 hr1 hc0 w hb
  · exact tco_ret14 x0 x1 hr0 hr1 hc0 w hb
  · exact tco_ret15 x0 x1 hr0 hr1 hc0 w hb
  · exact tco_ret16 x0 x1 hr0 hr1 hc0 w hb
  · exact tco_ret17 x0 x1 hr0 hr1 hc0 w hb
  · exact tco_ret18 x0 x1 hr0 hr1 hc0 w hb
  · exact tco_ret19 x0 x1 hr0 hr1 hc0 w hb
end Go.Proofs.YtmpgfgemnhbkhaaGreatDoor
