/- TipstaffPasses: the walk (mktpw.py). -/
import Derived.Test.YtipfkfecelkhnaaGreatDoorEngXO
import Derived.Test.YtipfkfecelkhnaaGreatDoorXtpr0
set_option maxRecDepth 100000
set_option linter.unusedVariables false
namespace Go.Proofs.YtipfkfecelkhnaaGreatDoor
open Go Go.Eng
def itemC : Nat → Cmd → Cmd
  | 0, .seq a _ => a
  | n + 1, .seq _ b => itemC n b
  | _, c => c
def fstC : Cmd → Cmd
  | .seq a _ => a
  | c => c
def secC : Cmd → Cmd
  | .seq _ b => b
  | c => c
def inC : Cmd → Cmd
  | .block _ a => a
  | .loop _ a => a
  | c => c
def tpC0 : Cmd := cutP 7 cm3
def tpC1 : Cmd := secC (inC (fstC (secC (inC (inC (secC (itemC 7 cm3)))))))
def tpC2 : Cmd := cutD 8 cm3
theorem tp_cut : cutD 7 cm3 = .seq (.seq (.set 18 (.const (.int .i64 0))) (.block 0 (.loop [0, 1, 4, 16, 17, 18] (.seq (.cond (.pick (.op2 (.bin .lss) (.var 18) (.op1 (.len false) (.var 0))) (.op2 (.bin .lss) (.var 18) (.const (.int .i64 9))) (.const (.bool false))) .skip (.exit 0)) (.seq (.block 1 (.seq (.set 19 (.op1 (.conv .i64) (.op2 (.bin .rem) (.op1 (.conv .u64) (.ld none (.op2 (.ixSl 1) (.var 0) (.var 18)))) (.const (.int .u64 4))))) tpC1)) (.set 18 (.op2 (.bin .add) (.var 18) (.const (.int .i64 1)))))))))  tpC2 := by kernel_rfl
theorem tp_x0 : toX Tryz.prog 3 365 tpC0 = some tpX0 := by kernel_rfl
theorem tp_x1 : toX Tryz.prog 3 365 tpC1 = some tpX1 := by kernel_rfl
theorem tp_x2 : toX Tryz.prog 3 365 tpC2 = some tpX2 := by kernel_rfl
theorem tp_no18 : noWr 18 tpC1 = true := by kernel_rfl
theorem wp_sq {P : Program} {a b : Cmd} {Q : Exit → Env → World → Prop} {env : Env} {w : World} (h : a.wp P (thenTo (b.wp P Q) Q) env w) : (Cmd.seq a b).wp P Q env w := h
theorem tp_var {env : Env} {w : World} {i : Nat} {v : Value} (h : env[i]? = some v) (hu : varV v = some v) : Ex.ev env w (.var i) = some v := by
  show (env[i]?).bind varV = _
  rw [h]; exact hu
theorem tp_cond {env : Env} {w : World} {i n c : Nat} {a : Option Addr} (h18 : env[18]? = some (.int .i64 (.ofNat i))) (h0 : env[0]? = some (.slice a n c)) : Ex.ev env w (.pick (.op2 (.bin .lss) (.var 18) (.op1 (.len false) (.var 0))) (.op2 (.bin .lss) (.var 18) (.const (.int .i64 9))) (.const (.bool false))) = some (.bool (decide (i < n) && decide (i < 9))) := by
  have e1 : Ex.ev env w (.var 18) = some (.int .i64 (.ofNat i)) := tp_var h18 rfl
  have e2 : Ex.ev env w (.var 0) = some (.slice a n c) := tp_var h0 rfl
  have c1 : Ex.ev env w (.op2 (.bin .lss) (.var 18) (.op1 (.len false) (.var 0))) = some (.bool (decide (i < n))) := by
    show ((Ex.ev env w (.var 18)).bind fun u => ((Ex.ev env w (.var 0)).bind (U1.ap (.len false))).bind fun v => U2.ap (.bin .lss) u v) = _
    rw [e1, e2]
    show some (Value.bool (decide ((Int.ofNat i) < (Int.ofNat n)))) = _
    congr 2
    exact decide_eq_decide.2 Int.ofNat_lt
  have c2 : Ex.ev env w (.op2 (.bin .lss) (.var 18) (.const (.int .i64 9))) = some (.bool (decide (i < 9))) := by
    show ((Ex.ev env w (.var 18)).bind fun u => U2.ap (.bin .lss) u (.int .i64 9)) = _
    rw [e1]
    show some (Value.bool (decide ((Int.ofNat i) < (9 : Int)))) = _
    congr 2
    exact decide_eq_decide.2 (by show ((i : Int) < 9) ↔ i < 9; omega)
  show ((Ex.ev env w (.op2 (.bin .lss) (.var 18) (.op1 (.len false) (.var 0)))).bind fun c => pickV c (Ex.ev env w (.op2 (.bin .lss) (.var 18) (.const (.int .i64 9)))) (some (.bool false))) = _
  rw [c1, c2]
  by_cases h : i < n
  · rw [decide_eq_true h]; rfl
  · rw [decide_eq_false h]; rfl
theorem tp_to {env : Env} {w : World} {i n c b o : Nat} {x : Int} (h18 : env[18]? = some (.int .i64 (.ofNat i))) (h0 : env[0]? = some (.slice (some ⟨b, o, none⟩) n c)) (hi : i < n) (hw : wcell w b (o + i) = some (.int .i64 x)) : Ex.ev env w (.op1 (.conv .i64) (.op2 (.bin .rem) (.op1 (.conv .u64) (.ld none (.op2 (.ixSl 1) (.var 0) (.var 18)))) (.const (.int .u64 4)))) = some (.int .i64 (.ofNat ((x % 18446744073709551616) % 4).toNat)) := by
  have e1 : Ex.ev env w (.var 18) = some (.int .i64 (.ofNat i)) := tp_var h18 rfl
  have e2 : Ex.ev env w (.var 0) = some (.slice (some ⟨b, o, none⟩) n c) := tp_var h0 rfl
  have c1 : Ex.ev env w (.op2 (.ixSl 1) (.var 0) (.var 18)) = some (.pointer (some ⟨b, o + i, none⟩)) := by
    show ((Ex.ev env w (.var 0)).bind fun u => (Ex.ev env w (.var 18)).bind fun v => U2.ap (.ixSl 1) u v) = _
    rw [e1, e2]
    show ixSlV 1 (.slice (some ⟨b, o, none⟩) n c) (.int .i64 (.ofNat i)) = _
    simp only [ixSlV]
    rw [if_pos ⟨by simp, by simp; omega⟩]
    simp
  have c2 : Ex.ev env w (.ld none (.op2 (.ixSl 1) (.var 0) (.var 18))) = some (.int .i64 x) := by
    show (Ex.ev env w (.op2 (.ixSl 1) (.var 0) (.var 18))).bind (ldv w none) = _
    rw [c1]
    exact hw
  show (((((Ex.ev env w (.ld none (.op2 (.ixSl 1) (.var 0) (.var 18)))).bind (U1.ap (.conv .u64))).bind fun u => U2.ap (.bin .rem) u (.int .u64 4))).bind (U1.ap (.conv .i64))) = _
  rw [c2]
  show ((intBin .rem .u64 (IntKind.u64.wrap x) .u64 4).bind (U1.ap (.conv .i64))) = _
  have h3 : intBin .rem .u64 (IntKind.u64.wrap x) .u64 4 = some (.int .u64 ((x % 18446744073709551616) % 4)) := by
    show (if IntKind.u64 = IntKind.u64 ∧ (4 : Int) ≠ 0 then some (Value.int .u64 ((IntKind.u64.wrap x).tmod 4)) else none) = _
    rw [if_pos ⟨rfl, by decide⟩, w_u64, Int.tmod_eq_emod_of_nonneg (by omega)]
  rw [h3]
  show some (Value.int .i64 (IntKind.i64.wrap ((x % 18446744073709551616) % 4))) = _
  congr 2
  have := w_i64 ((x % 18446744073709551616) % 4)
  show _ = (((x % 18446744073709551616) % 4).toNat : Int)
  omega
theorem tp_inc {env : Env} {w : World} {i : Nat} (h18 : env[18]? = some (.int .i64 (.ofNat i))) (hi : i < 9) : Ex.ev env w (.op2 (.bin .add) (.var 18) (.const (.int .i64 1))) = some (.int .i64 (.ofNat (i + 1))) := by
  have e1 : Ex.ev env w (.var 18) = some (.int .i64 (.ofNat i)) := tp_var h18 rfl
  show ((Ex.ev env w (.var 18)).bind fun u => U2.ap (.bin .add) u (.int .i64 1)) = _
  rw [e1]
  show some (Value.int .i64 (IntKind.i64.wrap ((i : Int) + 1))) = _
  congr 2
  have := w_i64 ((i : Int) + 1)
  show _ = ((i + 1 : Nat) : Int)
  omega
def tpN (tn fd to : Nat) : Nat := if to = tn then 1 - fd else 0
theorem tp_hop (x L : Int) (D : List RowD) (hf : Fits (thTab tpa.tb (tpa.pb x) (tpa.θe x L)) [tpa.Rw] D) : ∀ tn fd to, tn < 4 → fd < 2 → to < 4 → endsR 3 [] .normal (tpT to (tpN tn fd to)) (tpR (tpa.sy x L D hf) tpX1 (tpU tn fd to)) = true
  | 0, 0, 0, _, _, _ => tp_h_0_0_0 x L D hf
  | 0, 0, 1, _, _, _ => tp_h_0_0_1 x L D hf
  | 0, 0, 2, _, _, _ => tp_h_0_0_2 x L D hf
  | 0, 0, 3, _, _, _ => tp_h_0_0_3 x L D hf
  | 0, 1, 0, _, _, _ => tp_h_0_1_0 x L D hf
  | 0, 1, 1, _, _, _ => tp_h_0_1_1 x L D hf
  | 0, 1, 2, _, _, _ => tp_h_0_1_2 x L D hf
  | 0, 1, 3, _, _, _ => tp_h_0_1_3 x L D hf
  | 1, 0, 0, _, _, _ => tp_h_1_0_0 x L D hf
  | 1, 0, 1, _, _, _ => tp_h_1_0_1 x L D hf
  | 1, 0, 2, _, _, _ => tp_h_1_0_2 x L D hf
  | 1, 0, 3, _, _, _ => tp_h_1_0_3 x L D hf
  | 1, 1, 0, _, _, _ => tp_h_1_1_0 x L D hf
  | 1, 1, 1, _, _, _ => tp_h_1_1_1 x L D hf
  | 1, 1, 2, _, _, _ => tp_h_1_1_2 x L D hf
  | 1, 1, 3, _, _, _ => tp_h_1_1_3 x L D hf
  | 2, 0, 0, _, _, _ => tp_h_2_0_0 x L D hf
  | 2, 0, 1, _, _, _ => tp_h_2_0_1 x L D hf
  | 2, 0, 2, _, _, _ => tp_h_2_0_2 x L D hf
  | 2, 0, 3, _, _, _ => tp_h_2_0_3 x L D hf
  | 2, 1, 0, _, _, _ => tp_h_2_1_0 x L D hf
  | 2, 1, 1, _, _, _ => tp_h_2_1_1 x L D hf
  | 2, 1, 2, _, _, _ => tp_h_2_1_2 x L D hf
  | 2, 1, 3, _, _, _ => tp_h_2_1_3 x L D hf
  | 3, 0, 0, _, _, _ => tp_h_3_0_0 x L D hf
  | 3, 0, 1, _, _, _ => tp_h_3_0_1 x L D hf
  | 3, 0, 2, _, _, _ => tp_h_3_0_2 x L D hf
  | 3, 0, 3, _, _, _ => tp_h_3_0_3 x L D hf
  | 3, 1, 0, _, _, _ => tp_h_3_1_0 x L D hf
  | 3, 1, 1, _, _, _ => tp_h_3_1_1 x L D hf
  | 3, 1, 2, _, _, _ => tp_h_3_1_2 x L D hf
  | 3, 1, 3, _, _, _ => tp_h_3_1_3 x L D hf
  | _ + 4, _, _, h, _, _ => by omega
  | 0, _ + 2, _, _, h, _ => by omega
  | 1, _ + 2, _, _, h, _ => by omega
  | 2, _ + 2, _, _, h, _ => by omega
  | 3, _ + 2, _, _, h, _ => by omega
  | 0, 0, _ + 4, _, _, h => by omega
  | 0, 1, _ + 4, _, _, h => by omega
  | 1, 0, _ + 4, _, _, h => by omega
  | 1, 1, _ + 4, _, _, h => by omega
  | 2, 0, _ + 4, _, _, h => by omega
  | 2, 1, _ + 4, _, _, h => by omega
  | 3, 0, _ + 4, _, _, h => by omega
  | 3, 1, _ + 4, _, _, h => by omega
theorem tp_end (x L : Int) (D : List RowD) (hf : Fits (thTab tpa.tb (tpa.pb x) (tpa.θe x L)) [tpa.Rw] D) : ∀ tn fd, tn < 4 → fd < 2 → endsV [.var 2] (.bool true) (tpR (tpa.sy x L D hf) tpX2 (tpT tn fd)) = true
  | 0, 0, _, _ => tp_e_0_0 x L D hf
  | 0, 1, _, _ => tp_e_0_1 x L D hf
  | 1, 0, _, _ => tp_e_1_0 x L D hf
  | 1, 1, _, _ => tp_e_1_1 x L D hf
  | 2, 0, _, _ => tp_e_2_0 x L D hf
  | 2, 1, _, _ => tp_e_2_1 x L D hf
  | 3, 0, _, _ => tp_e_3_0 x L D hf
  | 3, 1, _, _ => tp_e_3_1 x L D hf
  | _ + 4, _, h, _ => by omega
  | 0, _ + 2, _, h => by omega
  | 1, _ + 2, _, h => by omega
  | 2, _ + 2, _, h => by omega
  | 3, _ + 2, _, h => by omega
/-- The walk. -/
theorem tpa_ret (a : Option Addr) (n c : Nat) (xs : List Int) (w : World) (hr : RowAt1 w .i64 a n xs) (hnc : n ≤ c) (x : Int) (hb : Begin 3 hG w) : Ret Tryz.prog 3 [.slice a n c, .int .i32 x] w fun v w' => v = .bool true ∧ Kept none' w w' := by
  have hf : Fits (thTab tpa.tb (tpa.pb x) (tpa.θe x n)) [tpa.Rw] [⟨a, n, c, 0⟩] := fits_one hr rfl rfl (Nat.zero_le _) hnc (by decide) (fun v hv => nomatch hv) rfl
  have hK : Go.Eng.RowsIn (thTab tpa.tb (tpa.pb x) (tpa.θe x n)) [tpa.Rw] [⟨a, n, c, 0⟩] w := ⟨fun b o _ h => absurd rfl h, trivial⟩
  letI S : Sy := tpa.sy x n [⟨a, n, c, 0⟩] hf
  have ht := xtabS_ok w hb
  have hR := xcall_ok (wE := w) add_ok ht 400
  have snd := fun c x (hx : toX Tryz.prog 3 365 c = some x) => toX_snd add_ok ht.fun hR c x hx
  refine ret_of_cmd Tryz.func3 (Nat.le_of_ble_eq_true (by kernel_rfl)) cmp_3 ?_
  refine wp_pre 7 cm3 (Cmd.wp_mono tpC0 (fun y e u hp => ?_) (stretchR (snd tpC0 tpX0 tp_x0) (tp_pre x n _ hf) (AtS.begin hb hK (vs := [.chan (some 1000), .chan (some 0)]) (vs' := [.slice a n c, .int .i32 x]) ⟨.inl ⟨rfl, rfl⟩, .inl ⟨rfl, rfl⟩, trivial⟩ xf3.V)))
  obtain ⟨rfl, h1⟩ := hp
  show (cutD 7 cm3).wp Tryz.prog _ e u
  rw [tp_cut]
  refine wp_sq (wp_sq ?_)
  show Cmd.wp Tryz.prog (.loop [0, 1, 4, 16, 17, 18] (.seq (.cond (.pick (.op2 (.bin .lss) (.var 18) (.op1 (.len false) (.var 0))) (.op2 (.bin .lss) (.var 18) (.const (.int .i64 9))) (.const (.bool false))) .skip (.exit 0)) (.seq (.block 1 (.seq (.set 19 (.op1 (.conv .i64) (.op2 (.bin .rem) (.op1 (.conv .u64) (.ld none (.op2 (.ixSl 1) (.var 0) (.var 18)))) (.const (.int .u64 4))))) tpC1)) (.set 18 (.op2 (.bin .add) (.var 18) (.const (.int .i64 1))))))) _ (e.set 18 (.int .i64 0)) u
  have h18 : (e.set 18 (.int .i64 0))[18]? = some (.int .i64 (.ofNat 0)) := by
    have hl := h1.length
    have hl : 30 = e.length := hl
    rw [List.getElem?_set_self (by omega)]; rfl
  have h2 : AtS 3 w (tpT 0 1) (e.set 18 (.int .i64 0)) u := by
    obtain ⟨ρ, hs, he⟩ := h1
    exact ⟨ρ, hs, he.set' 18 (u := undef) (.inl rfl)⟩
  refine wp_rounds (fun i e u => (∃ tn fd, tn < 4 ∧ fd < 2 ∧ AtS 3 w (tpT tn fd) e u) ∧ e[18]? = some (.int .i64 (.ofNat i))) (min n 9) ⟨⟨0, 1, by decide, by decide, h2.mask (by kernel_rfl)⟩, (mask_at (by rfl) _).trans h18⟩ (fun i hi e u hat => ?_) (fun e u hat => ?_)
  · obtain ⟨⟨tn, fd, g1, g2, hat⟩, h18⟩ := hat
    have q0 : e[0]? = some (.slice a n c) := hat.slot (i := 0) (u := .chan (some 1000)) rfl rfl
    show Ok (Ex.ev e u (.pick (.op2 (.bin .lss) (.var 18) (.op1 (.len false) (.var 0))) (.op2 (.bin .lss) (.var 18) (.const (.int .i64 9))) (.const (.bool false)))) _
    rw [tp_cond h18 q0, Ok_some, decide_eq_true (show i < n by omega), decide_eq_true (show i < 9 by omega)]
    show Cmd.wp Tryz.prog (.seq (.block 1 (.seq (.set 19 (.op1 (.conv .i64) (.op2 (.bin .rem) (.op1 (.conv .u64) (.ld none (.op2 (.ixSl 1) (.var 0) (.var 18)))) (.const (.int .u64 4))))) tpC1)) (.set 18 (.op2 (.bin .add) (.var 18) (.const (.int .i64 1))))) _ e u
    obtain ⟨b, o, rfl, hc⟩ := hr.2.resolve_left (by omega)
    have hw0 := hc i (by omega)
    have hwu : wcell u b (o + i) = some (.int .i64 (xs.getD i 0)) := by
      unfold wcell at hw0 ⊢
      rw [hat.kept.block b (wcell_size (hc i (by omega))) fun h => h]
      exact hw0
    show Ok (Ex.ev e u (.op1 (.conv .i64) (.op2 (.bin .rem) (.op1 (.conv .u64) (.ld none (.op2 (.ixSl 1) (.var 0) (.var 18)))) (.const (.int .u64 4))))) _
    rw [tp_to h18 q0 (by omega) hwu, Ok_some]
    generalize hto : ((xs.getD i 0 % 18446744073709551616) % 4).toNat = to
    have hto4 : to < 4 := by omega
    have h3 : AtS 3 w (tpU tn fd to) (e.set 19 (.int .i64 (.ofNat to))) u := hat.setS 19 (u := .int .i64 (.ofNat to)) rfl
    have h18' : (e.set 19 (.int .i64 (.ofNat to)))[18]? = some (.int .i64 (.ofNat i)) := by
      rw [List.getElem?_set_ne (by decide)]; exact h18
    refine Cmd.wp_mono tpC1 (fun y e2 u2 hp => ?_) (wp_frame tpC1 tp_no18 (stretchR (snd tpC1 tpX1 tp_x1) (tp_hop x n _ hf tn fd to g1 g2 hto4) h3))
    obtain ⟨⟨rfl, h4⟩, h5⟩ := hp
    rw [h18'] at h5
    show Ok (Ex.ev e2 u2 (.op2 (.bin .add) (.var 18) (.const (.int .i64 1)))) _
    rw [tp_inc h5 (by omega), Ok_some]
    have h6 : AtS 3 w (tpT to (tpN tn fd to)) (e2.set 18 (.int .i64 (.ofNat (i + 1)))) u2 := by
      obtain ⟨ρ, hs, he⟩ := h4
      exact ⟨ρ, hs, he.set' 18 (u := undef) (.inl rfl)⟩
    refine ⟨⟨to, tpN tn fd to, hto4, by unfold tpN; split <;> omega, h6.mask (by kernel_rfl)⟩, (mask_at (by rfl) _).trans ?_⟩
    have hl := h4.length
    have hl : 30 = e2.length := hl
    rw [List.getElem?_set_self (by omega)]
  · obtain ⟨⟨tn, fd, g1, g2, hat⟩, h18⟩ := hat
    have q0 : e[0]? = some (.slice a n c) := hat.slot (i := 0) (u := .chan (some 1000)) rfl rfl
    show Ok (Ex.ev e u (.pick (.op2 (.bin .lss) (.var 18) (.op1 (.len false) (.var 0))) (.op2 (.bin .lss) (.var 18) (.const (.int .i64 9))) (.const (.bool false)))) _
    have hno : (decide (min n 9 < n) && decide (min n 9 < 9)) = false := by
      rcases Nat.lt_or_ge n 9 with g | g
      · rw [decide_eq_false (show ¬ (min n 9 < n) by omega)]; rfl
      · rw [decide_eq_false (show ¬ (min n 9 < 9) by omega), Bool.and_false]
    rw [tp_cond h18 q0, Ok_some, hno]
    refine Cmd.wp_mono tpC2 (fun y e u hp => ?_) (stretchV (snd tpC2 tpX2 tp_x2) (rs := [.var 2]) (by kernel_rfl) rfl (tp_end x n _ hf tn fd g1 g2) hat)
    obtain ⟨rfl, h6⟩ := hp
    exact h6
end Go.Proofs.YtipfkfecelkhnaaGreatDoor
