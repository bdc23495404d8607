/- Layer 11, part H: rights read back from words. -/
import Derived.Test.YtaaicadjoghbcaaDoorRtG
set_option linter.unusedSimpArgs false
set_option linter.unusedVariables false
set_option maxRecDepth 8000
namespace Go.Proofs.YtaaicadjoghbcaaDoor
open Go.Eng

def word16 : List Nat → Option Nat
  | [] => none
  | _ :: r => (pu r).num?
def privL : List Nat := [112, 114, 105, 118, 105, 108, 101, 103, 101, 100]
def sgnL : List Nat := [115, 105, 103, 110, 101, 100]
def rtOf (ws : List (List Nat)) : Option Rt := if ws.length < 4 then none else
  match word16 (ws.getD 0 []), word16 (ws.getD 1 []), word16 (ws.getD 2 []), word16 (ws.getD 3 []) with
  | some a, some b, some c, some d => some ⟨a, b, c, d, decide (privL ∈ ws.drop 4), decide (sgnL ∈ ws.drop 4)⟩
  | _, _, _, _ => none
def parseF (l : List Nat) : Option Rt := match rtOf (splitG 32 l) with
  | some r => if textL r = l then some r else none
  | none => none
def parseV (o : Option Rt) : Value := .tuple #[(o.getD Rt.zero).val, .int .i64 (if o.isSome then 0 else 22)]

theorem p16_lt : ∀ (l : List Nat) (a n : Nat), a < 65536 → p16 a l = .num n → n < 65536
  | [], a, n, ha, h => by simp [p16] at h; omega
  | c :: r, a, n, ha, h => by
    unfold p16 at h
    cases hd : hexDig c with
    | none => rw [hd] at h; cases h
    | some d =>
      rw [hd] at h
      simp only at h
      split at h
      · cases h
      · exact p16_lt r _ n (by omega) h
theorem word16_lt {l : List Nat} {n : Nat} (h : word16 l = some n) : n < 65536 := by
  unfold word16 at h
  cases l with
  | nil => cases h
  | cons x r =>
    simp only at h
    unfold pu at h
    split at h
    · cases h
    · cases hp : p16 0 r with
      | num k => rw [hp] at h; simp [PR.num?] at h; subst h; exact p16_lt r 0 k (by omega) hp
      | syn => rw [hp] at h; cases h
      | rng => rw [hp] at h; cases h
theorem rtOf_none {ws : List (List Nat)} {i : Nat} (hi : i < 4) (h : word16 (ws.getD i []) = none) : rtOf ws = none := by
  unfold rtOf
  split
  · rfl
  · have : i = 0 ∨ i = 1 ∨ i = 2 ∨ i = 3 := by omega
    rcases this with rfl | rfl | rfl | rfl <;> rw [h] <;> (repeat' split) <;> simp_all
theorem rtOf_some {ws : List (List Nat)} {ns : Nat → Nat} (h4 : 4 ≤ ws.length) (h : ∀ i, i < 4 → word16 (ws.getD i []) = some (ns i)) : rtOf ws = some ⟨ns 0, ns 1, ns 2, ns 3, decide (privL ∈ ws.drop 4), decide (sgnL ∈ ws.drop 4)⟩ := by
  unfold rtOf
  rw [if_neg (by omega), h 0 (by omega), h 1 (by omega), h 2 (by omega), h 3 (by omega)]

theorem bs_tail (x : Nat) (r : List Nat) : slStrV (.string (bs (x :: r))) (.int .i64 1) (.int .i64 ((r.length + 1 : Nat) : Int)) = some (.string (bs r)) := by
  rw [slStrV_string, if_pos ⟨by omega, by omega, by simp⟩]
  congr 2
  refine ByteArray.ext ?_
  rw [ByteArray.data_extract]
  simp [bs]
  exact List.take_of_length_le (by simp)
theorem splitG_mem_len {l : List Nat} : ∀ m ∈ splitG 32 l, m.length ≤ l.length := by
  induction l with
  | nil => intro m hm; simp [splitG] at hm; subst hm; simp
  | cons a r ih =>
    intro m hm
    by_cases h : a = 32
    · simp only [splitG, if_pos h] at hm
      rcases List.mem_cons.1 hm with rfl | hm
      · simp
      · have := ih m hm; simp; omega
    · simp only [splitG, if_neg h] at hm
      rcases List.mem_cons.1 hm with rfl | hm
      · have := ih ((splitG 32 r).headD []) (by rw [← splitG_head 32 r]; simp)
        simpa using this
      · have := ih m (by rw [← splitG_head 32 r]; simp [hm]); simp; omega
theorem bs_neq {m l : List Nat} (hm : Oct m) (hl : Oct l) : strBin .neq (bs m) (bs l) = some (.bool (decide (m ≠ l))) := by
  have := bs_eql hm hl
  unfold strBin at this ⊢
  simp only [Option.some.injEq, Value.bool.injEq] at this ⊢
  rw [this]
  by_cases h : m = l <;> simp [h]
theorem oct_append {a b : List Nat} (ha : Oct a) (hb : Oct b) : Oct (a ++ b) := fun x hx => (List.mem_append.1 hx).elim (ha x) (hb x)
theorem textL_oct (r : Rt) (hr : r.wf) : Oct (textL r) := by
  rw [textL_eq]
  have h := fun n => hexF_mem (f := 16) (n := n)
  refine oct_append (oct_append (oct_append (oct_append (oct_append (oct_append (oct_append (oct_append (oct_append ?_ (h _)) ?_) (h _)) ?_) (h _)) ?_) (h _)) ?_) ?_
  · show ∀ x ∈ [99], x ≤ 255; decide
  · show ∀ x ∈ [32, 112], x ≤ 255; decide
  · show ∀ x ∈ [32, 109], x ≤ 255; decide
  · show ∀ x ∈ [32, 104], x ≤ 255; decide
  · cases r.v
    · intro x hx; simp at hx
    · show ∀ x ∈ [32, 112, 114, 105, 118, 105, 108, 101, 103, 101, 100], x ≤ 255; decide
  · cases r.s
    · intro x hx; simp at hx
    · show ∀ x ∈ [32, 115, 105, 103, 110, 101, 100], x ≤ 255; decide
/-- The numbers read so far, in their row of four. -/
def NumsAt (w : World) (b : Nat) (i : Nat) (ns : Nat → Nat) : Prop := ∃ cs : Array Value, w.heap[b]? = some (.cells cs 45 (0, 0)) ∧ cs.size = 4 ∧ ∀ j, j < i → cs[j]? = some (.int .u16 (ns j : Nat))

set_option maxHeartbeats 2000000 in
theorem parse_ret (l : List Nat) (w : World) (hl : Oct l) (hlen : l.length ≤ 1000) (hg : GlobT w) :
    Ret Tryd.prog 7 [.string (bs l)] w fun v w' => v = parseV (parseF l) ∧ Kept none' w w' := by
  refine ret_of_W Tryd.func7 rfl ok_rights_Parse ?_
  simp [c_rights_Parse, zero_arr]
  have hp1 : ((w.alloc (.cells Rt.zero.arr 27)).alloc (.cells (Array.replicate 4 (.int .u16 0)) 45)).heap[w.heap.size]? = some (.cells Rt.zero.arr 27 (0, 0)) := hp_old (hp_new _ _) _
  have hp3 : ((w.alloc (.cells Rt.zero.arr 27)).alloc (.cells (Array.replicate 4 (.int .u16 0)) 45)).heap[w.heap.size + 1]? = some (.cells (Array.replicate 4 (.int .u16 0)) 45 (0, 0)) := hp_at (by simp)
  have hk1 : Kept none' w ((w.alloc (.cells Rt.zero.arr 27)).alloc (.cells (Array.replicate 4 (.int .u16 0)) 45)) := ((Kept.refl none' w).alloc _).alloc _
  have hs1 : ((w.alloc (.cells Rt.zero.arr 27)).alloc (.cells (Array.replicate 4 (.int .u16 0)) 45)).heap.size = w.heap.size + 2 := by simp
  generalize (w.alloc (.cells Rt.zero.arr 27)).alloc (.cells (Array.replicate 4 (.int .u16 0)) 45) = w1 at hp1 hp3 hk1 hs1 ⊢
  refine W_calmP (by simp) (split_ret l w1 hl (by omega) (hg.calm hk1)) ?_
  rintro v w2 hk2 ⟨b5, hb5, rfl, hws⟩
  have hb5' : b5 ≠ w.heap.size ∧ b5 ≠ w.heap.size + 1 := by omega
  have hn : (splitG 32 l).length ≤ 1001 := by have := splitG_len l; omega
  have hoct := splitG_oct hl
  have hwl : ∀ m ∈ splitG 32 l, m.length ≤ l.length := splitG_mem_len
  have hF : parseF l = match rtOf (splitG 32 l) with
    | some r => if textL r = l then some r else none
    | none => none := rfl
  generalize splitG 32 l = ws at hws hn hoct hwl hF ⊢
  have hbad : ∀ w', Kept none' w w' → w'.heap[w.heap.size]? = some (.cells Rt.zero.arr 27 (0, 0)) → ∃ w'', stv w' 6 (.pointer (some ⟨w.heap.size, 0, none⟩)) Rt.zero.val = some w'' ∧ Kept none' w w'' ∧ w''.heap[w.heap.size]? = some (.cells Rt.zero.arr 27 (0, 0)) := fun w' hk hb => by
    obtain ⟨w'', a, b, c, _, _⟩ := rt_box hk hb (Nat.le_refl _) Rt.zero
    exact ⟨w'', a, b, c⟩
  have hp1 := hk2.has hp1 (fun h => h)
  have hp3 := hk2.has hp3 (fun h => h)
  have hk2 := hk1.trans hk2
  simp only [W_set]
  refine ok_intro (.slice (some ⟨b5, 0, none⟩) ws.length ws.length) (by simp) ?_
  simp only [W_seq]
  by_cases h4 : ws.length < 4
  · refine W_yes (by simp; omega) ?_
    have hnone : parseF l = none := by rw [hF]; simp [rtOf, h4]
    obtain ⟨w3, hs, hk, hb⟩ := hbad _ hk2 hp1
    simp only [W_seq]
    refine W_store (xv := .pointer (some ⟨w.heap.size, 0, none⟩)) (vv := Rt.zero.val) (by simp) (by simp [Rt.val]) hs (stab_nil _ _ _) ?_
    simp [wrow_box hb, hnone, parseV, Rt.val]
    exact hk
  refine W_no (by simp; omega) ?_
  simp
  generalize hb1 : w.heap.size = b1 at hp1 hp3 hbad hb5' ⊢
  have hbb : w.heap.size ≤ b1 := by omega
  have hN0 : NumsAt w2 (b1 + 1) 0 (fun _ => 0) := ⟨_, hp3, by simp, fun j hj => by omega⟩
  refine W_loop (fun env w' => Kept none' w w' ∧ ∃ (i : Nat) (ns : Nat → Nat), env = [.string (bs l), .pointer (some ⟨b1, 0, none⟩), undef, .pointer (some ⟨b1 + 1, 0, none⟩), undef, .slice (some ⟨b5, 0, none⟩) ws.length ws.length, .int .i64 (i : Int), undef, undef, undef, undef, undef, undef, undef, undef, undef, undef, undef, undef, undef, undef] ∧
    i ≤ 4 ∧ (∀ j, j < i → word16 (ws.getD j []) = some (ns j)) ∧ NumsAt w' (b1 + 1) i ns ∧ StrsAt w' b5 0 ws ∧ w'.heap[b1]? = some (.cells Rt.zero.arr 27 (0, 0))) (fun env _ => 4 - natAt env 6) ?_ ?_
  · exact ⟨hk2, 0, _, by simp, by omega, fun j hj => by omega, hN0, hws, hp1⟩
  rintro env w3 ⟨hk3, i, ns, rfl, hi, hns, hN, hws3, hp13⟩
  by_cases hgo : i < 4
  · simp
    refine W_yes (by simp; omega) ?_
    have hgl : i < ws.length := by omega
    have hget : ws[i]? = some ws[i] := List.getElem?_eq_getElem hgl
    have hgd : ws.getD i [] = ws[i] := by rw [List.getD_eq_getElem?_getD, hget]; rfl
    have hm := hoct _ (List.getElem_mem hgl)
    have hml := hwl _ (List.getElem_mem hgl)
    have hcell := hws3 i _ hget
    rw [Nat.zero_add] at hcell
    generalize ws[i] = m at hget hgd hm hml hcell
    have he := bs_eql hm (l := []) (fun x h => by simp at h)
    have hbn : bs [] = ⟨#[]⟩ := rfl
    rw [hbn] at he
    have hil : (i : Int) < ws.length := by omega
    simp only [W_seq, W_skip]
    rw [W_block]
    simp only [W_seq, W_set]
    refine ok_intro (.int .i64 i) (by simp) ?_
    refine W_chkIn [.bool (decide (m = []))] (by simp [hgl, hil, hcell, he]) ?_
    by_cases hmn : m = []
    · have hnone : parseF l = none := by
        rw [hF, rtOf_none hgo (by rw [hgd, hmn]; rfl)]
      subst hmn
      refine W_yes (by simp [hgl, hil, hcell, he]) ?_
      obtain ⟨w4, hs, hk, hb⟩ := hbad _ hk3 hp13
      simp only [W_seq]
      refine W_store (xv := .pointer (some ⟨b1, 0, none⟩)) (vv := Rt.zero.val) (by simp) (by simp [Rt.val]) hs (stab_nil _ _ _) ?_
      simp [wrow_box hb, hnone, parseV, Rt.val]
      exact hk
    refine W_no (by simp [hgl, hil, hcell, he, hmn]) ?_
    obtain ⟨x, r, rfl⟩ : ∃ x r, m = x :: r := by
      cases m with
      | nil => exact absurd rfl hmn
      | cons x r => exact ⟨x, r, rfl⟩
    have hrl : r.length ≤ 1000000 := by
      simp at hml; omega
    have hr : Oct r := fun y hy => hm y (List.mem_cons_of_mem _ hy)
    have htail := bs_tail x r
    have hw : word16 (x :: r) = (pu r).num? := rfl
    simp only [W_seq, W_skip]
    refine W_calmP (vs := [.string (bs r), .int .i64 16, .int .i64 16]) ?_ (parseU_ret r w3 hr hrl (hg.calm hk3)) ?_
    · simp [hgl, hil, hcell, htail, -slStrV_string, -Int.natCast_add]
    intro v w4 hk4 hv
    have hws4 := hws3.calm hk4
    have hp14 := hk4.has hp13 (fun h => h)
    unfold PUIs at hv
    simp only [W_seq]
    cases hq : (pu r).num? with
    | none =>
      rw [hq] at hv
      obtain ⟨y, t, a, rfl⟩ := hv
      have hnone : parseF l = none := by rw [hF, rtOf_none hgo (by rw [hgd, hw, hq])]
      refine W_chkIn [.iface t a] (by simp) ?_
      simp only [W_seq, W_set]
      refine ok_intro y (by simp) ?_
      refine ok_intro (.iface t a) (by simp) ?_
      refine W_yes (by simp) ?_
      obtain ⟨w5, hs, hk, hb⟩ := hbad _ (hk3.trans hk4) hp14
      simp only [W_seq]
      refine W_store (xv := .pointer (some ⟨b1, 0, none⟩)) (vv := Rt.zero.val) (by simp) (by simp [Rt.val]) hs (stab_nil _ _ _) ?_
      simp [wrow_box hb, hnone, parseV, Rt.val]
      exact hk
    | some n =>
      rw [hq] at hv
      subst hv
      have hn6 := word16_lt (l := x :: r) (hw.trans hq)
      refine W_chkIn [.nilIface] (by simp) ?_
      simp only [W_seq, W_set]
      refine ok_intro (.int .u64 n) (by simp) ?_
      refine ok_intro .nilIface (by simp) ?_
      refine W_no (by simp) ?_
      simp only [W_skip]
      obtain ⟨cs, hc1, hc2, hc3⟩ := hN
      have hc4 := hk4.has hc1 (fun h => h)
      have e16 : IntKind.u16.wrap (n : Int) = n := u16w (by omega) (by omega)
      have hst := stv_of (n := 1) (off := i) (v := .int .u16 (n : Nat)) hc4 rfl (by omega) (.inl (by simp)) (by simp [Value.oneCell'])
      refine W_store (xv := .pointer (some ⟨b1 + 1, i, none⟩)) (vv := .int .u16 (n : Nat)) ?_ ?_ hst (stab_nil _ _ _) ?_
      · simp; omega
      · simp [e16]
      have e2 : IntKind.i64.wrap ((i : Int) + 1) = ((i + 1 : Nat) : Int) := i64w (by omega) (by omega)
      have hk5 := (hk3.trans hk4).putNew (b := b1 + 1) (by omega) (.cells (setRow cs i (Value.int .u16 (n : Nat)).cells.toList) 45 (0, 0))
      simp [e2, -cells_int]
      refine ⟨⟨hk5, i + 1, by omega, by omega, fun j => if j = i then n else ns j, ?_, ⟨_, put_same (blk_lt hc4), by simpa using hc2, ?_⟩, ?_, ?_⟩, by simp [natAt]; omega⟩
      · intro j hj
        by_cases hji : j = i
        · subst hji; rw [hget]; show word16 (x :: r) = some (if j = j then n else ns j); rw [if_pos rfl]; exact hw.trans hq
        · show _ = some (if j = i then n else ns j); rw [if_neg hji]; simpa using hns j (by omega)
      · intro j hj
        simp only [cells_int]
        show (setRow cs i [Value.int .u16 (n : Nat)])[j]? = _
        rw [setRow_eq]
        by_cases hji : j = i
        · subst hji
          rw [if_pos (by simp only [List.length_singleton]; omega), if_pos rfl, Nat.sub_self]; rfl
        · rw [if_neg (by simp only [List.length_singleton]; omega), if_neg hji]
          exact hc3 j (by omega)
      · intro k m hm
        have := hws4 k m hm
        unfold wcell at this ⊢
        rw [put_other hb5'.2]; exact this
      · rw [put_other (by omega)]; exact hp14
  · have hi4 : i = 4 := by omega
    subst hi4
    simp
    refine W_no (by simp) ?_
    simp
    obtain ⟨cs, hc1, hc2, hc3⟩ := hN
    have hw0 := hc3 0 (by omega); have hw1 := hc3 1 (by omega); have hw2 := hc3 2 (by omega); have hw3 := hc3 3 (by omega)
    have hdl : (ws.drop 4).length = ws.length - 4 := by simp
    obtain ⟨o, ho, hst⟩ : ∃ o, (some (if ws.length = 4 then (⟨b5, 0, none⟩ : Addr) else ⟨b5, 4, none⟩)) = some ⟨b5, o, none⟩ ∧ StrsAt w3 b5 o (ws.drop 4) := by
      by_cases h : ws.length = 4
      · exact ⟨0, by rw [if_pos h], fun k m hm => by rw [List.drop_of_length_le (by omega)] at hm; simp at hm⟩
      · refine ⟨4, by rw [if_neg h], fun k m hm => ?_⟩
        rw [List.getElem?_drop] at hm
        have := hws3 (4 + k) m hm
        rwa [Nat.zero_add] at this
    have hr : rtOf ws = some ⟨ns 0, ns 1, ns 2, ns 3, decide (privL ∈ ws.drop 4), decide (sgnL ∈ ws.drop 4)⟩ := rtOf_some (by omega) hns
    have hb0 := word16_lt (hns 0 (by omega)); have hb1' := word16_lt (hns 1 (by omega)); have hb2 := word16_lt (hns 2 (by omega)); have hb3 := word16_lt (hns 3 (by omega))
    have hdo : ∀ m ∈ ws.drop 4, Oct m := fun m hm => hoct m (List.mem_of_mem_drop hm)
    rw [ho]
    refine ok_intro (.slice (some ⟨b5, o, none⟩) (ws.drop 4).length (ws.drop 4).length) ?_ ?_
    · rw [hdl, if_pos (by omega)]
    have hdn : (ws.drop 4).length ≤ 1000000 := by omega
    generalize ws.drop 4 = rest at hdl hst hr hdo hdn ⊢
    refine ok_intro (.int .u16 (ns 0 : Nat)) (by rw [wcell_of hc1]; exact hw0) ?_
    refine ok_intro (.int .u16 (ns 1 : Nat)) (by rw [wcell_of hc1]; exact hw1) ?_
    refine ok_intro (.int .u16 (ns 2 : Nat)) (by rw [wcell_of hc1]; exact hw2) ?_
    refine ok_intro (.int .u16 (ns 3 : Nat)) (by rw [wcell_of hc1]; exact hw3) ?_
    have hP : ∀ w', Kept none' w3 w' → Ret Tryd.prog 17 [.slice (some ⟨b5, o, none⟩) rest.length rest.length, .string ⟨#[112, 114, 105, 118, 105, 108, 101, 103, 101, 100]⟩] w' fun v w'' => v = .bool (decide (privL ∈ rest)) ∧ Kept none' w' w'' :=
      fun w' hk => contains_ret b5 o _ rest privL w' hdn hdo (by show ∀ x ∈ privL, x ≤ 255; decide) (hst.calm hk)
    have hS : ∀ w', Kept none' w3 w' → Ret Tryd.prog 17 [.slice (some ⟨b5, o, none⟩) rest.length rest.length, .string ⟨#[115, 105, 103, 110, 101, 100]⟩] w' fun v w'' => v = .bool (decide (sgnL ∈ rest)) ∧ Kept none' w' w'' :=
      fun w' hk => contains_ret b5 o _ rest sgnL w' hdn hdo (by show ∀ x ∈ sgnL, x ≤ 255; decide) (hst.calm hk)
    obtain ⟨R, hR⟩ : ∃ R : Rt, R = ⟨ns 0, ns 1, ns 2, ns 3, decide (privL ∈ rest), decide (sgnL ∈ rest)⟩ := ⟨_, rfl⟩
    rw [← hR] at hr
    have hRv : R.val = .agg #[.int .u16 (ns 0 : Nat), .int .u16 (ns 1 : Nat), .int .u16 (ns 2 : Nat), .int .u16 (ns 3 : Nat), .bool (decide (privL ∈ rest)), .bool (decide (sgnL ∈ rest))] := by rw [hR]; rfl
    have hza : Rt.zero.arr = #[.int .u16 0, .int .u16 0, .int .u16 0, .int .u16 0, .bool false, .bool false] := rfl
    have hwf : R.wf := by rw [hR]; exact ⟨hb0, hb1', hb2, hb3⟩
    have hk3d : Kept none' w3 w3.drew := (Kept.refl none' w3).drew
    refine W_cut (fun env w' => Kept none' w w' ∧ w'.heap[b1]? = some (.cells Rt.zero.arr 27 (0, 0)) ∧ ∃ (b18 : Nat) (x19 : Value), env = [.string (bs l), .pointer (some ⟨b1, 0, none⟩), undef, .pointer (some ⟨b1 + 1, 0, none⟩), undef, .slice (some ⟨b5, 0, none⟩) ws.length ws.length, .int .i64 4, undef, undef, undef, undef, .slice (some ⟨b5, o, none⟩) rest.length rest.length, .bool (decide (privL ∈ rest)), .bool (decide (sgnL ∈ rest)), .int .u16 (ns 0 : Nat), .int .u16 (ns 1 : Nat), .int .u16 (ns 2 : Nat), .int .u16 (ns 3 : Nat), .pointer (some ⟨b18, 0, none⟩), x19, undef] ∧ w'.heap[b18]? = some (.cells R.arr 27 (0, 0))) ?_ ?_
    · rw [W_alt]
      constructor
      · simp only [W_seq]
        refine W_calm (by simp) (hP w3.drew hk3d) ?_
        intro w4 hk4'
        have hk4 := hk3d.trans hk4'
        rw [W_alt]
        constructor
        · simp only [W_seq]
          refine W_calm (by simp) (hS w4 hk4) ?_
          intro w5 hk5
          simp only [W_seq, W_set]
          refine ok_intro R.val (by rw [hRv]; simp [hza]) ?_
          refine W_new' (v := Rt.zero.val) (cs := Rt.zero.arr) (by simp [Rt.val]) rfl ?_
          have hkk := hk3.trans (hk4.trans hk5)
          have hpz := hk5.has (hk4.has hp13 (fun h => h)) (fun h => h)
          obtain ⟨w6, hs6, hk6, hb6, ho6, _⟩ := rt_box (w0 := w) (hkk.alloc (.cells Rt.zero.arr 27)) (hp_new w5 (.cells Rt.zero.arr 27)) hkk.size R
          refine W_store (xv := .pointer (some ⟨w5.heap.size, 0, none⟩)) (vv := R.val) (by simp) (by simp [hRv]) hs6 (stab_nil _ _ _) ?_
          simp
          exact ⟨hk6, by rw [ho6 b1 (by have := blk_lt hpz; omega)]; exact hp_old hpz _, hb6⟩
        · simp only [W_seq]
          refine W_new' (v := Rt.zero.val) (cs := Rt.zero.arr) (by simp [Rt.val]) rfl ?_
          have hka : Kept none' w3 (w4.alloc (.cells Rt.zero.arr 27)) := hk4.alloc _
          have hpn := hp_new w4 (.cells Rt.zero.arr 27)
          have hkw := hk3.trans hk4
          have hpz := hk4.has hp13 (fun h => h)
          simp only [W_seq]
          refine W_calm (by simp) (hS _ hka) ?_
          intro w5 hk5
          simp only [W_seq, W_set]
          refine ok_intro R.val (by rw [hRv]; simp [hza]) ?_
          obtain ⟨w6, hs6, hk6, hb6, ho6, _⟩ := rt_box (w0 := w) ((hkw.alloc _).trans hk5) (hk5.has hpn (fun h => h)) hkw.size R
          refine W_store (xv := .pointer (some ⟨w4.heap.size, 0, none⟩)) (vv := R.val) (by simp) (by simp [hRv]) hs6 (stab_nil _ _ _) ?_
          simp
          exact ⟨hk6, by rw [ho6 b1 (by have := blk_lt hpz; omega)]; exact hk5.has (hp_old hpz _) (fun h => h), hb6⟩
      · simp only [W_seq]
        refine W_chkIn [.slice (some ⟨b5, o, none⟩) rest.length rest.length] (by simp) ?_
        simp only [W_seq]
        refine W_new' (v := Rt.zero.val) (cs := Rt.zero.arr) (by simp [Rt.val]) rfl ?_
        have hka : Kept none' w3 (w3.drew.alloc (.cells Rt.zero.arr 27)) := hk3d.alloc _
        have hpn := hp_new w3.drew (.cells Rt.zero.arr 27)
        have hkw := hk3.trans hk3d
        have hpz := hk3d.has hp13 (fun h => h)
        simp only [W_seq]
        refine W_calm (by simp) (hP _ hka) ?_
        intro w4 hk4
        simp only [W_seq]
        refine W_calm (by simp) (hS _ (hka.trans hk4)) ?_
        intro w5 hk5
        simp only [W_seq, W_set]
        refine ok_intro R.val (by rw [hRv]; simp [hza]) ?_
        obtain ⟨w6, hs6, hk6, hb6, ho6, _⟩ := rt_box (w0 := w) (((hkw.alloc _).trans hk4).trans hk5) (hk5.has (hk4.has hpn (fun h => h)) (fun h => h)) hkw.size R
        refine W_store (xv := .pointer (some ⟨w3.drew.heap.size, 0, none⟩)) (vv := R.val) (by simp) (by simp [hRv]) hs6 (stab_nil _ _ _) ?_
        simp
        exact ⟨hk6, by rw [ho6 b1 (by have := blk_lt hpz; omega)]; exact hk5.has (hk4.has (hp_old hpz _) (fun h => h)) (fun h => h), hb6⟩
    · rintro env w4 ⟨hk4, hpz, b18, x19, rfl, hb18⟩
      simp only [W_seq]
      refine W_calm (by simp [wrow_box hb18]) (text_ret R w4 (hg.toGlob.calm hk4) hwf) ?_
      intro w5 hk5
      have hto := textL_oct R hwf
      have hne := bs_neq hto hl
      have hF' : parseF l = if textL R = l then some R else none := by rw [hF, hr]
      have hpz5 := hk5.has hpz (fun h => h)
      have hb18' := hk5.has hb18 (fun h => h)
      by_cases hte : textL R = l
      · have hne' : strBin .neq (bs l) (bs l) = some (.bool false) := by simpa using bs_neq hl hl
        refine W_no (by simp [hte, hne']) ?_
        obtain ⟨w6, hs6, hk6, hb6, _, _⟩ := rt_box (hk4.trans hk5) hpz5 hbb R
        simp only [W_seq, W_skip]
        refine W_store (xv := .pointer (some ⟨b1, 0, none⟩)) (vv := R.val) (by simp) (by simp [wrow_box hb18', Rt.val]) hs6 (stab_nil _ _ _) ?_
        simp [wrow_box hb6, hF', hte, parseV, Rt.val]
        exact hk6
      · refine W_yes (by simp [hne, hte]) ?_
        obtain ⟨w6, hs6, hk6, hb6⟩ := hbad _ (hk4.trans hk5) hpz5
        simp only [W_seq]
        refine W_store (xv := .pointer (some ⟨b1, 0, none⟩)) (vv := Rt.zero.val) (by simp) (by simp [Rt.val]) hs6 (stab_nil _ _ _) ?_
        simp [wrow_box hb6, hF', hte, parseV, Rt.val]
        exact hk6
end Go.Proofs.YtaaicadjoghbcaaDoor
