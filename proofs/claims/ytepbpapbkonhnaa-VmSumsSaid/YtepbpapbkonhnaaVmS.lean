/- Layer 20: the walk of VmLuck. -/
import Derived.Test.YtepbpapbkonhnaaVmR
set_option linter.unusedSimpArgs false
set_option linter.unusedVariables false
set_option maxRecDepth 8000
namespace Go.Proofs.Ytepbpapbkonhnaa
open Go.Eng

theorem row_box {w : World} {T : TypeId} {k n g : Nat} {cur : Array Value} (h : w.heap[g]? = some (.cells cur T (0, 0))) (hs : cur.size = n * k) (hn : n ≤ 1000000) : Row T k w (.slice (some ⟨g, 0, none⟩) n n) n cur.toList :=
  ⟨by simp [hs], .inr ⟨g, n, cur, rfl, Nat.zero_le _, h, Nat.le_refl _, by unfold maxLen; omega, hs, List.take_of_length_le (by simp [hs])⟩⟩
theorem append_zero {P : Program} {t ty e : TypeId} (ht : P.underlying t = some (.slice e)) (hi' : (P.info? e).isSome = true) (a : Addr) (n c : Nat) (hn : n ≤ c) (b : Option Addr) (d : Nat) (w : World) :
    (builtin .append #[t, t] ty #[] #[.slice (some a) n c, .slice b 0 d]).run P w = .ok (.value (.slice (some a) n c)) w := by
  obtain ⟨i, hi⟩ := Option.isSome_iff_exists.1 hi'
  cases b <;> (simp [builtin, Builtin.append_, run_underlying ht, sizeOf, typeInfo, hi, Builtin.lenOf, hn, Builtin.firstCells, loadCells, loadCellsFrom]; try rfl)
/-- A slice of numbers of 64 bits. -/
def U64s (w : World) (v : Value) (xs : List Int) : Prop :=
  ∃ (a : Option Addr) (n c : Nat), v = .slice a n c ∧ n = xs.length ∧ n ≤ c ∧ c ≤ 9223372036854775807 ∧ (∀ x ∈ xs, 0 ≤ x ∧ x ≤ 18446744073709551615) ∧ (n = 0 ∨ ∃ b off, a = some ⟨b, off, none⟩ ∧ ∀ i, i < n → wcell w b (off + i) = some (.int .u64 (xs.getD i 0)))
def u64c (xs : List Int) : List Value := xs.map fun x => .int .u64 x
theorem slSl_zero (esz : Nat) (a : Option Addr) (n c : Nat) (k k' : IntKind) (h : Int) (h0 : 0 ≤ h) (h1 : h ≤ c) : slSlV esz (.slice a n c) (.int k 0) (.int k' h) = some (.slice a h.toNat c) := by
  cases a with
  | none => simp [h0, h1]
  | some a =>
    show (if 0 ≤ (0 : Int) ∧ 0 ≤ h ∧ h ≤ c then some (Value.slice (some (if c = (0 : Int).toNat then a else a.add ((0 : Int).toNat * esz))) (h.toNat - (0 : Int).toNat) (c - (0 : Int).toNat)) else none) = _
    rw [if_pos ⟨by omega, h0, h1⟩]
    have : a.add ((0 : Int).toNat * esz) = a := by simp [Addr.add]
    rw [this]
    simp
theorem luck_of_row {w : World} {S : Nat → Prop} {v : Value} {us : List Int} (h : Row 32 1 w v us.length (u64c us)) (hl : us.length < 1000) (hS : ∀ g, v.ownBlock = some g → ¬ S g) : Luck w S v us := by
  by_cases h0 : 0 < us.length
  · obtain ⟨g, cap, rfl, hc, ho, hcell⟩ := rowForm h h0
    refine ⟨some ⟨g, 0, none⟩, cap, rfl, by omega, .inr ⟨g, 0, rfl, hS g ho, fun i x hx => ?_⟩⟩
    rw [Nat.zero_add]
    exact hcell i _ (by simp [u64c, hx])
  · have hnil : us = [] := List.length_eq_zero_iff.1 (by omega)
    subst hnil
    rcases h.2 with ⟨rfl, _⟩ | ⟨g, cap, cur, rfl, _⟩
    · exact luck_none w S
    · exact ⟨_, _, rfl, by simp, .inl rfl⟩
theorem luckSum_range {clock : Int} {us : List Int} (hc : 0 ≤ clock ∧ clock ≤ 18446744073709551615) : ∀ i, 0 ≤ luckSum clock us i ∧ luckSum clock us i ≤ 18446744073709551615
  | 0 => hc
  | i + 1 => by show 0 ≤ IntKind.u64.wrap _ ∧ IntKind.u64.wrap _ ≤ _; rw [IntKind.wrap_u64]; omega

/-- The numbers that are taken, copied. -/
theorem luck_copy (a : Option Addr) (c : Nat) {xs : List Int} {w0 w : World} {q : Nat} (hx : U64s w (.slice a xs.length c) xs) (hq : w.heap[q]? = some (.cells #[] 32 (0, 0))) (hq0 : w0.heap.size ≤ q) (hk : Kept none' w0 w) :
    ∃ v w', (builtin .append #[60, 60] 60 #[] #[.slice (some ⟨q, 0, none⟩) 0 0, .slice a (min xs.length 6) c]).run Try.prog w = .ok (.value v) w' ∧ Kept none' w0 w' ∧
      Row 32 1 w' v (xs.take 6).length (u64c (xs.take 6)) ∧ (∀ g, v.ownBlock = some g → w0.heap.size ≤ g) := by
  obtain ⟨a', n, c', hv, hn, hnc, hc, hr, hcase⟩ := hx
  obtain ⟨rfl, rfl, rfl⟩ : a = a' ∧ xs.length = n ∧ c = c' := by simpa using hv
  have hrow0 : Row 32 1 w (.slice (some ⟨q, 0, none⟩) 0 0) 0 [] := row_box (n := 0) hq (by simp) (by omega)
  rcases hcase with h0 | ⟨b, off, rfl, hcell⟩
  · have hnil : xs = [] := List.length_eq_zero_iff.1 h0
    subst hnil
    exact ⟨_, w, append_zero Try.underlying60 (by kernel_rfl) _ 0 0 (by omega) a c w, hk, hrow0, fun g hg => by cases hg; exact hq0⟩
  · have hlen : (u64c (xs.take 6)).length = min xs.length 6 := by simp [u64c, Nat.min_comm]
    obtain ⟨v', w', h1, h2, h3, h4⟩ := row_append (P := Try.prog) (t := 60) (T := 32) (k := 1) (sb := b) (so := off) (c := c) (m := min xs.length 6) (ys := u64c (xs.take 6)) Try.underlying60 (by kernel_rfl) (by omega) hrow0 (by omega) (by rw [hlen]; omega)
      (fun j y hy => by
        have hj : j < min xs.length 6 := by rw [← hlen]; exact (List.getElem?_eq_some_iff.1 hy).1
        rw [hcell j (by omega)]
        simp only [u64c, List.getElem?_map, List.getElem?_take] at hy
        rw [if_pos (by omega), List.getElem?_eq_getElem (by omega)] at hy
        simp at hy
        rw [← hy, List.getD_eq_getElem?_getD, List.getElem?_eq_getElem (by omega)]
        rfl)
      (fun y hy => by
        simp only [u64c, List.mem_map] at hy
        obtain ⟨m, _, rfl⟩ := hy
        rfl)
    refine ⟨v', w', h1, hk.then h3 (fun j hj hS => ?_), ?_, fun g hg => ?_⟩
    · simp [Value.ownBlock] at hS; omega
    · have e : (xs.take 6).length = 0 + min xs.length 6 := by simp [Nat.min_comm]
      rw [e]
      exact h2
    · rcases h4 with h | h
      · rw [h] at hg; cases hg; exact hq0
      · rw [h] at hg; cases hg; exact hk.size

def lHead : List Ins := [⟨133, 0, 0, 0, 5⟩, ⟨191, 6, 0, 0, 0⟩]
def lTail : List Ins := [⟨191, 0, 6, 0, 0⟩, ⟨149, 0, 0, 0, 0⟩]
def lPart (i : Nat) : List Ins := lHead ++ (List.replicate i [luckIns, addIns]).flatten
theorem lPart_succ (i : Nat) : lPart i ++ [luckIns, addIns] = lPart (i + 1) := by
  unfold lPart
  rw [List.replicate_succ', List.flatten_append, List.append_assoc]
  rfl
theorem lPart_len (i : Nat) : (lPart i).length = 2 + 2 * i := by
  unfold lPart
  rw [List.length_append, rep_len]; rfl

set_option maxHeartbeats 8000000 in
theorem luckLaw_ret (clock : Int) (a : Option Addr) (c : Nat) (xs : List Int) (n : Int) (w : World) (hclk : 0 ≤ clock ∧ clock ≤ 18446744073709551615) (hx : U64s w (.slice a xs.length c) xs) :
    Ret Try.prog 6 [.int .u64 clock, .slice a xs.length c, .int .i64 n] w fun v w' => v = .bool true ∧ Kept none' w w' := by
  refine ret_of_W Try.func6 rfl nok_tipstafflaw20_VmLuck ?_
  obtain ⟨k, hk, ek⟩ := mod_k n 8 (by omega)
  have e1 : IntKind.i64.wrap (k : Int) = k := i64w (by omega) (by omega)
  have hxs := hx
  obtain ⟨a', n', c', hv, hn, hnc, hc, hr, hcase⟩ := hx
  obtain ⟨rfl, rfl, rfl⟩ : a = a' ∧ xs.length = n' ∧ c = c' := by simpa using hv
  have hmn : (if (6 : Int) < (xs.length : Int) then (6 : Int) else xs.length) = ((min xs.length 6 : Nat) : Int) := by split <;> omega
  have hsl : slSlV 1 (.slice a xs.length c) (.int .i64 0) (.int .i64 ((min xs.length 6 : Nat) : Int)) = some (.slice a (min xs.length 6) c) := by
    have := slSl_zero 1 a xs.length c .i64 .i64 ((min xs.length 6 : Nat) : Int) (by omega) (by omega)
    simpa using this
  simp only [nc_tipstafflaw20_VmLuck, Ins.zero, W_seq, W_set]
  refine ok_intro (.bool false) (by simp) ?_
  refine W_row' (v := .agg #[]) (cs := #[]) (by simp) rfl ?_
  have h4 := hp_new w (.cells #[] 32)
  have hk1 : Kept none' w (w.alloc (.cells #[] 32)) := (Kept.refl _ _).alloc _
  have hx1 : U64s (w.alloc (.cells #[] 32)) (.slice a xs.length c) xs := ⟨a, _, c, rfl, rfl, hnc, hc, hr, hcase.imp id fun ⟨b, off, h, g⟩ => ⟨b, off, h, fun i hi => wcell_mono hk1.le (g i hi)⟩⟩
  generalize w.alloc (.cells #[] 32) = w1 at h4 hk1 hx1 ⊢
  obtain ⟨v1, w2, hrun, hk2, hrow1, hown1⟩ := luck_copy a c hx1 h4 (Nat.le_refl _) hk1
  simp only [W_seq]
  refine W_bi (by simp [hmn, hsl]) hrun (stab_nil _ _ _) ?_
  have hv1 := rowVar hrow1
  simp [hv1, ek, e1]
  have hhead : [({ op := 133, dst := 0, src := 0, off := 0, imm := 5 } : Ins), { op := 191, dst := 6, src := 0, off := 0, imm := 0 }] = lHead := rfl
  rw [hhead]
  have h7 := hp_new w2 (.cells (codeArr lHead) 55)
  have hk3 : Kept none' w (w2.alloc (.cells (codeArr lHead) 55)) := hk2.alloc _
  have hrow2 := rowCalm hrow1 (show Kept none' w2 (w2.alloc (.cells (codeArr lHead) 55)) from (Kept.refl _ _).alloc _)
  have hcr : CRow (w2.alloc (.cells (codeArr lHead) 55)) (.slice (some ⟨w2.heap.size, 0, none⟩) 2 2) (lPart 0) := row_box (n := 2) h7 (by simp [lHead]) (by omega)
  have hne : ∀ g, v1.ownBlock = some g → g ≠ w2.heap.size := fun g hg => by have := rowLt hrow1 hg; omega
  have hsz2 := hk2.size
  generalize w2.alloc (.cells (codeArr lHead) 55) = w3 at hk3 hrow2 hcr ⊢
  generalize hus : xs.take 6 = us at *
  have hul : us.length ≤ 6 := by rw [← hus]; simp; omega
  have hur : ∀ x ∈ us, 0 ≤ x ∧ x ≤ 18446744073709551615 := fun x hx => hr x (by rw [← hus] at hx; exact List.mem_of_mem_take hx)
  have hlen1 := rowLen hrow2
  refine W_loop (fun env w' => Kept none' w w' ∧ ∃ (i : Nat) (lv : Value), env = [.int .u64 clock, v1, undef, undef, undef, undef, .int .i64 k, undef, lv, .int .u64 (luckSum clock us i), .int .i64 i, undef, undef, undef, undef, undef, undef, undef] ∧ i ≤ k ∧
      CRow w' lv (lPart i) ∧ Row 32 1 w' v1 us.length (u64c us) ∧ (∀ g, lv.ownBlock = some g → w.heap.size ≤ g ∧ v1.ownBlock ≠ some g)) (fun env _ => k - natAt env 10) ?_ ?_
  · refine ⟨hk3, 0, .slice (some ⟨w2.heap.size, 0, none⟩) 2 2, ?_, by omega, hcr, hrow2, fun g hg => ?_⟩
    · simp [luckSum]
    · cases hg
      exact ⟨hsz2, fun h => hne _ h rfl⟩
  · rintro env w4 ⟨hk4, i, lv, rfl, hi, hcr4, hrow4, hown4⟩
    have hvl := rowVar hcr4
    by_cases hik : i < k
    · simp
      refine W_yes (by simp; omega) ?_
      simp [hvl]
      have hli : [({ op := 133, dst := 0, src := 0, off := 0, imm := 7 } : Ins), { op := 15, dst := 6, src := 0, off := 0, imm := 0 }] = [luckIns, addIns] := rfl
      rw [hli]
      have h11 := hp_new w4 (.cells (codeArr [luckIns, addIns]) 55)
      have hk5 : Kept none' w4 (w4.alloc (.cells (codeArr [luckIns, addIns]) 55)) := (Kept.refl _ _).alloc _
      generalize w4.alloc (.cells (codeArr [luckIns, addIns]) 55) = w5 at h11 hk5 ⊢
      obtain ⟨lv', w6, hrun6, hcr6, hk6, hown6⟩ := code_append (c := 2) (m := 2) (rowCalm hcr4 hk5) (by rw [lPart_len]; simp; omega) rfl h11
      refine W_bi (by simp [hvl]) hrun6 (stab_nil _ _ _) ?_
      have hvl' := rowVar hcr6
      have hk7 : Kept none' w w6 := (hk4.trans hk5).then hk6 (fun b hb hS => by have := (hown4 b hS).1; omega)
      rw [lPart_succ] at hcr6
      have hrow6 : Row 32 1 w6 v1 us.length (u64c us) := rowKeep (rowCalm hrow4 hk5) hk6 (fun g hg hS => (hown4 g hS).2 hg)
      have hown7 : ∀ g, lv'.ownBlock = some g → w.heap.size ≤ g ∧ v1.ownBlock ≠ some g := fun g hg => by
        rcases hown6 with h | h
        · rw [h] at hg; exact hown4 g hg
        · rw [h] at hg
          have hs5 := (hk4.trans hk5).size
          have : w5.heap.size = g := by simpa using hg
          refine ⟨by omega, fun hv => ?_⟩
          have := rowLt (rowCalm hrow4 hk5) hv
          omega
      have e5 : IntKind.i64.wrap ((i : Int) + 1) = ((i + 1 : Nat) : Int) := i64w (by omega) (by omega)
      have hsr := luckSum_range (us := us) hclk i
      simp [hvl', hlen1]
      have hlen6 := rowLen hrow6
      by_cases hlt : i < us.length
      · refine W_yes (by simp [hv1, hlen6]; omega) ?_
        have hget : us[i]? = some us[i] := List.getElem?_eq_getElem hlt
        obtain ⟨g, cap, rfl, hcap, hog, hcell⟩ := rowForm hrow6 (by omega)
        have hce := hcell i (.int .u64 us[i]) (by simp [u64c, hget])
        have hsum : luckSum clock us (i + 1) = IntKind.u64.wrap (luckSum clock us i + us[i]) := by
          show IntKind.u64.wrap (luckSum clock us i + us[i]?.getD 0) = _
          rw [hget]; rfl
        simp [hlt, hce, e5, hv1]
        refine ⟨⟨hk7, i + 1, lv', ⟨rfl, hsum.symm, by omega⟩, by omega, hcr6, hrow6, hown7⟩, ?_⟩
        simp [natAt]; omega
      · refine W_no (by simp [hv1, hlen6]; omega) ?_
        have hget : us[i]? = none := by simp; omega
        have hsum : luckSum clock us (i + 1) = luckSum clock us i := by
          show IntKind.u64.wrap (luckSum clock us i + us[i]?.getD 0) = _
          rw [hget]
          simp only [Option.getD_none, Int.add_zero]
          exact u64w hsr.1 hsr.2
        simp [e5, hv1]
        refine ⟨⟨hk7, i + 1, lv', ⟨rfl, hsum.symm, by omega⟩, by omega, hcr6, hrow6, hown7⟩, ?_⟩
        simp [natAt]; omega
    · have : i = k := by omega
      subst this
      simp
      refine W_no (by simp) ?_
      simp [hvl]
      have hlt : [({ op := 191, dst := 0, src := 6, off := 0, imm := 0 } : Ins), { op := 149, dst := 0, src := 0, off := 0, imm := 0 }] = lTail := rfl
      rw [hlt]
      have h13 := hp_new w4 (.cells (codeArr lTail) 55)
      have hk5 : Kept none' w4 (w4.alloc (.cells (codeArr lTail) 55)) := (Kept.refl _ _).alloc _
      generalize w4.alloc (.cells (codeArr lTail) 55) = w5 at h13 hk5 ⊢
      obtain ⟨lv', w6, hrun6, hcr6, hk6, hown6⟩ := code_append (c := 2) (m := 2) (rowCalm hcr4 hk5) (by rw [lPart_len]; simp [lTail]; omega) rfl h13
      refine W_bi (by simp [hvl]) hrun6 (stab_nil _ _ _) ?_
      have hvl' := rowVar hcr6
      have hk7 : Kept none' w w6 := (hk4.trans hk5).then hk6 (fun b hb hS => by have := (hown4 b hS).1; omega)
      have hrow6 : Row 32 1 w6 v1 us.length (u64c us) := rowKeep (rowCalm hrow4 hk5) hk6 (fun g hg hS => (hown4 g hS).2 hg)
      have hfull : lPart i ++ lTail = luckCode i := rfl
      rw [hfull] at hcr6
      have hlen : (luckCode i).length = 4 + 2 * i := by rw [← hfull, List.length_append, lPart_len]; simp [lTail]; omega
      have hcode : Code w6 (fun j => w6.heap.size ≤ j) lv' (luckCode i) := code_of_row hcr6 (by omega) (by omega) (fun g hg => by have := rowLt hcr6 hg; omega)
      have hluck : Luck w6 (fun j => w6.heap.size ≤ j) v1 us := luck_of_row hrow6 (by omega) (fun g hg => by have := rowLt hrow6 hg; omega)
      have hok : codeOkB (luckCode i) = true := by
        have hi' : i = 0 ∨ i = 1 ∨ i = 2 ∨ i = 3 ∨ i = 4 ∨ i = 5 ∨ i = 6 ∨ i = 7 := by omega
        rcases hi' with rfl | rfl | rfl | rfl | rfl | rfl | rfl | rfl <;> (show _ = _) <;> kernel_rfl
      have hcl1 := rowCells hrow6
      simp [hvl', hv1, hcl1]
      refine W_call0 (by simp [hvl', hv1, hcl1]) (run_law hcode hok hluck (fun _ => by omega) hclk.1 (fun x hx => (hur x hx).1) (by omega) (luck_a i (by omega) clock us)) ?_
      rintro r w7 ⟨rfl, hk8⟩
      have g16 := hp_new w7 (.cells (Res 0 0 0 0) 58)
      have hk9 : Kept none' w (w7.alloc (.cells (Res 0 0 0 0) 58)) := (hk7.trans hk8).alloc _
      have hsz := (hk7.trans hk8).size
      simp
      generalize w7.alloc (.cells (Res 0 0 0 0) 58) = w8 at g16 hk9 ⊢
      generalize w7.heap.size = p16 at *
      refine W_store (by simp) (by simp) (res_box (luckSum clock us i) ((3 + 2 * i : Nat) : Int) ((4 + 2 * i : Nat) : Int) 0 g16 rfl) (stab_nil _ _ _) ?_
      have g161 := put_same (o := .cells (Res (luckSum clock us i) ((3 + 2 * i : Nat) : Int) ((4 + 2 * i : Nat) : Int) 0) 58) (blk_lt g16)
      have hk10 := hk9.putNew hsz (.cells (Res (luckSum clock us i) ((3 + 2 * i : Nat) : Int) ((4 + 2 * i : Nat) : Int) 0) 58)
      generalize put w8 _ _ = w9 at g161 hk10 ⊢
      simp
      refine W_call0 (by simp) (runs_ret w9) ?_
      rintro r w10 ⟨rfl, hk11⟩
      have g162 := hk11.has g161 (fun h => h)
      have d0 : wcell w10 p16 0 = some (.int .u64 (luckSum clock us i)) := by rw [wcell_of g162]; rfl
      have d3 : wcell w10 p16 3 = some (.int .i64 0) := by rw [wcell_of g162]; rfl
      simp [d0, d3]
      exact hk10.trans hk11
end Go.Proofs.Ytepbpapbkonhnaa
