/- Layer 11, part L: the law of all texts, walked. -/
import Derived.Test.YtaaicadjoghbcaaDoorRtK
set_option linter.unusedSimpArgs false
set_option linter.unusedVariables false
set_option maxRecDepth 8000
namespace Go.Proofs.YtaaicadjoghbcaaDoor
open Go.Eng

theorem nb_oct (k : ByteArray) : Oct (nb k) := by
  intro x hx
  simp only [nb, List.mem_map] at hx
  obtain ⟨y, _, rfl⟩ := hx
  have := y.toNat_lt
  omega
theorem cut60 (s : ByteArray) : slStrV (.string s) (.int .i64 0) (.int .i64 (min (s.size : Int) 60)) = some (.string (bs ((nb s).take 60))) := by
  rw [slStrV_string, if_pos ⟨by omega, by omega, by omega⟩]
  congr 2
  refine ByteArray.ext ?_
  rw [ByteArray.data_extract]
  have hb : s = bs (nb s) := (bs_nb s).symm
  have hl : (nb s).length = s.size := by simp [nb]
  rw [show (min (s.size : Int) 60).toNat = min s.size 60 by omega]
  conv => lhs; rw [hb]
  simp [bs, hl]
  show min (bs (nb s)).size _ = _
  rw [bs_nb]; omega

theorem parses_ret (s : ByteArray) (w : World) (hg : GlobT w) : Ret Tryd.prog 4 [.string s] w fun v w' => v = .bool true ∧ Kept none' w w' := by
  refine ret_of_W Tryd.func4 rfl ok_tipstafflaw11_RightsParses ?_
  have hcut := cut60 s
  have hlen : ((nb s).take 60).length ≤ 60 := by simp; omega
  have hoct : Oct ((nb s).take 60) := fun x hx => nb_oct s x (List.mem_of_mem_take hx)
  generalize (nb s).take 60 = l at hcut hlen hoct
  simp [c_tipstafflaw11_RightsParses, zero_arr, -slStrV_string, -W_set]
  obtain ⟨R, hR⟩ : ∃ R, R = (parseF l).getD Rt.zero := ⟨_, rfl⟩
  have hwf : R.wf := by
    rw [hR]
    cases h : parseF l with
    | none => exact zero_wf
    | some r => exact (parseF_some h).1
  have hpv : parseV (parseF l) = .tuple #[R.val, .int .i64 (if (parseF l).isSome then 0 else 22)] := by rw [hR]; rfl
  have hrv : refV (parseF l) = .tuple #[R.val, .bool (parseF l).isSome] := by rw [hR]; rfl
  have hok : (parseF l).isSome = true → textL R = l := fun h => by
    rw [hR]
    cases h' : parseF l with
    | none => rw [h'] at h; cases h
    | some r => exact (parseF_some h').2
  generalize (parseF l).isSome = ok at hpv hrv hok
  simp only [W_set]
  refine ok_intro (.bool false) (by simp) ?_
  simp only [W_seq, W_set]
  refine ok_intro (.string (bs l)) ?_ ?_
  · have hmin : (if (60 : Int) < s.size then (60 : Int) else s.size) = min (s.size : Int) 60 := by split <;> omega
    simp [hmin, hcut, -slStrV_string]
  refine W_calm (by simp) (parse_ret l w hoct (by omega) hg) ?_
  intro w1 hk1
  rw [hpv]
  simp
  have hp3 := hp_new w1 (.cells Rt.zero.arr 27)
  obtain ⟨w2, hs2, hk2, hb2, ho2, _⟩ := rt_box (w0 := w1) ((Kept.refl none' w1).alloc (.cells Rt.zero.arr 27)) hp3 (Nat.le_refl _) R
  refine W_store (xv := .pointer (some ⟨w1.heap.size, 0, none⟩)) (vv := R.val) (by simp) (by simp) hs2 (stab_nil _ _ _) ?_
  generalize w1.heap.size = b3 at hb2 ⊢
  simp only [W_seq, W_set]
  refine ok_intro (.int .i64 (if ok then 0 else 22)) (by simp) ?_
  have hk12 := hk1.trans hk2
  refine W_calm (by simp) (refParse_ret l w2 hoct (by omega)) ?_
  intro w3 hk3
  rw [hrv]
  simp
  have hb33 := hk3.has hb2 (fun h => h)
  have hk13 := hk12.trans hk3
  have hp6 := hp_new w3 (.cells Rt.zero.arr 24)
  obtain ⟨w4, hs4, hk4, hb4, ho4, _⟩ := rt_box (w0 := w3) ((Kept.refl none' w3).alloc (.cells Rt.zero.arr 24)) hp6 (Nat.le_refl _) R
  refine W_store (xv := .pointer (some ⟨w3.heap.size, 0, none⟩)) (vv := R.val) (by simp) (by simp) hs4 (stab_nil _ _ _) ?_
  generalize w3.heap.size = b6 at hb4 ⊢
  have hb34 := hk4.has hb33 (fun h => h)
  have hk14 := hk13.trans hk4
  simp only [W_seq, W_set]
  refine ok_intro (.bool ok) (by simp) ?_
  simp
  have hb3d : w4.drew.heap[b3]? = some (.cells R.arr 27 (0, 0)) := hb34
  have hb6d : w4.drew.heap[b6]? = some (.cells R.arr 24 (0, 0)) := hb4
  have hk15 := hk14.drew
  generalize w4.drew = w5 at hb3d hb6d hk15 ⊢
  refine W_calm (by simp) (whole_ret w5 (hg.toGlob.calm hk15)) ?_
  intro w6 hk6
  have hb36 := hk6.has hb3d (fun h => h)
  have hb66 := hk6.has hb6d (fun h => h)
  have hk16 := hk15.trans hk6
  simp only [W_seq, W_set]
  refine ok_intro (.bool false) (by cases ok <;> simp) ?_
  refine W_chkIn [.agg R.arr] (by simp [wrow_box hb36]) ?_
  simp only [W_seq]
  refine W_yes (by simp) ?_
  simp only [W_set]
  refine ok_intro R.val (by simp [wrow_box hb66, Rt.val]) ?_
  refine W_yes (by simp) ?_
  refine W_calm (by simp [wrow_box hb36]) (ret_of_T (from_T w6 R)) ?_
  intro w7 hk7
  have hb37 := hk7.has hb36 (fun h => h)
  have hk17 := hk16.trans hk7
  refine W_no (by simp) ?_
  simp only [W_seq, W_skip]
  cases ok with
  | true =>
    have ht := hok rfl
    have hself : strBin .eql (bs l) (bs l) = some (.bool true) := by simp [strBin]
    refine W_chkIn [.agg R.arr] (by simp [wrow_box hb37]) ?_
    simp only [W_seq]
    refine W_yes (by simp) ?_
    refine W_calm (by simp [wrow_box hb37]) (text_ret R w7 (hg.toGlob.calm hk17) hwf) ?_
    intro w8 hk8
    rw [ht]
    simp [hself]
    exact hk17.trans hk8
  | false =>
    refine W_chkIn [.bool false] (by simp) ?_
    simp only [W_seq]
    refine W_no (by simp) ?_
    simp
    exact hk17
end Go.Proofs.YtaaicadjoghbcaaDoor
