/- Layer 9, part Q: keys of all types: plain, right, exact, longest, find, Lookup. -/
import Derived.Test.YtmfgdbapankamaaGreatGr20
import Derived.Lib.ConvBytes
import Derived.Test.YtmfgdbapankamaaGreatGr19
set_option linter.unusedSimpArgs false
set_option linter.unusedVariables false
set_option maxRecDepth 8000
namespace Go.Proofs.YtmfgdbapankamaaGreat
open Go.Eng
theorem W_chkIn {P : Program} {R : Eng.Env → World → Prop} {k : List It} {env : Eng.Env} {w : World} {es : List Ex} (vs : List Value) (h : evs env w es = some vs) (hk : W P R k env w) : W P R (.c (.chk es) :: k) env w := by
  rw [W_chk, h]
  exact hk
theorem bstr_kept {w w' : World} {v x : Value} (hk : Kept none' w w') (h : bstrv w v = some x) : bstrv w' v = some x := bstrv_mono (fun b o hb => hk.has hb (fun h => h)) h
def maskk (k : ByteArray) (n : Int) : ByteArray := bs (maskl (nb k) n)
def name (M : BMap) (k : ByteArray) : ByteArray := if M.ty = 5 then maskk k (cnt k) else k
@[simp] theorem maskk_size (k : ByteArray) (n : Int) : (maskk k n).size = k.size := by simp [maskk, maskl_len]
@[simp] theorem name_size (M : BMap) (k : ByteArray) : (name M k).size = k.size := by unfold name; split <;> simp
theorem Bys.keyP {w : World} {v : Value} {m : List Nat} (h : Bys w v m) (h0 : 0 < m.length) (hle : ∀ x ∈ m, x ≤ 255) : KeyP w v (bs m) := by
  obtain ⟨g, cap, rfl, hc, _, hx⟩ := h.form h0
  exact KeyP.of hle hc fun j x hj => by rw [Nat.zero_add]; exact hx j x hj
theorem KeyP.str {w : World} {v : Value} {k : ByteArray} (h : KeyP w v k) (h0 : 0 < k.size) : bstrv w v = some (.string k) := by
  obtain ⟨b, o, c, rfl, hs, _⟩ := h.at h0
  exact hs
theorem gplain_ret (b : Nat) (M : BMap) (kv : Value) (k : ByteArray) (w : World) (h : MapAt w b M) (hk : KeyP w kv k) (h0 : 0 < k.size) (h5 : M.ty = 5 → 4 ≤ k.size) (hs : k.size ≤ 1000) :
    Ret Tryz.prog 25 [.pointer (some ⟨b, 0, none⟩), kv] w fun v w' => v = .string (name M k) ∧ Kept none' w w' := by
  refine ret_of_W Tryz.func25 rfl ok_bmap_Map_plain ?_
  have hb := h.blk
  have hkv := hk.var
  simp [c_bmap_Map_plain]
  by_cases hp : M.ty = 5
  · refine W_yes (by simp [wcell_of hb, BMap.cells, hp]) ?_
    simp
    refine W_call0 (by simp [hkv]) (counted_ret kv k w hk (h5 hp)) ?_
    rintro v w1 ⟨rfl, rfl⟩
    have hcr := cnt_range k
    simp
    refine W_call0 (by simp [hkv]) (masked_ret kv k (cnt k) w1 hk (h5 hp) hs hcr) ?_
    rintro v w2 ⟨hk2, hB, _⟩
    have hv := hB.var
    have hl : 0 < (maskl (nb k) (cnt k)).length := by rw [maskl_len]; simpa using h0
    have hstr := (hB.keyP hl (maskl_le (nb_le k) _)).str (by simpa using hl)
    simp [hv, hstr]
    exact ⟨by simp [name, hp, maskk], hk2⟩
  · refine W_no (by simp [wcell_of hb, BMap.cells, hp]) ?_
    simp [hk.str h0, hkv]
    exact ⟨by simp [name, hp], Kept.refl _ _⟩
theorem gright_ret (b : Nat) (M : BMap) (kv : Value) (k : ByteArray) (w : World) (h : MapAt w b M) (hk : KeyP w kv k) (h5 : M.ty = 5 → 4 ≤ M.ks) (hs : k.size ≤ 1000) :
    Ret Tryz.prog 21 [.pointer (some ⟨b, 0, none⟩), kv] w fun v w' => v = .bool (!decide (M.ty = 3) && !decide (M.ty = 4) && decide ((k.size : Int) = M.ks) && (!decide (M.ty = 5) || decide (cnt k ≤ 8 * ((k.size : Int) - 4)))) ∧ w' = w := by
  refine ret_of_W Tryz.func21 rfl ok_bmap_Map_right ?_
  have hb := h.blk
  have hkP := hk
  obtain ⟨kb, ko, kc, rfl, _, _⟩ := hk
  simp [c_bmap_Map_right]
  refine W_yes (by simp) ?_
  refine W_call0 (by simp) (lined_ret b M w h) ?_
  rintro v w1 ⟨rfl, rfl⟩
  simp
  refine W_cond (t := decide (M.ty = 3) || decide (M.ty = 4) || !decide ((k.size : Int) = M.ks)) (by simp [wcell_of hb, BMap.cells]) ?_ ?_
  · intro ht
    simp
    simp at ht
    rcases ht with (ht | ht) | ht <;> simp [ht]
  · intro ht
    simp at ht
    have e1 : IntKind.i64.wrap ((k.size : Int) - 4) = (k.size : Int) - 4 := i64w (by omega) (by omega)
    have e2 : IntKind.i64.wrap (8 * ((k.size : Int) - 4)) = 8 * ((k.size : Int) - 4) := i64w (by omega) (by omega)
    by_cases hp : M.ty = 5
    · simp [wcell_of hb, BMap.cells, hp]
      refine W_yes (by simp) ?_
      refine W_call0 (by simp) (counted_ret _ k w1 hkP (by have := h5 hp; have := ht.2; omega)) ?_
      rintro v w2 ⟨rfl, rfl⟩
      rw [ht.2] at e1 e2
      simp [e1, e2, ht]
    · simp [wcell_of hb, BMap.cells, hp]
      refine W_no (by simp) ?_
      simp [ht]
theorem gexact_ret (b : Nat) (M : BMap) (kv : Value) (k : ByteArray) (w : World) (h : MapAt w b M) (hk : KeyP w kv k) (h0 : 0 < k.size) (h5 : M.ty = 5 → 4 ≤ k.size) (hs : k.size ≤ 1000) :
    Ret Tryz.prog 22 [.pointer (some ⟨b, 0, none⟩), kv] w fun v w' => Kept none' w w' ∧ ExactIs M (name M k) v := by
  refine ret_of_W Tryz.func22 rfl ok_bmap_Map_exact ?_
  have hkvv := hk.var
  simp [c_bmap_Map_exact]
  refine W_call0 (by simp [hkvv]) (gplain_ret b M kv k w h hk h0 h5 hs) ?_
  rintro v w1 ⟨rfl, hk1⟩
  have h1 := h.calm hk1
  generalize name M k = K
  simp
  refine W_store (by simp) (by simp) (store_box (.string ⟨#[]⟩) (.string K) rfl rfl) (stab_nil _ _ _) ?_
  simp
  obtain ⟨hb4, hk2, _⟩ := box_any w1 #[.string ⟨#[]⟩] #[.string K] 9
  generalize put (w1.alloc (.cells #[.string ⟨#[]⟩] 9)) w1.heap.size (.cells #[.string K] 9 (0, 0)) = w2 at hb4 hk2 ⊢
  have hm2 := h1.calm hk2
  have hb := hm2.blk
  have hvar := hm2.row.var
  have hix := index_ret (f := 46) (cp := #[.pointer (some ⟨w1.heap.size, 0, none⟩)]) (fun e => decide (e.key = K)) w2 hm2.row hm2.small (by kernel_rfl) (by
    intro w' hk' e he
    exact exact1_ret e w1.heap.size K M.vs w' ((hm2.calm hk').ents e he) (by rw [wcell_of (hk'.has hb4 (fun h => h))]; rfl))
  refine W_call0 (by simp [wcell_of hb, BMap.cells, hvar]) hix ?_
  rintro v w3 ⟨hk3, hv⟩
  have hm3 := hm2.calm hk3
  have hb3 := hm3.blk
  have hvar3 := hm3.row.var
  simp
  rcases hv with ⟨i, e, hi, hpe, _, rfl⟩ | ⟨hno, rfl⟩
  · refine W_no (by simp) ?_
    have hil : i < M.l.length := (List.getElem?_eq_some_iff.1 hi).1
    obtain ⟨g, cap, hL, hcell⟩ := hm3.row.get hi
    simp [wcell_of hb3, BMap.cells, hL, hil, hcell]
    exact ⟨(hk1.trans hk2).trans hk3, .inl ⟨i, e, hi, by simpa using hpe, rfl⟩⟩
  · refine W_yes (by simp) ?_
    simp
    exact ⟨(hk1.trans hk2).trans hk3, .inr ⟨fun e he => by simpa using hno e he, rfl⟩⟩
theorem equal_ret (a c : Value) (s t : ByteArray) (w : World) (ha : bstrv w a = some (.string s)) (hc : bstrv w c = some (.string t)) (hva : varV a = some a) (hvc : varV c = some c) :
    Ret Tryz.prog 105 [a, c] w fun v w' => v = .bool (decide (s = t)) ∧ w' = w := by
  refine ret_of_W Tryz.func105 rfl ok_bytes_Equal ?_
  simp [c_bytes_Equal, ha, hc, hva, hvc, strBin, str_eq']
theorem cv_bytes (w : World) (s : ByteArray) : ∃ c w', ((Tag.cv 9 51).sem [.string s]).run Tryz.prog w = .ok (.slice (some ⟨w.heap.size, 0, none⟩) s.size c) w' ∧ Kept none' w w' ∧ KeyP w' (.slice (some ⟨w.heap.size, 0, none⟩) s.size c) s ∧ w.heap.size < w'.heap.size := by
  refine ⟨grownCap w s.size 0 5, Lib.bytesWorld w 5 s, ?_, ?_, ⟨w.heap.size, 0, _, rfl, grownCap_ge _ _ _ _, ?_⟩, ?_⟩
  rotate_left
  · have := (Kept.refl none' w)
    refine ⟨rfl, rfl, rfl, by rw [Lib.bytesWorld_size]; omega, fun j hj _ => Lib.bytesWorld_at_old w 5 s j hj⟩
  · intro j x hj
    have hjs : j < s.size := by have := (List.getElem?_eq_some_iff.1 hj).1; simpa using this
    have h1 := Lib.bytesWorld_at_new w 5 s
    rw [wcell_of h1, Nat.zero_add]
    simp only [nb, List.getElem?_map, Array.getElem?_toList, Option.map_eq_some_iff] at hj
    obtain ⟨y, hy, rfl⟩ := hj
    unfold Lib.bytesCells
    rw [Array.getElem?_append_left (by rw [Array.size_map]; exact hjs)]
    simp [hy]
  · rw [Lib.bytesWorld_size]; omega
  · simp only [Tag.sem]
    exact Lib.run_convert_string_bytes w _ _ _ s Tryz.underlying9 Tryz.underlying51 Tryz.underlying5
theorem KeyP.tail {w : World} {v : Value} {k : ByteArray} (h : KeyP w v k) (h4 : 4 < k.size) : ∃ b off c, v = .slice (some ⟨b, off, none⟩) k.size c ∧ k.size ≤ c ∧ bstrv w (.slice (some ⟨b, off + 4, none⟩) (k.size - 4) (c - 4)) = some (.string (bs ((nb k).drop 4))) := by
  obtain ⟨b, o, c, rfl, hc, hx⟩ := h
  refine ⟨b, o, c, rfl, hc, ?_⟩
  have := bytes_bstr (w := w) (b := b) (off := o + 4) (c := c - 4) (m := (nb k).drop 4) (by simp; omega) (fun j x hj => by
    rw [List.getElem?_drop] at hj
    rw [Nat.add_assoc]
    exact hx (4 + j) x hj)
  rw [List.length_drop, nb_len] at this
  exact this
def Fits (k : ByteArray) (e : BEnt) : Prop := cnt e.key ≤ cnt k ∧ bs ((maskl (nb k) (cnt e.key)).drop 4) = bs ((nb e.key).drop 4)
def LongIs (l : List BEnt) (k : ByteArray) (n : Nat) (v : Value) : Prop :=
  (v = .pointer none ∧ ∀ (j : Nat) (e : BEnt), j < n → l[j]? = some e → ¬ Fits k e) ∨
  ∃ (i : Nat) (e : BEnt), i < n ∧ l[i]? = some e ∧ Fits k e ∧ v = .pointer (some ⟨e.eb, 0, none⟩) ∧ ∀ (j : Nat) (e' : BEnt), j < n → l[j]? = some e' → Fits k e' → cnt e'.key ≤ cnt e.key
theorem lt_succ {j n : Nat} (h : j < n + 1) : j < n ∨ j = n := by omega
theorem LongIs.skip {l : List BEnt} {k : ByteArray} {n : Nat} {v : Value} {e : BEnt} (h : LongIs l k n v) (he : l[n]? = some e) (hn : ¬ Fits k e) : LongIs l k (n + 1) v := by
  rcases h with ⟨rfl, h⟩ | ⟨i, e', hi, hl, hf, hv, h⟩
  · refine .inl ⟨rfl, fun j x hj hx => ?_⟩
    rcases lt_succ hj with hj | rfl
    · exact h j x hj hx
    · rw [he] at hx; cases hx; exact hn
  · refine .inr ⟨i, e', by omega, hl, hf, hv, fun j x hj hx hfx => ?_⟩
    rcases lt_succ hj with hj | rfl
    · exact h j x hj hx hfx
    · rw [he] at hx; cases hx; exact absurd hfx hn
theorem LongIs.first {l : List BEnt} {k : ByteArray} {n : Nat} {e : BEnt} (h : ∀ (j : Nat) (e : BEnt), j < n → l[j]? = some e → ¬ Fits k e) (he : l[n]? = some e) (hn : Fits k e) : LongIs l k (n + 1) (.pointer (some ⟨e.eb, 0, none⟩)) := by
  refine .inr ⟨n, e, by omega, he, hn, rfl, fun j x hj hx hfx => ?_⟩
  rcases lt_succ hj with hj | rfl
  · exact absurd hfx (h j x hj hx)
  · rw [he] at hx; cases hx; exact Int.le_refl _
theorem LongIs.more {l : List BEnt} {k : ByteArray} {n : Nat} {e e' : BEnt} (h : ∀ (j : Nat) (x : BEnt), j < n → l[j]? = some x → Fits k x → cnt x.key ≤ cnt e'.key) (he : l[n]? = some e) (hn : Fits k e) (hlt : cnt e'.key < cnt e.key) : LongIs l k (n + 1) (.pointer (some ⟨e.eb, 0, none⟩)) := by
  refine .inr ⟨n, e, by omega, he, hn, rfl, fun j x hj hx hfx => ?_⟩
  rcases lt_succ hj with hj | rfl
  · have := h j x hj hx hfx; omega
  · rw [he] at hx; cases hx; exact Int.le_refl _
theorem LongIs.less {l : List BEnt} {k : ByteArray} {n i : Nat} {e e' : BEnt} (hi : i < n) (hie : l[i]? = some e') (hf : Fits k e') (h : ∀ (j : Nat) (x : BEnt), j < n → l[j]? = some x → Fits k x → cnt x.key ≤ cnt e'.key) (he : l[n]? = some e) (hlt : ¬ cnt e'.key < cnt e.key) : LongIs l k (n + 1) (.pointer (some ⟨e'.eb, 0, none⟩)) := by
  refine .inr ⟨i, e', by omega, hie, hf, rfl, fun j x hj hx hfx => ?_⟩
  rcases lt_succ hj with hj | rfl
  · exact h j x hj hx hfx
  · rw [he] at hx; cases hx; omega
set_option maxHeartbeats 1000000 in
theorem longest_ret (b : Nat) (M : BMap) (kv : Value) (k : ByteArray) (w : World) (h : MapAt w b M) (hk : KeyP w kv k) (h4 : 4 < k.size) (hs : k.size ≤ 1000) (hall : ∀ e ∈ M.l, e.key.size = k.size) :
    Ret Tryz.prog 104 [.pointer (some ⟨b, 0, none⟩), kv] w fun v w' => Kept none' w w' ∧ LongIs M.l k M.l.length v := by
  refine ret_of_W Tryz.func104 rfl ok_bmap_Map_longest ?_
  have hb := h.blk
  have hlen := h.row.len
  have hvar := h.row.var
  have hsm := h.small
  have hkvar := hk.var
  simp [c_bmap_Map_longest, wcell_of hb, BMap.cells, hvar, hlen]
  refine W_loop (fun env w' => ∃ (i : Nat) (v : Value), env = [undef, kv, undef, v, .int .i64 i, .int .i64 M.l.length, M.L, undef, undef, undef, undef, undef, undef, undef, undef, undef, undef] ∧ i ≤ M.l.length ∧ Kept none' w w' ∧ LongIs M.l k i v) (fun env _ => M.l.length - natAt env 4) ?_ ?_
  · exact ⟨0, _, by simp, by omega, Kept.refl _ _, .inl ⟨rfl, fun j e hj => by omega⟩⟩
  · rintro env w1 ⟨i, v, rfl, hi, hk1, hL⟩
    have h1 := h.calm hk1
    have hK1 := hk.calm hk1
    have hvv : varV v = some v := by rcases hL with ⟨rfl, _⟩ | ⟨_, _, _, _, _, rfl, _⟩ <;> rfl
    by_cases hgo : i < M.l.length
    · have e1 : IntKind.i64.wrap ((i : Int) + 1) = ((i + 1 : Nat) : Int) := i64w (by omega) (by omega)
      have he : M.l[i]? = some M.l[i] := List.getElem?_eq_getElem hgo
      obtain ⟨g, cap, hLg, hcell⟩ := h1.row.get he
      have hE := h1.mem he
      have hks := hall _ (List.getElem_mem hgo)
      generalize M.l[i] = e at he hcell hE hks
      obtain ⟨c2, w2, hcv, hk2, hP2, _⟩ := cv_bytes w1 e.key
      have hvs2 := hP2.var
      simp [hLg, hvv, hkvar]
      refine W_yes (by simp; omega) ?_
      simp [hgo, hcell]
      refine W_sem (by simp [wcell_of hE.ent, BEnt.cells]) hcv (stab_nil _ _ _) ?_
      simp
      refine W_call0 (by simp) (counted_ret _ e.key w2 hP2 (by omega)) ?_
      rintro v3 w3 ⟨rfl, rfl⟩
      simp
      have hkD : Kept none' w1 w3.drew := hk2.trans (Kept.refl none' w3).drew
      have hPD := hP2.calm (Kept.refl none' w3).drew
      generalize w3.drew = w4 at hkD hPD ⊢
      clear hcv hk2 hP2
      have h4' := h1.calm hkD
      have hE4 := h4'.mem he
      have hK4 := hK1.calm hkD
      have hk4 := hk1.trans hkD
      obtain ⟨pb, po, pc, hpq, hpc, hptail⟩ := hPD.tail (by omega)
      simp at hpq
      obtain ⟨⟨rfl, rfl⟩, rfl⟩ := hpq
      have hp4 : (4 : Int) ≤ e.key.size := by omega
      have hp6 : ¬ c2 = 4 := by omega
      have hp5 : (e.key.size : Int) ≤ c2 := by omega
      refine W_call0 (by simp [hkvar]) (counted_ret _ k w4 hK4 (by omega)) ?_
      rintro v5 w5 ⟨rfl, rfl⟩
      have hcr := cnt_range e.key
      have hF : Fits k e ↔ cnt e.key ≤ cnt k ∧ bs ((maskl (nb k) (cnt e.key)).drop 4) = bs ((nb e.key).drop 4) := Iff.rfl
      generalize hce : cnt e.key = ce at hcr hF ⊢
      generalize hck : cnt k = ck at hF ⊢
      rw [W_seq]
      by_cases hcc : ck < ce
      · refine W_chkIn [.bool false, .bool false, .bool false] (by simp [hcc, hkvar]) ?_
        simp only [W_seq]
        refine W_no (by simp [hcc]) ?_
        simp only [W_clr, List.foldl, W_seq]
        refine W_chkIn [.bool false] (by simp [hcc]) ?_
        refine W_no (by simp [hcc]) ?_
        simp only [W_clr, List.foldl]
        refine W_yes (by simp [hcc]) ?_
        simp [hvv]
        exact ⟨⟨i + 1, v, ⟨rfl, e1⟩, by omega, hk4, hL.skip he (fun hf => by have := hF.1 hf; omega)⟩, by simp [natAt, e1]; omega⟩
      · refine W_chkIn [.slice (some ⟨w1.heap.size, 4, none⟩) (e.key.size - 4) (c2 - 4), .int .i64 ce, kv] (by simp [hcc, hkvar, hp4, hp5, hp6]) ?_
        simp only [W_seq]
        refine W_yes (by simp [hcc]) ?_
        refine W_call0 (by simp [hkvar]) (masked_ret kv k ce w5 hK4 (by omega) hs hcr) ?_
        rintro v6 w6 ⟨hk6, hB6, hown6⟩
        have hml : (maskl (nb k) ce).length = k.size := by rw [maskl_len, nb_len]
        have hmle := maskl_le (nb_le k) ce
        obtain ⟨b6, o6, c6, rfl, hc6, ht6⟩ := (hB6.keyP (by omega) hmle).tail (by simp; omega)
        have hnb6 : nb (bs (maskl (nb k) ce)) = maskl (nb k) ce := nb_bs hmle
        rw [hnb6] at ht6
        simp only [bs_size, hml] at hc6 ht6 hB6 ⊢
        have ht4 := bstr_kept hk6 hptail
        generalize maskl (nb k) ce = mk at *
        have hq6 : ¬ c6 = 4 := by omega
        have hq5 : (k.size : Int) ≤ c6 := by omega
        have hq4 : (4 : Int) ≤ k.size := by omega
        simp only [W_seq]
        refine W_chkIn [.slice (some ⟨b6, o6 + 4, none⟩) (k.size - 4) (c6 - 4)] (by simp [hcc, hq4, hq5, hq6]) ?_
        refine W_yes (by simp [hcc]) ?_
        rw [Nat.zero_add] at ht4
        refine W_call0 (vs := [.slice (some ⟨b6, o6 + 4, none⟩) (k.size - 4) (c6 - 4), .slice (some ⟨w1.heap.size, 4, none⟩) (e.key.size - 4) (c2 - 4)]) (by simp [hq4, hq5, hq6, hp4, hp5, hp6]) (equal_ret _ _ _ _ w6 ht6 ht4 rfl rfl) ?_
        rintro v7 w7 ⟨rfl, rfl⟩
        have h7 := h1.calm (hkD.trans hk6)
        have hk7 := hk4.trans hk6
        refine W_cond (t := !decide (bs (mk.drop 4) = bs ((nb e.key).drop 4))) (by simp [hcc]) ?_ ?_
        · intro ht
          simp at ht
          simp [hvv]
          exact ⟨⟨i + 1, v, ⟨rfl, e1⟩, by omega, hk7, hL.skip he (fun hf => ht (hF.1 hf).2)⟩, by simp [natAt, e1]; omega⟩
        · intro ht
          simp at ht
          have hFit : Fits k e := hF.2 ⟨by omega, ht⟩
          simp only [W_skip, W_seq]
          rcases hL with ⟨rfl, hno⟩ | ⟨i0, e0, hi0, hl0, hf0, rfl, hmax⟩
          · refine W_chkIn [.bool false, .bool false] (by simp) ?_
            simp only [W_seq]
            refine W_no (by simp) ?_
            simp only [W_clr, List.foldl]
            refine W_no (by simp) ?_
            simp only [W_clr, List.foldl]
            refine W_yes (by simp) ?_
            simp
            exact ⟨⟨i + 1, _, ⟨rfl, e1⟩, by omega, hk7, LongIs.first hno he hFit⟩, by simp [natAt, e1]; omega⟩
          · have hE0 := h7.mem hl0
            have hks0 := hall _ (List.mem_of_getElem? hl0)
            refine W_chkIn [.string e0.key, .int .i64 ce] (by simp [wcell_of hE0.ent, BEnt.cells]) ?_
            obtain ⟨c8, w8, hcv8, hk8, hP8, _⟩ := cv_bytes w7 e0.key
            simp only [W_seq]
            refine W_yes (by simp) ?_
            refine W_sem (by simp [wcell_of hE0.ent, BEnt.cells]) hcv8 (stab_nil _ _ _) ?_
            refine W_yes (by simp) ?_
            refine W_call0 (by simp) (counted_ret _ e0.key w8 hP8 (by omega)) ?_
            rintro v9 w9 ⟨rfl, rfl⟩
            have hk9 := hk7.trans hk8
            refine W_cond (t := decide (cnt e0.key < ce)) (by simp) ?_ ?_
            · intro ht
              simp at ht
              simp
              exact ⟨⟨i + 1, _, ⟨rfl, e1⟩, by omega, hk9, LongIs.more hmax he hFit (by omega)⟩, by simp [natAt, e1]; omega⟩
            · intro ht
              simp at ht
              simp
              exact ⟨⟨i + 1, _, ⟨rfl, e1⟩, by omega, hk9, LongIs.less hi0 hl0 hf0 hmax he (by omega)⟩, by simp [natAt, e1]; omega⟩
    · have hie : i = M.l.length := by omega
      subst hie
      simp [hvv]
      refine W_no (by simp) ?_
      simp [hvv]
      exact ⟨hk1, hL⟩
end Go.Proofs.YtmfgdbapankamaaGreat
namespace Go.Proofs.YtmfgdbapankamaaGreat
open Go.Eng
def GFindIs (w w' : World) (b : Nat) (M : BMap) (k : ByteArray) (v : Value) : Prop :=
  (8 * ((k.size : Int) - 4) < cnt k ∧ v = .tuple #[.pointer none, .int .i64 22] ∧ Kept none' w w') ∨
  (cnt k ≤ 8 * ((k.size : Int) - 4) ∧ ∃ (i : Nat) (e : BEnt), M.l[i]? = some e ∧ Fits k e ∧ (∀ e' ∈ M.l, Fits k e' → cnt e'.key ≤ cnt e.key) ∧ v = .tuple #[.pointer (some ⟨e.eb, 0, none⟩), .int .i64 0] ∧ Kept (fun j => j = b ∨ j = e.eb) w w' ∧ MapAt w' b (usedM M i e)) ∨
  (cnt k ≤ 8 * ((k.size : Int) - 4) ∧ (∀ e ∈ M.l, ¬ Fits k e) ∧ v = .tuple #[.pointer none, .int .i64 2] ∧ Kept none' w w')
theorem gfind_ret (b : Nat) (M : BMap) (kv : Value) (k : ByteArray) (w : World) (h : MapAt w b M) (hk : KeyP w kv k) (hp : M.ty = 5) (hs : (k.size : Int) = M.ks) (h4 : 4 < k.size) (hS : k.size ≤ 1000) (hall : ∀ e ∈ M.l, e.key.size = k.size) (hc : M.clock + 1 ≤ 1000000) :
    Ret Tryz.prog 100 [.pointer (some ⟨b, 0, none⟩), kv] w fun v w' => GFindIs w w' b M k v := by
  refine ret_of_W Tryz.func100 rfl ok_bmap_Map_find ?_
  have hkvv := hk.var
  simp [c_bmap_Map_find]
  refine W_call0 (by simp [hkvv]) (gright_ret b M kv k w h hk (fun _ => by omega) hS) ?_
  rintro v w1 ⟨rfl, rfl⟩
  simp only [hp]
  by_cases hr : cnt k ≤ 8 * ((k.size : Int) - 4)
  · refine W_no (by simp [hs, hr]; omega) ?_
    simp
    refine W_call0 (by simp [hkvv]) (gexact_ret b M kv k w1 h hk (by omega) (fun _ => by omega) hS) ?_
    rintro v w2 ⟨hk2, hv⟩
    have hm2 := h.calm hk2
    have hb2 := hm2.blk
    have hvv : varV v = some v := by rcases hv with ⟨_, _, _, _, rfl⟩ | ⟨_, rfl⟩ <;> rfl
    simp [hvv]
    refine W_yes (by simp [wcell_of hb2, BMap.cells, hp]) ?_
    simp
    refine W_call0 (by simp [hkvv]) (longest_ret b M kv k w2 hm2 (hk.calm hk2) h4 hS hall) ?_
    rintro v w3 ⟨hk3, hL⟩
    have hm3 := hm2.calm hk3
    rcases hL with ⟨rfl, hno⟩ | ⟨i, e, _, hi, hf, rfl, hmax⟩
    · simp
      refine W_yes (by simp) ?_
      simp
      refine .inr (.inr ⟨hr, fun e he => ?_, rfl, hk2.trans hk3⟩)
      obtain ⟨j, hj⟩ := List.mem_iff_getElem?.1 he
      exact hno j e (List.getElem?_eq_some_iff.1 hj).1 hj
    · simp
      refine W_no (by simp) ?_
      simp
      refine W_call0 (by simp) (use_ret b M i e w3 hm3 hi hc) ?_
      rintro v w4 ⟨rfl, hk4, hm4⟩
      simp
      refine .inr (.inl ⟨hr, i, e, hi, hf, fun e' he hf' => ?_, rfl, ((hk2.trans hk3).mono fun _ _ h => h.elim).trans (hk4.mono fun _ _ h => h), hm4⟩)
      obtain ⟨j, hj⟩ := List.mem_iff_getElem?.1 he
      exact hmax j e' (List.getElem?_eq_some_iff.1 hj).1 hj hf'
  · refine W_yes (by simp [hs, hr]; omega) ?_
    simp
    exact .inl ⟨by omega, rfl, Kept.refl _ _⟩
theorem entAt_of {w : World} {V eb cb vb : Nat} {k : ByteArray} (h1 : w.heap[eb]? = some (.cells (BEnt.cells ⟨eb, cb, vb, k, 0, fun _ => 0⟩) 84 (0, 0)))
    (h2 : w.heap[cb]? = some (.cells #[.slice (some ⟨vb, 0, none⟩) V V] 82 (0, 0))) (h3 : w.heap[vb]? = some (.cells (madeCells #[.int .u8 0] V) 5 (0, 0))) : EntAt w V ⟨eb, cb, vb, k, 0, fun _ => 0⟩ :=
  ⟨h1, ⟨V, Nat.le_refl _, h2⟩, ⟨_, h3, by simp [size_madeCells], fun j hj => made_get V j hj⟩, fun j => by simp⟩
theorem hp_at {w : World} {x : Obj} {n : Nat} (h : n = w.heap.size) : (w.alloc x).heap[n]? = some x := by subst h; exact hp_new w x
end Go.Proofs.YtmfgdbapankamaaGreat
namespace Go.Proofs.YtmfgdbapankamaaGreat
open Go.Eng
theorem bys_none (w : World) : Bys (w.alloc (.cells #[] 5)) (.slice (some ⟨w.heap.size, 0, none⟩) 0 0) [] := .inr ⟨_, 0, #[], rfl, hp_new w _, Nat.le_refl _, by simp, rfl, fun i x h => by simp at h⟩
theorem clone_bys (b off c : Nat) (m : List Nat) (w : World) (hx : ∀ (j x : Nat), m[j]? = some x → wcell w b (off + j) = some (.int .u8 x)) (hn : m.length ≤ 1000) :
    Ret Tryz.prog 32 [.slice (some ⟨b, off, none⟩) m.length c] w fun v w' => Kept none' w w' ∧ Bys w' v m ∧ ∀ j, v.ownBlock = some j → w.heap.size ≤ j := by
  refine ret_of_W Tryz.func32 rfl ok_bytes_Clone ?_
  simp [c_bytes_Clone]
  refine W_no (by simp) ?_
  simp
  have hk0 : Kept none' w (w.alloc (.cells #[] 5)) := (Kept.refl _ _).alloc _
  have hB := bys_none w
  have hx' : ∀ (j x : Nat), m[j]? = some x → wcell (w.alloc (.cells #[] 5)) b (off + j) = some (.int .u8 x) := fun j x hj => wcell_kept hk0 (fun h => h) (hx j x hj)
  have hs : (w.alloc (.cells #[] 5)).heap.size = w.heap.size + 1 := by simp
  generalize w.alloc (.cells #[] 5) = w1 at hk0 hB hx' hs ⊢
  obtain ⟨v', w', hr, hB', hk', ho'⟩ := bys_append (c := c) hB (by simp; omega) hx'
  refine W_bi (by simp) hr (stab_nil _ _ _) ?_
  have hv := hB'.var
  simp [hv]
  refine ⟨hk0.then hk' (fun i hi hj => by simp [Value.ownBlock] at hj; omega), by simpa using hB', fun j hj => ?_⟩
  rcases ho' with q | q
  · rw [q] at hj; simp [Value.ownBlock] at hj; omega
  · rw [q] at hj; simp at hj; omega
def nextIs (M : BMap) : Int × Int := if M.l.length = 0 then (0, 2) else if M.ty = 4 then ((M.l.length : Int) - 1, 0) else (0, 0)
theorem next_ret (b : Nat) (M : BMap) (w : World) (h : MapAt w b M) (hty : M.ty = 3 ∨ M.ty = 4) : Ret Tryz.prog 102 [.pointer (some ⟨b, 0, none⟩)] w
    fun v w' => v = .tuple #[.int .i64 (nextIs M).1, .int .i64 (nextIs M).2] ∧ w' = w := by
  refine ret_of_W Tryz.func102 rfl ok_bmap_Map_next ?_
  have hb := h.blk
  have hl := h.row.len
  have hv := h.row.var
  have hsm := h.small
  simp [c_bmap_Map_next]
  refine W_yes (by simp) ?_
  refine W_call0 (by simp) (lined_ret b M w h) ?_
  rintro v w1 ⟨rfl, rfl⟩
  have hty' : (decide (M.ty = 3) || decide (M.ty = 4)) = true := by simpa using hty
  rw [hty']
  simp
  refine W_no (by simp) ?_
  simp [wcell_of hb, BMap.cells, hl, hv]
  unfold nextIs
  refine W_cond (t := decide (M.l.length = 0)) (by simp) ?_ ?_
  · intro h0
    have h0' : M.l.length = 0 := by simpa using h0
    simp [h0']
  · intro h0
    have h0' : ¬ M.l.length = 0 := by simpa using h0
    simp [wcell_of hb, BMap.cells, hl, hv]
    refine W_cond (t := decide (M.ty = 4)) (by simp) ?_ ?_
    · intro h4
      have h4' : M.ty = 4 := by simpa using h4
      have e1 : IntKind.i64.wrap ((M.l.length : Int) - 1) = (M.l.length : Int) - 1 := i64w (by omega) (by omega)
      simp [wcell_of hb, BMap.cells, hl, hv, e1, h4', h0']
      rw [if_neg (by simpa using h0')]
      exact ⟨rfl, rfl⟩
    · intro h4
      have h4' : ¬ M.ty = 4 := by simpa using h4
      simp [h4', h0']
      rw [if_neg (by simpa using h0')]
      exact ⟨rfl, rfl⟩
def nextAtM (M : BMap) : Nat := if M.ty = 4 then M.l.length - 1 else 0
theorem nextIs_some {M : BMap} (h0 : 0 < M.l.length) : nextIs M = ((nextAtM M : Int), 0) ∧ nextAtM M < M.l.length := by
  unfold nextIs nextAtM
  rw [if_neg (by omega)]
  split
  · exact ⟨by rw [show ((M.l.length - 1 : Nat) : Int) = (M.l.length : Int) - 1 by omega], by omega⟩
  · exact ⟨rfl, h0⟩
def PeekIs (w w' : World) (M : BMap) (v : Value) : Prop := Kept none' w w' ∧
  ((M.l.length = 0 ∧ v = .tuple #[.slice none 0 0, .int .i64 2]) ∨
   ∃ (e : BEnt) (nb c : Nat), M.l[nextAtM M]? = some e ∧ v = .tuple #[.slice (some ⟨nb, 0, none⟩) M.vs c, .int .i64 0] ∧ w.heap.size ≤ nb ∧ ∀ j, j < M.vs → wcell w' nb j = some (.int .u8 (e.val j)))
theorem peek_ret (b : Nat) (M : BMap) (w : World) (h : MapAt w b M) (hty : M.ty = 3 ∨ M.ty = 4) (hV : M.vs ≤ 1000) : Ret Tryz.prog 95 [.pointer (some ⟨b, 0, none⟩)] w fun v w' => PeekIs w w' M v := by
  refine ret_of_W Tryz.func95 rfl ok_bmap_Map_Peek ?_
  simp [c_bmap_Map_Peek]
  refine W_call0 (by simp) (next_ret b M w h hty) ?_
  rintro v w1 ⟨rfl, rfl⟩
  by_cases h0 : M.l.length = 0
  · have : nextIs M = (0, 2) := by unfold nextIs; rw [if_pos h0]
    rw [this]
    simp
    refine W_yes (by simp) ?_
    simp
    exact ⟨Kept.refl _ _, .inl ⟨h0, rfl⟩⟩
  · obtain ⟨hn, hlt⟩ := nextIs_some (M := M) (by omega)
    rw [hn]
    have he : M.l[nextAtM M]? = some M.l[nextAtM M] := List.getElem?_eq_getElem hlt
    generalize hat : nextAtM M = at' at hlt he
    generalize M.l[at'] = e at he
    have hb := h.blk
    obtain ⟨g, cap, hL, hcell⟩ := h.row.get he
    have hE := h.mem he
    have hent := hE.ent
    obtain ⟨c0, hc0, hcc⟩ := hE.cell
    obtain ⟨cs, hval, hv1, hv2⟩ := hE.val
    have hlt' : (at' : Int) < M.l.length := by omega
    simp
    refine W_no (by simp) ?_
    simp
    refine W_call0 (by simp [wcell_of hb, BMap.cells, hL, hlt, hcell, wcell_of hent, BEnt.cells, wcell_of hcc]) (clone_ret e.vb 0 M.vs c0 (fun j => .int .u8 (e.val j)) w1 (fun j hj => by rw [wcell_of hval, Nat.zero_add]; exact hv2 j hj) (by omega) (blk_lt hval)) ?_
    rintro v w2 ⟨hk2, nb, c', rfl, hc', hnb, hby⟩
    simp
    refine ⟨hk2, .inr ⟨e, nb, c', by rw [hat]; exact he, rfl, hnb, hby⟩⟩
theorem run_sl3 (t : Nat) (a : Addr) (n cap i j : Nat) (hij : i ≤ j) (hjn : j ≤ n) (hn : n ≤ cap) (w : World) : ∃ v, ((Tag.sl3 76).sem [.slice (some a) n cap, .int .i64 i, .int .i64 j, .int .i64 n]).run Tryz.prog w = .ok v w := by
  have hsz := run_size (P := Tryz.prog) (t := 79) (n := 1) (by kernel_rfl) w
  refine ⟨.slice (some (if n = i then a else a.add (i * 1))) (j - i) (n - i), ?_⟩
  simp only [Tag.sem]
  simp [Instr.sliceAt, Instr.slice, run_underlying Tryz.underlying76, Instr.sliceBounds, Instr.sliceBound, asIntOf, hsz]
  rw [if_pos hn, if_pos hjn, if_pos hij]
  by_cases h : n = i
  · rw [if_pos h, if_pos h]
  · rw [if_neg h, if_neg h]
set_option maxHeartbeats 1000000 in
theorem sdelete_ret (b : Nat) (M : BMap) (k : Nat) (w : World) (h : MapAt w b M) (hk : k < M.l.length) :
    Ret Tryz.prog 103 [M.L, .int .i64 k, .int .i64 ((k : Int) + 1)] w fun v w' => Kept (fun j => M.L.ownBlock = some j) w w' ∧ RowAt w' v (M.l.eraseIdx k) ∧ v.ownBlock = M.L.ownBlock := by
  refine ret_of_W Tryz.func103 rfl ok_slices_Delete ?_
  have hsm := h.small
  obtain ⟨g, cap, cur, hL, hg, h1, h2, h3, h4⟩ : ∃ g cap cur, M.L = .slice (some ⟨g, 0, none⟩) M.l.length cap ∧ w.heap[g]? = some (.cells cur 79 (0, 0)) ∧ M.l.length ≤ cap ∧ cap ≤ maxLen ∧ cur.size = cap ∧
      ∀ (i : Nat) (e : BEnt), M.l[i]? = some e → cur[i]? = some (Value.pointer (some ⟨e.eb, 0, none⟩)) := by
    rcases h.row with ⟨_, h0⟩ | h0
    · rw [h0] at hk; simp at hk
    · exact h0
  have hown : M.L.ownBlock = some g := by rw [hL]; rfl
  rw [hown, hL]
  simp only [Option.some.injEq]
  obtain ⟨vx, hsl3⟩ := run_sl3 0 ⟨g, 0, none⟩ M.l.length cap k (k + 1) (by omega) (by omega) h1 w
  have ek : (((k + 1 : Nat)) : Int) = (k : Int) + 1 := by omega
  rw [ek] at hsl3
  simp [c_slices_Delete]
  refine W_sem (by simp) hsl3 (stab_nil _ _ _) ?_
  simp
  refine W_no (by simp; omega) ?_
  have hgd : w.drew.heap[g]? = _ := hg
  have hkd : Kept (fun j => g = j) w w.drew := (Kept.refl _ _).drew
  have hso : ∃ so, (if cap = k + 1 then (⟨g, 0, none⟩ : Addr) else ⟨g, k + 1, none⟩) = ⟨g, so, none⟩ ∧ (k + 1 < M.l.length → so = k + 1) := by
    by_cases hc : cap = k + 1
    · rw [if_pos hc]; exact ⟨0, rfl, fun q => by omega⟩
    · rw [if_neg hc]; exact ⟨k + 1, rfl, fun _ => rfl⟩
  obtain ⟨so, hso, hso2⟩ := hso
  have b1 : (k : Int) ≤ cap := by omega
  have b2 : (k : Int) + 1 ≤ M.l.length := by omega
  have b3 : (M.l.length : Int) ≤ cap := by omega
  have b4 : ¬ (cap = 0) := by omega
  have b5 : ((k : Int) + 1).toNat = k + 1 := by omega
  have b6 : (0 : Int) ≤ (k : Int) + 1 := by omega
  simp
  generalize w.drew = w1 at hgd hkd ⊢
  have hi0 : (Tryz.prog.info? 79).any (fun i => i.size == 1) = true := by kernel_rfl
  obtain ⟨i, hi, hi1⟩ : ∃ i, Tryz.prog.info? 79 = some i ∧ i.size = 1 := by
    cases h : Tryz.prog.info? 79 with
    | none => rw [h] at hi0; cases hi0
    | some i => rw [h] at hi0; exact ⟨i, rfl, by simpa using hi0⟩
  have hptr : ∀ j, j < M.l.length → ∃ e, M.l[j]? = some e ∧ cur[j]? = some (Value.pointer (some ⟨e.eb, 0, none⟩)) := fun j hj => ⟨_, List.getElem?_eq_getElem hj, h4 j _ (List.getElem?_eq_getElem hj)⟩
  have hrun := run_append_room (P := Tryz.prog) w1 76 76 79 i Tryz.underlying76 hi g k cap cur hgd ⟨g, so, none⟩ (M.l.length - (k + 1)) (cap - (k + 1)) ((cur.toList.drop (k + 1)).take (M.l.length - (k + 1))) (by simp [hi1]; omega) (by
      intro j u hu
      rw [List.getElem?_take] at hu
      split at hu
      · rename_i hj
        rw [List.getElem?_drop] at hu
        rw [Addr.add_lit, hso2 (by omega)]
        refine wcell_cell ?_
        rw [wcell_of hgd]
        simpa using hu
      · cases hu) (by
      intro u hu
      obtain ⟨j, hj⟩ := List.mem_iff_getElem?.1 hu
      rw [List.getElem?_take] at hj
      split at hj
      · rename_i hjl
        rw [List.getElem?_drop] at hj
        obtain ⟨e, _, he⟩ := hptr (k + 1 + j) (by omega)
        have : cur.toList[k + 1 + j]? = some (Value.pointer (some ⟨e.eb, 0, none⟩)) := by simpa using he
        rw [this] at hj
        simp at hj
        subst hj
        rfl
      · cases hj) (by omega) (by simp [hi1]; omega)
  have hrun' : (builtin .append #[76, 76] 76 #[] #[.slice (some ⟨g, 0, none⟩) k cap, .slice (some ⟨g, so, none⟩) (M.l.length - (k + 1)) (cap - (k + 1))]).run Tryz.prog w1 = .ok (.value (.slice (some ⟨g, 0, none⟩) (k + (M.l.length - (k + 1))) cap)) (w1.setRow g (cur.toList.take (k * i.size) ++ (cur.toList.drop (k + 1)).take (M.l.length - (k + 1)) ++ cur.toList.drop (k * i.size + ((cur.toList.drop (k + 1)).take (M.l.length - (k + 1))).length)).toArray) := by
    simp only [builtin, map_eq_pure_bind, Sem.run_bind, hrun]
    rfl
  rw [hi1, Nat.mul_one] at hrun'
  have hg2 := setRow_heap w1 g cur (cur.toList.take k ++ (cur.toList.drop (k + 1)).take (M.l.length - (k + 1)) ++ cur.toList.drop (k + ((cur.toList.drop (k + 1)).take (M.l.length - (k + 1))).length)).toArray _ _ hgd
  have hk2 : Kept (fun j => g = j) w1 (w1.setRow g (cur.toList.take k ++ (cur.toList.drop (k + 1)).take (M.l.length - (k + 1)) ++ cur.toList.drop (k + ((cur.toList.drop (k + 1)).take (M.l.length - (k + 1))).length)).toArray) :=
    ⟨rfl, rfl, rfl, by simp [World.setRow], fun j _ hj => setRow_other w1 g j _ (fun e => hj e.symm)⟩
  refine W_bi (by simp [b1, b2, b3, b4, b5, b6, hso]) hrun' (stab_nil _ _ _) ?_
  generalize hrow : (cur.toList.take k ++ (cur.toList.drop (k + 1)).take (M.l.length - (k + 1)) ++ cur.toList.drop (k + ((cur.toList.drop (k + 1)).take (M.l.length - (k + 1))).length)).toArray = row at hg2 hk2 ⊢
  have hrs : row.size = cap := by rw [← hrow]; simp; omega
  have hrg : ∀ (j : Nat) (e : BEnt), (M.l.eraseIdx k)[j]? = some e → row[j]? = some (Value.pointer (some ⟨e.eb, 0, none⟩)) := by
    intro j e hj
    rw [get_erase] at hj
    have hcl : cur.toList.length = cap := by simp [h3]
    have hlt : j < M.l.length - 1 := by
      split at hj
      · omega
      · have := (List.getElem?_eq_some_iff.1 hj).1; omega
    rw [← hrow, List.getElem?_toArray, List.append_assoc]
    by_cases hjk : j < k
    · rw [if_pos hjk] at hj
      rw [List.getElem?_append_left (by simp; omega), List.getElem?_take, if_pos hjk]
      simpa using h4 j e hj
    · rw [if_neg hjk] at hj
      rw [List.getElem?_append_right (by simp; omega), List.getElem?_append_left (by simp; omega)]
      rw [show (cur.toList.take k).length = k by simp; omega, List.getElem?_take, if_pos (by omega), List.getElem?_drop, show k + 1 + (j - k) = j + 1 by omega]
      simpa using h4 (j + 1) e hj
  generalize w1.setRow g row = w2 at hg2 hk2 ⊢
  have e5 : k + (M.l.length - (k + 1)) = M.l.length - 1 := by omega
  rw [e5]
  have b7 : ¬ (cap = M.l.length - 1) := by omega
  have b8 : M.l.length - (M.l.length - 1) = 1 := by omega
  have b9 : ((M.l.length - 1 : Nat) : Int) ≤ M.l.length := by omega
  simp
  refine W_bi (by simp [b3, b7, b8, b9]) (run_clear1 (o := M.l.length - 1) (c := cap - (M.l.length - 1)) hg2 (by omega)) (stab_nil _ _ _) ?_
  simp
  refine ⟨(hkd.trans hk2).put (fun _ => rfl) _, ?_, rfl⟩
  refine .inr ⟨g, cap, _, ?_, put_same (blk_lt hg2), ?_, h2, by simpa using hrs, ?_⟩
  · simp [List.length_eraseIdx, hk]
  · simp [List.length_eraseIdx, hk]; omega
  · intro j e hj
    have hlt : j < M.l.length - 1 := by
      have := (List.getElem?_eq_some_iff.1 hj).1
      simp [List.length_eraseIdx, hk] at this
      omega
    rw [Array.getElem?_setIfInBounds_ne (by omega)]
    exact hrg j e hj
def PopIs (w w' : World) (b : Nat) (M : BMap) (v : Value) : Prop :=
  (M.l.length = 0 ∧ v = .tuple #[.slice none 0 0, .int .i64 2] ∧ Kept none' w w') ∨
  ∃ (e : BEnt) (nb c : Nat) (L' : Value), M.l[nextAtM M]? = some e ∧ v = .tuple #[.slice (some ⟨nb, 0, none⟩) M.vs c, .int .i64 0] ∧ w.heap.size ≤ nb ∧ (∀ j, j < M.vs → wcell w' nb j = some (.int .u8 (e.val j))) ∧
    Kept (fun j => j = b ∨ M.L.ownBlock = some j) w w' ∧ L'.ownBlock = M.L.ownBlock ∧ MapAt w' b { M with L := L', l := M.l.eraseIdx (nextAtM M) }
set_option maxHeartbeats 1000000 in
theorem pop_ret (b : Nat) (M : BMap) (w : World) (h : MapAt w b M) (hty : M.ty = 3 ∨ M.ty = 4) (hV : M.vs ≤ 1000) (hfz : M.frozen = false) : Ret Tryz.prog 96 [.pointer (some ⟨b, 0, none⟩)] w fun v w' => PopIs w w' b M v := by
  refine ret_of_W Tryz.func96 rfl ok_bmap_Map_Pop ?_
  simp [c_bmap_Map_Pop]
  refine W_call0 (by simp) (changes_ret b M w h) ?_
  rintro v w1 ⟨rfl, rfl⟩
  simp [hfz]
  refine W_no (by simp) ?_
  simp
  refine W_call0 (by simp) (peek_ret b M w1 h hty hV) ?_
  rintro v w2 ⟨hk2, ⟨h0, rfl⟩ | ⟨e, nb, c, he, rfl, hnb, hby⟩⟩
  · simp
    refine W_yes (by simp) ?_
    simp
    exact .inl ⟨h0, rfl, hk2⟩
  · have hm2 := h.calm hk2
    have hlt : nextAtM M < M.l.length := (List.getElem?_eq_some_iff.1 he).1
    obtain ⟨hn, _⟩ := nextIs_some (M := M) (by omega)
    have hsm := h.small
    simp
    refine W_no (by simp) ?_
    simp
    refine W_call0 (by simp) (next_ret b M w2 hm2 hty) ?_
    rintro v w3 ⟨rfl, rfl⟩
    rw [hn]
    have hb3 := hm2.blk
    have hvar := hm2.row.var
    have e1 : IntKind.i64.wrap ((nextAtM M : Int) + 1) = (nextAtM M : Int) + 1 := i64w (by omega) (by omega)
    simp
    refine W_call0 (by simp [wcell_of hb3, BMap.cells, hvar, e1]) (sdelete_ret b M (nextAtM M) w3 hm2 hlt) ?_
    rintro v w4 ⟨hk4, hr4, ho4⟩
    have hb4 := hk4.has hb3 (by
      intro ho
      rcases hm2.row with ⟨hL, _⟩ | ⟨g, cap, cur, hL, hg, _⟩
      · rw [hL] at ho; simp [Value.ownBlock] at ho
      · rw [hL] at ho
        simp [Value.ownBlock] at ho
        subst ho
        exact heap_ne hg hb3 (by decide) rfl)
    have hvv := hr4.var
    simp
    refine W_store (by simp) (by simp [hvv]) (store_L hb4 hr4.one hr4.cellsL) (stab_nil _ _ _) ?_
    simp
    have hk5 : Kept (fun j => j = b ∨ M.L.ownBlock = some j) w3 (put w4 b (.cells { M with L := v }.cells 78 (0, 0))) := (hk4.mono fun _ _ h => .inr h).put (fun _ => .inl rfl) _
    have hr5 : RowAt (put w4 b (.cells { M with L := v }.cells 78 (0, 0))) v (M.l.eraseIdx (nextAtM M)) := by
      refine hr4.keep (S := fun j => j = b) ((Kept.refl (fun j => j = b) _).put (b := b) (fun _ => rfl) _) ?_
      rintro j hj rfl
      rcases hr4 with ⟨hL, _⟩ | ⟨g, cap, cur, hL, hg, _⟩
      · rw [hL] at hj; simp [Value.ownBlock] at hj
      · rw [hL] at hj
        simp [Value.ownBlock] at hj
        subst hj
        exact heap_ne hg hb4 (by decide) rfl
    have hnbS : ¬ (nb = b ∨ M.L.ownBlock = some nb) := by
      intro ho
      have : M.own b nb := by
        rcases ho with ho | ho
        · exact .inl ho
        · exact .inr (.inl ho)
      have := own_lt h this
      omega
    refine .inr ⟨e, nb, c, v, he, rfl, hnb, fun j hj => wcell_kept hk5 hnbS (hby j hj), (hk2.mono fun _ _ h => h.elim).trans hk5, ho4, hm2.erase (put_same (blk_lt hb4)) hr5 hk5⟩
end Go.Proofs.YtmfgdbapankamaaGreat
