/- Layer 9, part Q: keys of all types: plain, right, exact, longest, find, Lookup. -/
import Derived.Test.YtihaopoehhnbkaaBmP
import Derived.Lib.ConvBytes
set_option linter.unusedSimpArgs false
set_option linter.unusedVariables false
set_option maxRecDepth 8000
namespace Go.Proofs.Ytihaopoehhnbkaa
open Go.Eng

theorem W_chkIn {P : Program} {R : Eng.Env → World → Prop} {k : List It} {env : Eng.Env} {w : World} {es : List Ex} (vs : List Value) (h : evs env w es = some vs) (hk : W P R k env w) : W P R (.c (.chk es) :: k) env w := by
  rw [W_chk, h]
  exact hk

theorem bstr_kept {w w' : World} {v x : Value} (hk : Kept none' w w') (h : bstrv w v = some x) : bstrv w' v = some x := bstrv_mono (fun b o hb => hk.has hb (fun h => h)) h

/-- A key's bytes behind the first four, as many bits of them as its number says. -/
def maskk (k : ByteArray) (n : Int) : ByteArray := bs (maskl (nb k) n)
/-- The name of a key's entry. -/
def name (M : BMap) (k : ByteArray) : ByteArray := if M.ty = 5 then maskk k (cnt k) else k
@[simp] theorem maskk_size (k : ByteArray) (n : Int) : (maskk k n).size = k.size := by simp [maskk, maskl_len]
@[simp] theorem name_size (M : BMap) (k : ByteArray) : (name M k).size = k.size := by unfold name; split <;> simp
theorem nb_maskk (k : ByteArray) (n : Int) : nb (maskk k n) = maskl (nb k) n := nb_bs (maskl_le (nb_le k) n)

theorem Bys.keyP {w : World} {v : Value} {m : List Nat} (h : Bys w v m) (h0 : 0 < m.length) (hle : ∀ x ∈ m, x ≤ 255) : KeyP w v (bs m) := by
  obtain ⟨g, cap, rfl, hc, _, hx⟩ := h.form h0
  exact KeyP.of hle hc fun j x hj => by rw [Nat.zero_add]; exact hx j x hj
theorem KeyP.str {w : World} {v : Value} {k : ByteArray} (h : KeyP w v k) (h0 : 0 < k.size) : bstrv w v = some (.string k) := by
  obtain ⟨b, o, c, rfl, hs, _⟩ := h.at h0
  exact hs

theorem gplain_ret (b : Nat) (M : BMap) (kv : Value) (k : ByteArray) (w : World) (h : MapAt w b M) (hk : KeyP w kv k) (h0 : 0 < k.size) (h5 : M.ty = 5 → 4 ≤ k.size) (hs : k.size ≤ 1000) :
    Ret Try.prog 57 [.pointer (some ⟨b, 0, none⟩), kv] w fun v w' => v = .string (name M k) ∧ Kept none' w w' := by
  refine ret_of_W Try.func57 rfl ok_bmap_Map_plain ?_
  have hb := h.blk
  have hkv := hk.var
  simp [c_bmap_Map_plain]
  by_cases hp : M.ty = 5
  · refine W_yes (by simp [wcell_of hb, BMap.cells, hp]) ?_
    simp
    refine W_call0 (by simp [hkv]) (counted_ret kv k w hk (h5 hp)) ?_
    rintro v w1 ⟨rfl, rfl⟩
    have hcr := cnt_range k
    simp
    refine W_call0 (by simp [hkv]) (masked_ret kv k (cnt k) w1 hk (h5 hp) hs hcr) ?_
    rintro v w2 ⟨hk2, hB, _⟩
    have hv := hB.var
    have hl : 0 < (maskl (nb k) (cnt k)).length := by rw [maskl_len]; simpa using h0
    have hstr := (hB.keyP hl (maskl_le (nb_le k) _)).str (by simpa using hl)
    simp [hv, hstr]
    exact ⟨by simp [name, hp, maskk], hk2⟩
  · refine W_no (by simp [wcell_of hb, BMap.cells, hp]) ?_
    simp [hk.str h0, hkv]
    exact ⟨by simp [name, hp], Kept.refl _ _⟩

theorem gright_ret (b : Nat) (M : BMap) (kv : Value) (k : ByteArray) (w : World) (h : MapAt w b M) (hk : KeyP w kv k) (h5 : M.ty = 5 → 4 ≤ M.ks) (hs : k.size ≤ 1000) :
    Ret Try.prog 53 [.pointer (some ⟨b, 0, none⟩), kv] w fun v w' => v = .bool (!decide (M.ty = 3) && !decide (M.ty = 4) && decide ((k.size : Int) = M.ks) && (!decide (M.ty = 5) || decide (cnt k ≤ 8 * ((k.size : Int) - 4)))) ∧ w' = w := by
  refine ret_of_W Try.func53 rfl ok_bmap_Map_right ?_
  have hb := h.blk
  have hkP := hk
  obtain ⟨kb, ko, kc, rfl, _, _⟩ := hk
  simp [c_bmap_Map_right]
  refine W_yes (by simp) ?_
  refine W_call0 (by simp) (lined_ret b M w h) ?_
  rintro v w1 ⟨rfl, rfl⟩
  simp
  refine W_cond (t := decide (M.ty = 3) || decide (M.ty = 4) || !decide ((k.size : Int) = M.ks)) (by simp [wcell_of hb, BMap.cells]) ?_ ?_
  · intro ht
    simp
    simp at ht
    rcases ht with (ht | ht) | ht <;> simp [ht]
  · intro ht
    simp at ht
    have e1 : IntKind.i64.wrap ((k.size : Int) - 4) = (k.size : Int) - 4 := i64w (by omega) (by omega)
    have e2 : IntKind.i64.wrap (8 * ((k.size : Int) - 4)) = 8 * ((k.size : Int) - 4) := i64w (by omega) (by omega)
    by_cases hp : M.ty = 5
    · simp [wcell_of hb, BMap.cells, hp]
      refine W_yes (by simp) ?_
      refine W_call0 (by simp) (counted_ret _ k w1 hkP (by have := h5 hp; have := ht.2; omega)) ?_
      rintro v w2 ⟨rfl, rfl⟩
      rw [ht.2] at e1 e2
      simp [e1, e2, ht]
    · simp [wcell_of hb, BMap.cells, hp]
      refine W_no (by simp) ?_
      simp [ht]

theorem gexact_ret (b : Nat) (M : BMap) (kv : Value) (k : ByteArray) (w : World) (h : MapAt w b M) (hk : KeyP w kv k) (h0 : 0 < k.size) (h5 : M.ty = 5 → 4 ≤ k.size) (hs : k.size ≤ 1000) :
    Ret Try.prog 54 [.pointer (some ⟨b, 0, none⟩), kv] w fun v w' => Kept none' w w' ∧ ExactIs M (name M k) v := by
  refine ret_of_W Try.func54 rfl ok_bmap_Map_exact ?_
  have hkvv := hk.var
  simp [c_bmap_Map_exact]
  refine W_call0 (by simp [hkvv]) (gplain_ret b M kv k w h hk h0 h5 hs) ?_
  rintro v w1 ⟨rfl, hk1⟩
  have h1 := h.calm hk1
  generalize name M k = K
  simp
  refine W_store (by simp) (by simp) (store_box (.string ⟨#[]⟩) (.string K) rfl rfl) (stab_nil _ _ _) ?_
  simp
  obtain ⟨hb4, hk2, _⟩ := box_any w1 #[.string ⟨#[]⟩] #[.string K] 9
  generalize put (w1.alloc (.cells #[.string ⟨#[]⟩] 9)) w1.heap.size (.cells #[.string K] 9 (0, 0)) = w2 at hb4 hk2 ⊢
  have hm2 := h1.calm hk2
  have hb := hm2.blk
  have hvar := hm2.row.var
  have hix := index_ret (f := 70) (cp := #[.pointer (some ⟨w1.heap.size, 0, none⟩)]) (fun e => decide (e.key = K)) w2 hm2.row hm2.small (by kernel_rfl) (by
    intro w' hk' e he
    exact exact1_ret e w1.heap.size K M.vs w' ((hm2.calm hk').ents e he) (by rw [wcell_of (hk'.has hb4 (fun h => h))]; rfl))
  refine W_call0 (by simp [wcell_of hb, BMap.cells, hvar]) hix ?_
  rintro v w3 ⟨hk3, hv⟩
  have hm3 := hm2.calm hk3
  have hb3 := hm3.blk
  have hvar3 := hm3.row.var
  simp
  rcases hv with ⟨i, e, hi, hpe, _, rfl⟩ | ⟨hno, rfl⟩
  · refine W_no (by simp) ?_
    have hil : i < M.l.length := (List.getElem?_eq_some_iff.1 hi).1
    obtain ⟨g, cap, hL, hcell⟩ := hm3.row.get hi
    simp [wcell_of hb3, BMap.cells, hL, hil, hcell]
    exact ⟨(hk1.trans hk2).trans hk3, .inl ⟨i, e, hi, by simpa using hpe, rfl⟩⟩
  · refine W_yes (by simp) ?_
    simp
    exact ⟨(hk1.trans hk2).trans hk3, .inr ⟨fun e he => by simpa using hno e he, rfl⟩⟩

theorem equal_ret (a c : Value) (s t : ByteArray) (w : World) (ha : bstrv w a = some (.string s)) (hc : bstrv w c = some (.string t)) (hva : varV a = some a) (hvc : varV c = some c) :
    Ret Try.prog 76 [a, c] w fun v w' => v = .bool (decide (s = t)) ∧ w' = w := by
  refine ret_of_W Try.func76 rfl ok_bytes_Equal ?_
  simp [c_bytes_Equal, ha, hc, hva, hvc, strBin, str_eq']

/-- A string made bytes. -/
theorem cv_bytes (w : World) (s : ByteArray) : ∃ c w', ((Tag.cv 9 38).sem [.string s]).run Try.prog w = .ok (.slice (some ⟨w.heap.size, 0, none⟩) s.size c) w' ∧ Kept none' w w' ∧ KeyP w' (.slice (some ⟨w.heap.size, 0, none⟩) s.size c) s ∧ w.heap.size < w'.heap.size := by
  refine ⟨grownCap w s.size 0 5, Lib.bytesWorld w 5 s, ?_, ?_, ⟨w.heap.size, 0, _, rfl, grownCap_ge _ _ _ _, ?_⟩, ?_⟩
  rotate_left
  · have := (Kept.refl none' w)
    refine ⟨rfl, rfl, rfl, by rw [Lib.bytesWorld_size]; omega, fun j hj _ => Lib.bytesWorld_at_old w 5 s j hj⟩
  · intro j x hj
    have hjs : j < s.size := by have := (List.getElem?_eq_some_iff.1 hj).1; simpa using this
    have h1 := Lib.bytesWorld_at_new w 5 s
    rw [wcell_of h1, Nat.zero_add]
    simp only [nb, List.getElem?_map, Array.getElem?_toList, Option.map_eq_some_iff] at hj
    obtain ⟨y, hy, rfl⟩ := hj
    unfold Lib.bytesCells
    rw [Array.getElem?_append_left (by rw [Array.size_map]; exact hjs)]
    simp [hy]
  · rw [Lib.bytesWorld_size]; omega
  · simp only [Tag.sem]
    exact Lib.run_convert_string_bytes w _ _ _ s Try.underlying9 Try.underlying38 Try.underlying5

theorem KeyP.tail {w : World} {v : Value} {k : ByteArray} (h : KeyP w v k) (h4 : 4 < k.size) : ∃ b off c, v = .slice (some ⟨b, off, none⟩) k.size c ∧ k.size ≤ c ∧ bstrv w (.slice (some ⟨b, off + 4, none⟩) (k.size - 4) (c - 4)) = some (.string (bs ((nb k).drop 4))) := by
  obtain ⟨b, o, c, rfl, hc, hx⟩ := h
  refine ⟨b, o, c, rfl, hc, ?_⟩
  have := bytes_bstr (w := w) (b := b) (off := o + 4) (c := c - 4) (m := (nb k).drop 4) (by simp; omega) (fun j x hj => by
    rw [List.getElem?_drop] at hj
    rw [Nat.add_assoc]
    exact hx (4 + j) x hj)
  rw [List.length_drop, nb_len] at this
  exact this

/-- An entry whose key's bits a key begins with. -/
def Fits (k : ByteArray) (e : BEnt) : Prop := cnt e.key ≤ cnt k ∧ bs ((maskl (nb k) (cnt e.key)).drop 4) = bs ((nb e.key).drop 4)

/-- What the search for the longest one tells. -/
def LongIs (l : List BEnt) (k : ByteArray) (n : Nat) (v : Value) : Prop :=
  (v = .pointer none ∧ ∀ (j : Nat) (e : BEnt), j < n → l[j]? = some e → ¬ Fits k e) ∨
  ∃ (i : Nat) (e : BEnt), i < n ∧ l[i]? = some e ∧ Fits k e ∧ v = .pointer (some ⟨e.eb, 0, none⟩) ∧ ∀ (j : Nat) (e' : BEnt), j < n → l[j]? = some e' → Fits k e' → cnt e'.key ≤ cnt e.key

theorem lt_succ {j n : Nat} (h : j < n + 1) : j < n ∨ j = n := by omega
theorem LongIs.skip {l : List BEnt} {k : ByteArray} {n : Nat} {v : Value} {e : BEnt} (h : LongIs l k n v) (he : l[n]? = some e) (hn : ¬ Fits k e) : LongIs l k (n + 1) v := by
  rcases h with ⟨rfl, h⟩ | ⟨i, e', hi, hl, hf, hv, h⟩
  · refine .inl ⟨rfl, fun j x hj hx => ?_⟩
    rcases lt_succ hj with hj | rfl
    · exact h j x hj hx
    · rw [he] at hx; cases hx; exact hn
  · refine .inr ⟨i, e', by omega, hl, hf, hv, fun j x hj hx hfx => ?_⟩
    rcases lt_succ hj with hj | rfl
    · exact h j x hj hx hfx
    · rw [he] at hx; cases hx; exact absurd hfx hn
theorem LongIs.first {l : List BEnt} {k : ByteArray} {n : Nat} {e : BEnt} (h : ∀ (j : Nat) (e : BEnt), j < n → l[j]? = some e → ¬ Fits k e) (he : l[n]? = some e) (hn : Fits k e) : LongIs l k (n + 1) (.pointer (some ⟨e.eb, 0, none⟩)) := by
  refine .inr ⟨n, e, by omega, he, hn, rfl, fun j x hj hx hfx => ?_⟩
  rcases lt_succ hj with hj | rfl
  · exact absurd hfx (h j x hj hx)
  · rw [he] at hx; cases hx; exact Int.le_refl _
theorem LongIs.more {l : List BEnt} {k : ByteArray} {n : Nat} {e e' : BEnt} (h : ∀ (j : Nat) (x : BEnt), j < n → l[j]? = some x → Fits k x → cnt x.key ≤ cnt e'.key) (he : l[n]? = some e) (hn : Fits k e) (hlt : cnt e'.key < cnt e.key) : LongIs l k (n + 1) (.pointer (some ⟨e.eb, 0, none⟩)) := by
  refine .inr ⟨n, e, by omega, he, hn, rfl, fun j x hj hx hfx => ?_⟩
  rcases lt_succ hj with hj | rfl
  · have := h j x hj hx hfx; omega
  · rw [he] at hx; cases hx; exact Int.le_refl _
theorem LongIs.less {l : List BEnt} {k : ByteArray} {n i : Nat} {e e' : BEnt} (hi : i < n) (hie : l[i]? = some e') (hf : Fits k e') (h : ∀ (j : Nat) (x : BEnt), j < n → l[j]? = some x → Fits k x → cnt x.key ≤ cnt e'.key) (he : l[n]? = some e) (hlt : ¬ cnt e'.key < cnt e.key) : LongIs l k (n + 1) (.pointer (some ⟨e'.eb, 0, none⟩)) := by
  refine .inr ⟨i, e', by omega, hie, hf, rfl, fun j x hj hx hfx => ?_⟩
  rcases lt_succ hj with hj | rfl
  · exact h j x hj hx hfx
  · rw [he] at hx; cases hx; omega

set_option maxHeartbeats 1000000 in
theorem longest_ret (b : Nat) (M : BMap) (kv : Value) (k : ByteArray) (w : World) (h : MapAt w b M) (hk : KeyP w kv k) (h4 : 4 < k.size) (hs : k.size ≤ 1000) (hall : ∀ e ∈ M.l, e.key.size = k.size) :
    Ret Try.prog 67 [.pointer (some ⟨b, 0, none⟩), kv] w fun v w' => Kept none' w w' ∧ LongIs M.l k M.l.length v := by
  refine ret_of_W Try.func67 rfl ok_bmap_Map_longest ?_
  have hb := h.blk
  have hlen := h.row.len
  have hvar := h.row.var
  have hsm := h.small
  have hkvar := hk.var
  simp [c_bmap_Map_longest, wcell_of hb, BMap.cells, hvar, hlen]
  refine W_loop (fun env w' => ∃ (i : Nat) (v : Value), env = [undef, kv, undef, v, .int .i64 i, .int .i64 M.l.length, M.L, undef, undef, undef, undef, undef, undef, undef, undef, undef, undef] ∧ i ≤ M.l.length ∧ Kept none' w w' ∧ LongIs M.l k i v) (fun env _ => M.l.length - natAt env 4) ?_ ?_
  · exact ⟨0, _, by simp, by omega, Kept.refl _ _, .inl ⟨rfl, fun j e hj => by omega⟩⟩
  · rintro env w1 ⟨i, v, rfl, hi, hk1, hL⟩
    have h1 := h.calm hk1
    have hK1 := hk.calm hk1
    have hvv : varV v = some v := by rcases hL with ⟨rfl, _⟩ | ⟨_, _, _, _, _, rfl, _⟩ <;> rfl
    by_cases hgo : i < M.l.length
    · have e1 : IntKind.i64.wrap ((i : Int) + 1) = ((i + 1 : Nat) : Int) := i64w (by omega) (by omega)
      have he : M.l[i]? = some M.l[i] := List.getElem?_eq_getElem hgo
      obtain ⟨g, cap, hLg, hcell⟩ := h1.row.get he
      have hE := h1.mem he
      have hks := hall _ (List.getElem_mem hgo)
      generalize M.l[i] = e at he hcell hE hks
      obtain ⟨c2, w2, hcv, hk2, hP2, _⟩ := cv_bytes w1 e.key
      have hvs2 := hP2.var
      simp [hLg, hvv, hkvar]
      refine W_yes (by simp; omega) ?_
      simp [hgo, hcell]
      refine W_sem (by simp [wcell_of hE.ent, BEnt.cells]) hcv (stab_nil _ _ _) ?_
      simp
      refine W_call0 (by simp) (counted_ret _ e.key w2 hP2 (by omega)) ?_
      rintro v3 w3 ⟨rfl, rfl⟩
      simp
      have hkD : Kept none' w1 w3.drew := hk2.trans (Kept.refl none' w3).drew
      have hPD := hP2.calm (Kept.refl none' w3).drew
      generalize w3.drew = w4 at hkD hPD ⊢
      clear hcv hk2 hP2
      have h4' := h1.calm hkD
      have hE4 := h4'.mem he
      have hK4 := hK1.calm hkD
      have hk4 := hk1.trans hkD
      obtain ⟨pb, po, pc, hpq, hpc, hptail⟩ := hPD.tail (by omega)
      simp at hpq
      obtain ⟨⟨rfl, rfl⟩, rfl⟩ := hpq
      have hp4 : (4 : Int) ≤ e.key.size := by omega
      have hp6 : ¬ c2 = 4 := by omega
      have hp5 : (e.key.size : Int) ≤ c2 := by omega
      refine W_call0 (by simp [hkvar]) (counted_ret _ k w4 hK4 (by omega)) ?_
      rintro v5 w5 ⟨rfl, rfl⟩
      have hcr := cnt_range e.key
      have hF : Fits k e ↔ cnt e.key ≤ cnt k ∧ bs ((maskl (nb k) (cnt e.key)).drop 4) = bs ((nb e.key).drop 4) := Iff.rfl
      generalize hce : cnt e.key = ce at hcr hF ⊢
      generalize hck : cnt k = ck at hF ⊢
      rw [W_seq]
      by_cases hcc : ck < ce
      · refine W_chkIn [.bool false, .bool false, .bool false] (by simp [hcc, hkvar]) ?_
        simp only [W_seq]
        refine W_no (by simp [hcc]) ?_
        simp only [W_clr, List.foldl, W_seq]
        refine W_chkIn [.bool false] (by simp [hcc]) ?_
        refine W_no (by simp [hcc]) ?_
        simp only [W_clr, List.foldl]
        refine W_yes (by simp [hcc]) ?_
        simp [hvv]
        exact ⟨⟨i + 1, v, ⟨rfl, e1⟩, by omega, hk4, hL.skip he (fun hf => by have := hF.1 hf; omega)⟩, by simp [natAt, e1]; omega⟩
      · refine W_chkIn [.slice (some ⟨w1.heap.size, 4, none⟩) (e.key.size - 4) (c2 - 4), .int .i64 ce, kv] (by simp [hcc, hkvar, hp4, hp5, hp6]) ?_
        simp only [W_seq]
        refine W_yes (by simp [hcc]) ?_
        refine W_call0 (by simp [hkvar]) (masked_ret kv k ce w5 hK4 (by omega) hs hcr) ?_
        rintro v6 w6 ⟨hk6, hB6, hown6⟩
        have hml : (maskl (nb k) ce).length = k.size := by rw [maskl_len, nb_len]
        have hmle := maskl_le (nb_le k) ce
        obtain ⟨b6, o6, c6, rfl, hc6, ht6⟩ := (hB6.keyP (by omega) hmle).tail (by simp; omega)
        have hnb6 : nb (bs (maskl (nb k) ce)) = maskl (nb k) ce := nb_bs hmle
        rw [hnb6] at ht6
        simp only [bs_size, hml] at hc6 ht6 hB6 ⊢
        have ht4 := bstr_kept hk6 hptail
        generalize maskl (nb k) ce = mk at *
        have hq6 : ¬ c6 = 4 := by omega
        have hq5 : (k.size : Int) ≤ c6 := by omega
        have hq4 : (4 : Int) ≤ k.size := by omega
        simp only [W_seq]
        refine W_chkIn [.slice (some ⟨b6, o6 + 4, none⟩) (k.size - 4) (c6 - 4)] (by simp [hcc, hq4, hq5, hq6]) ?_
        refine W_yes (by simp [hcc]) ?_
        rw [Nat.zero_add] at ht4
        refine W_call0 (vs := [.slice (some ⟨b6, o6 + 4, none⟩) (k.size - 4) (c6 - 4), .slice (some ⟨w1.heap.size, 4, none⟩) (e.key.size - 4) (c2 - 4)]) (by simp [hq4, hq5, hq6, hp4, hp5, hp6]) (equal_ret _ _ _ _ w6 ht6 ht4 rfl rfl) ?_
        rintro v7 w7 ⟨rfl, rfl⟩
        have h7 := h1.calm (hkD.trans hk6)
        have hk7 := hk4.trans hk6
        refine W_cond (t := !decide (bs (mk.drop 4) = bs ((nb e.key).drop 4))) (by simp [hcc]) ?_ ?_
        · intro ht
          simp at ht
          simp [hvv]
          exact ⟨⟨i + 1, v, ⟨rfl, e1⟩, by omega, hk7, hL.skip he (fun hf => ht (hF.1 hf).2)⟩, by simp [natAt, e1]; omega⟩
        · intro ht
          simp at ht
          have hFit : Fits k e := hF.2 ⟨by omega, ht⟩
          simp only [W_skip, W_seq]
          rcases hL with ⟨rfl, hno⟩ | ⟨i0, e0, hi0, hl0, hf0, rfl, hmax⟩
          · refine W_chkIn [.bool false, .bool false] (by simp) ?_
            simp only [W_seq]
            refine W_no (by simp) ?_
            simp only [W_clr, List.foldl]
            refine W_no (by simp) ?_
            simp only [W_clr, List.foldl]
            refine W_yes (by simp) ?_
            simp
            exact ⟨⟨i + 1, _, ⟨rfl, e1⟩, by omega, hk7, LongIs.first hno he hFit⟩, by simp [natAt, e1]; omega⟩
          · have hE0 := h7.mem hl0
            have hks0 := hall _ (List.mem_of_getElem? hl0)
            refine W_chkIn [.string e0.key, .int .i64 ce] (by simp [wcell_of hE0.ent, BEnt.cells]) ?_
            obtain ⟨c8, w8, hcv8, hk8, hP8, _⟩ := cv_bytes w7 e0.key
            simp only [W_seq]
            refine W_yes (by simp) ?_
            refine W_sem (by simp [wcell_of hE0.ent, BEnt.cells]) hcv8 (stab_nil _ _ _) ?_
            refine W_yes (by simp) ?_
            refine W_call0 (by simp) (counted_ret _ e0.key w8 hP8 (by omega)) ?_
            rintro v9 w9 ⟨rfl, rfl⟩
            have hk9 := hk7.trans hk8
            refine W_cond (t := decide (cnt e0.key < ce)) (by simp) ?_ ?_
            · intro ht
              simp at ht
              simp
              exact ⟨⟨i + 1, _, ⟨rfl, e1⟩, by omega, hk9, LongIs.more hmax he hFit (by omega)⟩, by simp [natAt, e1]; omega⟩
            · intro ht
              simp at ht
              simp
              exact ⟨⟨i + 1, _, ⟨rfl, e1⟩, by omega, hk9, LongIs.less hi0 hl0 hf0 hmax he (by omega)⟩, by simp [natAt, e1]; omega⟩
    · have hie : i = M.l.length := by omega
      subst hie
      simp [hvv]
      refine W_no (by simp) ?_
      simp [hvv]
      exact ⟨hk1, hL⟩
end Go.Proofs.Ytihaopoehhnbkaa
