/- RightsBits, RightsLess: the walks. -/
import Derived.Test.YtjnenadacfofpaaDoorRtC
set_option linter.unusedSimpArgs false
set_option linter.unusedVariables false
set_option maxRecDepth 8000
namespace Go.Proofs.YtjnenadacfofpaaDoor
open Go.Eng

theorem row8 (z a0 a1 a2 a3 a4 a5 a6 a7 : Value) : ((((((((Array.replicate 8 z).setIfInBounds 0 a0).setIfInBounds 1 a1).setIfInBounds 2 a2).setIfInBounds 3 a3).setIfInBounds 4 a4).setIfInBounds 5 a5).setIfInBounds 6 a6).setIfInBounds 7 a7 = #[a0, a1, a2, a3, a4, a5, a6, a7] := by
  rw [show Array.replicate 8 z = #[z, z, z, z, z, z, z, z] from rfl]
  simp

theorem bits_ret (x : Int) (w : World) (hg : Glob w) : Ret Tryd.prog 4 [.int .i32 x] w fun v w' => v = .bool true ∧ Kept none' w w' := by
  refine ret_of_W Tryd.func4 rfl ok_tipstafflaw11_RightsBits ?_
  simp [c_tipstafflaw11_RightsBits]
  refine W_calmP (by simp) (bit_ret x w hg) ?_
  rintro v w1 hk1 ⟨r, rfl, hr⟩
  simp [-W_row]
  refine W_row' (v := .agg #[.int .i32 1, .int .i32 2, .int .i32 3, .int .i32 5, .int .i32 7, .int .i32 87, .int .i32 88, .int .i32 89]) (cs := #[.int .i32 1, .int .i32 2, .int .i32 3, .int .i32 5, .int .i32 7, .int .i32 87, .int .i32 88, .int .i32 89]) (by simp [row8]) (by simp) ?_
  have hp := hp_new w1 (.cells #[.int .i32 1, .int .i32 2, .int .i32 3, .int .i32 5, .int .i32 7, .int .i32 87, .int .i32 88, .int .i32 89] 21)
  have hk2 : Kept none' w1 (w1.alloc (.cells #[.int .i32 1, .int .i32 2, .int .i32 3, .int .i32 5, .int .i32 7, .int .i32 87, .int .i32 88, .int .i32 89] 21)) := (Kept.refl _ _).alloc _
  generalize w1.alloc (.cells #[.int .i32 1, .int .i32 2, .int .i32 3, .int .i32 5, .int .i32 7, .int .i32 87, .int .i32 88, .int .i32 89] 21) = w2 at hp hk2 ⊢
  have hk02 := hk1.trans hk2
  have hcell : ∀ i : Nat, i < 8 → wcell w2 w1.heap.size i = some (.int .i32 (helperAt i)) := by
    intro i hi
    rw [wcell_of hp]
    have : i = 0 ∨ i = 1 ∨ i = 2 ∨ i = 3 ∨ i = 4 ∨ i = 5 ∨ i = 6 ∨ i = 7 := by omega
    rcases this with rfl | rfl | rfl | rfl | rfl | rfl | rfl | rfl <;> rfl
  generalize w1.heap.size = p at hcell
  clear hp
  simp
  refine W_loop (fun env w' => w' = w2 ∧ ∃ i : Nat, env = [.int .i32 x, undef, undef, .int .i64 (max r 0), .bool (decide (0 ≤ r)), undef, .slice (some ⟨p, 0, none⟩) 8 8, .int .i64 i, undef, undef] ∧ i ≤ 8 ∧ ∀ j : Nat, j < i → helperAt j ≠ x) (fun env _ => 8 - natAt env 7) ?_ ?_
  · exact ⟨rfl, 0, by simp, by omega, fun j hj => by omega⟩
  rintro env w3 ⟨rfl, i, rfl, hi, hall⟩
  by_cases hgo : i < 8
  · simp
    refine W_yes (by simp; omega) ?_
    have e1 : IntKind.i64.wrap ((i : Int) + 1) = ((i + 1 : Nat) : Int) := i64w (by omega) (by omega)
    have hc := hcell i hgo
    have hi8 : (i : Int) < 8 := by omega
    simp
    refine W_cond (t := decide (helperAt i = x)) (by simp [hgo, hi8, hc]) ?_ ?_
    · intro h
      simp at h
      have hri : r = i := by
        rcases hr with ⟨k, hk, rfl, hkx, hkl⟩ | ⟨_, hn⟩
        · rcases Nat.lt_trichotomy k i with hlt | heq | hgt
          · exact absurd hkx (hall k hlt)
          · rw [heq]
          · exact absurd h (hkl i hgt)
        · exact absurd h (hn i hgo)
      subst hri
      simp
      refine W_calm (by simp) (whole_ret w3 (hg.calm hk02)) ?_
      intro w4 hk4
      simp
      exact hk02.trans hk4
    · intro h
      simp at h
      simp
      refine ⟨⟨i + 1, e1, by omega, fun j hj => ?_⟩, by simp [natAt, e1]; omega⟩
      by_cases hji : j = i
      · subst hji; exact h
      · exact hall j (by omega)
  · have hi8 : i = 8 := by omega
    subst hi8
    have hr1 : r = -1 := by
      rcases hr with ⟨k, hk, rfl, hkx, _⟩ | ⟨h, _⟩
      · exact absurd hkx (hall k hk)
      · exact h
    subst hr1
    simp
    refine W_no (by simp) ?_
    simp
    refine W_calm (by simp) (whole_ret w3 (hg.calm hk02)) ?_
    intro w4 hk4
    have hm1 : max (-1 : Int) 0 = 0 := by decide
    simp [hm1]
    exact hk02.trans hk4

/-! Less. -/
theorem andNot_u16 (a : Nat) (ha : a < 65536) (x : Int) : ∃ c : Nat, bitAndNot .u16 (a : Int) x = c ∧ c &&& a = c ∧ c ≤ a := by
  refine ⟨a &&& (~~~BitVec.ofInt 16 x).toNat, ?_, ?_, Nat.and_le_left⟩
  · have h := Nat.and_le_left (n := a) (m := (~~~BitVec.ofInt 16 x).toNat)
    unfold bitAndNot
    show IntKind.u16.wrap ((BitVec.ofInt 16 (a : Int) &&& ~~~BitVec.ofInt 16 x).toNat : Int) = _
    rw [bv_nat, BitVec.toNat_and, BitVec.toNat_ofNat, Nat.mod_eq_of_lt (by omega), u16w (by omega) (by omega)]
  · rw [Nat.and_comm, ← Nat.and_assoc, Nat.and_self]

theorem rt_put {w0 w : World} {pb off : Nat} {r r' : Rt} {T : TypeId} {v : Value} (hk : Kept none' w0 w) (hb : w.heap[pb]? = some (.cells r.arr T (0, 0))) (hn : w0.heap.size ≤ pb) (ho : off + 1 ≤ 6) (h1 : v.cells = #[v]) (hv : v.oneCell' = true) (hs : r.arr.setIfInBounds off v = r'.arr) :
    ∃ w', stv w 1 (.pointer (some ⟨pb, off, none⟩)) v = some w' ∧ Kept none' w0 w' ∧ w'.heap[pb]? = some (.cells r'.arr T (0, 0)) ∧ ∀ j, j ≠ pb → w'.heap[j]? = w.heap[j]? := by
  refine ⟨put w pb (.cells r'.arr T (0, 0)), ?_, hk.putNew hn _, put_same (blk_lt hb), fun j hj => put_other hj⟩
  rw [stv_of (n := 1) (v := v) hb (by rw [h1]; rfl) (by simpa using ho) (.inl (by simp)) (by rw [h1]; simp [hv]), h1]
  show some (put w pb (.cells (r.arr.setIfInBounds off v) T (0, 0))) = _
  rw [hs]

theorem common_comm (a b : Rt) : common a b = common b a := by
  unfold common
  rw [Nat.and_comm a.c, Nat.and_comm a.p, Nat.and_comm a.m, Nat.and_comm a.h, Bool.and_comm a.v, Bool.or_comm a.s]
theorem common_self (a : Rt) : common a a = a := by
  unfold common
  simp

set_option maxHeartbeats 2000000 in
theorem less_ret (a : Rt) (x : Int) (w : World) (hg : Glob w) (ha : a.wf) : Ret Tryd.prog 5 [a.val, .int .i64 x] w fun v w' => v = .bool true ∧ Kept none' w w' := by
  refine ret_of_W Tryd.func5 rfl ok_tipstafflaw11_RightsLess ?_
  obtain ⟨k, hk66, hq, hqw⟩ := (show ∃ k : Nat, (k : Int) < 66 ∧ (IntKind.u64.wrap x).tmod 66 = k ∧ IntKind.i64.wrap ((IntKind.u64.wrap x).tmod 66) = k by
    have h0 : 0 ≤ IntKind.u64.wrap x := by rw [IntKind.wrap_u64]; omega
    have h1 : (IntKind.u64.wrap x).tmod 66 = IntKind.u64.wrap x % 66 := Int.tmod_eq_emod_of_nonneg h0
    have h2 : 0 ≤ IntKind.u64.wrap x % 66 := Int.emod_nonneg _ (by omega)
    have h3 : IntKind.u64.wrap x % 66 < 66 := Int.emod_lt_of_pos _ (by omega)
    refine ⟨(IntKind.u64.wrap x % 66).toNat, by omega, by omega, ?_⟩
    rw [h1, i64w (by omega) (by omega)]; omega)
  simp [c_tipstafflaw11_RightsLess, zero_arr]
  have hp1 : ((w.alloc (.cells a.arr 24)).alloc (.cells Rt.zero.arr 24)).heap[w.heap.size]? = some (.cells a.arr 24 (0, 0)) := hp_old (hp_at rfl) _
  have hp2 : ((w.alloc (.cells a.arr 24)).alloc (.cells Rt.zero.arr 24)).heap[w.heap.size + 1]? = some (.cells Rt.zero.arr 24 (0, 0)) := hp_at (by simp)
  have hk2 : Kept none' w ((w.alloc (.cells a.arr 24)).alloc (.cells Rt.zero.arr 24)) := ((Kept.refl none' w).alloc _).alloc _
  generalize (w.alloc (.cells a.arr 24)).alloc (.cells Rt.zero.arr 24) = w2 at hp1 hp2 hk2 ⊢
  obtain ⟨w3, hst, hk3, hb3, hoth, _⟩ := rt_box (w0 := w) hk2 hp2 (by omega) a
  refine W_store (by simp) (by simp) hst (stab_nil _ _ _) ?_
  have ha3 : w3.heap[w.heap.size]? = some (.cells a.arr 24 (0, 0)) := by rw [hoth _ (by omega)]; exact hp1
  generalize hpa : w.heap.size = pa at ha3 hb3
  have hpne : pa ≠ pa + 1 := by omega
  clear hp1 hp2 hoth hst hk2
  have ekk : IntKind.i64.wrap (k : Int) = k := i64w (by omega) (by omega)
  simp [hq, ekk]
  refine W_cut (fun env w' => Kept none' w w' ∧ ∃ (b : Rt) (y7 y8 y9 y10 y11 : Value), env = [.agg a.arr, .int .i64 x, .bool false, .pointer (some ⟨pa, 0, none⟩), .pointer (some ⟨pa + 1, 0, none⟩), .agg a.arr, .int .i64 k, y7, y8, y9, y10, y11, undef, undef, undef, undef, undef, undef, undef, undef, undef, undef, undef, undef, undef, undef, undef, undef, undef, undef, undef] ∧
      common b a = b ∧ b.wf ∧ wrow w' pa 0 6 = some a.arr ∧ wrow w' (pa + 1) 0 6 = some b.arr) ?_ ?_
  · have step : ∀ (off : Nat) (v : Value) (b : Rt), off + 1 ≤ 6 → v.cells = #[v] → v.oneCell' = true → a.arr.setIfInBounds off v = b.arr → common b a = b → b.wf → ∀ w3', (w3' = w3 ∨ w3' = w3.drew) → ∃ w', stv w3' 1 (.pointer (some ⟨pa + 1, off, none⟩)) v = some w' ∧
        Kept none' w w' ∧ common b a = b ∧ b.wf ∧ wrow w' pa 0 6 = some a.arr ∧ wrow w' (pa + 1) 0 6 = some b.arr := by
      intro off v b ho h1 h2 h3 h4 h5 w3' hw
      have hkk : Kept none' w w3' := by
        rcases hw with rfl | rfl
        · exact hk3
        · exact hk3.drew
      have hbb : w3'.heap[pa + 1]? = some (.cells a.arr 24 (0, 0)) := by
        rcases hw with rfl | rfl
        · exact hb3
        · exact hb3
      have haa : w3'.heap[pa]? = some (.cells a.arr 24 (0, 0)) := by
        rcases hw with rfl | rfl
        · exact ha3
        · exact ha3
      obtain ⟨w', q1, q2, q3, q4⟩ := rt_put (w0 := w) (r' := b) hkk hbb (by omega) ho h1 h2 h3
      exact ⟨w', q1, q2, h4, h5, wrow_box (by rw [q4 _ hpne]; exact haa) (by simp), wrow_box q3 (by simp)⟩
    have hw1 : ∀ off : Nat, off < 6 → wcell w3.drew (pa + 1) off = a.arr[off]? := fun off ho => wcell_of (show w3.drew.heap[pa + 1]? = _ from hb3)
    have hshl : ∀ j : Nat, j < 16 → binV .shl (.int .u16 1) (.int .i64 (j : Nat)) = some (.int .u16 (IntKind.u16.wrap (1 * 2 ^ (min ((j : Nat) : Int).toNat IntKind.u16.bits)))) := fun j hj => by rw [← intBin_shl .u16 .i64 1 (j : Nat) (by omega)]; rfl
    by_cases h16 : k < 16
    · refine W_yes (by simp; omega) ?_
      have hk' : k < 16 := by omega
      obtain ⟨c, e1, e2, e3⟩ := andNot_u16 a.c ha.c (IntKind.u16.wrap (1 * 2 ^ (min ((k : Nat) : Int).toNat IntKind.u16.bits)))
      obtain ⟨w', q1, q2⟩ := step 0 (.int .u16 c) { a with c := c } (by omega) rfl rfl rfl (by simp [common, e2]) ⟨by show c < 65536; have := ha.c; omega, ha.p, ha.m, ha.h⟩ w3.drew (.inr rfl)
      have hsh := hshl k hk'
      generalize IntKind.u16.wrap (1 * 2 ^ (min ((k : Nat) : Int).toNat IntKind.u16.bits)) = sh at hsh e1
      have han : binV .andNot (.int .u16 a.c) (.int .u16 sh) = some (.int .u16 c) := by rw [binV_int, intBin_andNot, e1]
      simp only [W_draw, W_seq]
      refine W_store (by simp) (vv := .int .u16 c) ?_ q1 (stab_nil _ _ _) ?_
      · simp [hw1 0 (by omega), hsh, han, -binV_int]
      simp
      exact ⟨q2.1, _, q2.2.1, q2.2.2.1, q2.2.2.2.1, q2.2.2.2.2⟩
    refine W_no (by simp; omega) ?_
    simp
    by_cases h32 : k < 32
    · refine W_yes (by simp; omega) ?_
      have hk' : (k - 16) < 16 := by omega
      obtain ⟨c, e1, e2, e3⟩ := andNot_u16 a.p ha.p (IntKind.u16.wrap (1 * 2 ^ (min (((k - 16) : Nat) : Int).toNat IntKind.u16.bits)))
      obtain ⟨w', q1, q2⟩ := step 1 (.int .u16 c) { a with p := c } (by omega) rfl rfl rfl (by simp [common, e2]) ⟨ha.c, by show c < 65536; have := ha.p; omega, ha.m, ha.h⟩ w3.drew (.inr rfl)
      have es : IntKind.i64.wrap ((k : Int) - 16) = (((k - 16) : Nat) : Int) := by rw [i64w (by omega) (by omega)]; omega
      have hsh := hshl (k - 16) hk'
      generalize IntKind.u16.wrap (1 * 2 ^ (min (((k - 16) : Nat) : Int).toNat IntKind.u16.bits)) = sh at hsh e1
      have han : binV .andNot (.int .u16 a.p) (.int .u16 sh) = some (.int .u16 c) := by rw [binV_int, intBin_andNot, e1]
      simp only [W_draw, W_seq]
      refine W_store (by simp) (vv := .int .u16 c) ?_ q1 (stab_nil _ _ _) ?_
      · have hsb : binV .sub (.int .i64 (k : Nat)) (.int .i64 16) = some (.int .i64 ((k - 16) : Nat)) := by rw [binV_int, intBin_sub, es]
        simp [hw1 1 (by omega), hsb, hsh, han, -binV_int]
      simp
      exact ⟨q2.1, _, q2.2.1, q2.2.2.1, q2.2.2.2.1, q2.2.2.2.2⟩
    refine W_no (by simp; omega) ?_
    simp
    by_cases h48 : k < 48
    · refine W_yes (by simp; omega) ?_
      have hk' : (k - 32) < 16 := by omega
      obtain ⟨c, e1, e2, e3⟩ := andNot_u16 a.m ha.m (IntKind.u16.wrap (1 * 2 ^ (min (((k - 32) : Nat) : Int).toNat IntKind.u16.bits)))
      obtain ⟨w', q1, q2⟩ := step 2 (.int .u16 c) { a with m := c } (by omega) rfl rfl rfl (by simp [common, e2]) ⟨ha.c, ha.p, by show c < 65536; have := ha.m; omega, ha.h⟩ w3.drew (.inr rfl)
      have es : IntKind.i64.wrap ((k : Int) - 32) = (((k - 32) : Nat) : Int) := by rw [i64w (by omega) (by omega)]; omega
      have hsh := hshl (k - 32) hk'
      generalize IntKind.u16.wrap (1 * 2 ^ (min (((k - 32) : Nat) : Int).toNat IntKind.u16.bits)) = sh at hsh e1
      have han : binV .andNot (.int .u16 a.m) (.int .u16 sh) = some (.int .u16 c) := by rw [binV_int, intBin_andNot, e1]
      simp only [W_draw, W_seq]
      refine W_store (by simp) (vv := .int .u16 c) ?_ q1 (stab_nil _ _ _) ?_
      · have hsb : binV .sub (.int .i64 (k : Nat)) (.int .i64 32) = some (.int .i64 ((k - 32) : Nat)) := by rw [binV_int, intBin_sub, es]
        simp [hw1 2 (by omega), hsb, hsh, han, -binV_int]
      simp
      exact ⟨q2.1, _, q2.2.1, q2.2.2.1, q2.2.2.2.1, q2.2.2.2.2⟩
    refine W_no (by simp; omega) ?_
    simp
    by_cases h64 : k < 64
    · refine W_yes (by simp; omega) ?_
      have hk' : (k - 48) < 16 := by omega
      obtain ⟨c, e1, e2, e3⟩ := andNot_u16 a.h ha.h (IntKind.u16.wrap (1 * 2 ^ (min (((k - 48) : Nat) : Int).toNat IntKind.u16.bits)))
      obtain ⟨w', q1, q2⟩ := step 3 (.int .u16 c) { a with h := c } (by omega) rfl rfl rfl (by simp [common, e2]) ⟨ha.c, ha.p, ha.m, by show c < 65536; have := ha.h; omega⟩ w3.drew (.inr rfl)
      have es : IntKind.i64.wrap ((k : Int) - 48) = (((k - 48) : Nat) : Int) := by rw [i64w (by omega) (by omega)]; omega
      have hsh := hshl (k - 48) hk'
      generalize IntKind.u16.wrap (1 * 2 ^ (min (((k - 48) : Nat) : Int).toNat IntKind.u16.bits)) = sh at hsh e1
      have han : binV .andNot (.int .u16 a.h) (.int .u16 sh) = some (.int .u16 c) := by rw [binV_int, intBin_andNot, e1]
      simp only [W_draw, W_seq]
      refine W_store (by simp) (vv := .int .u16 c) ?_ q1 (stab_nil _ _ _) ?_
      · have hsb : binV .sub (.int .i64 (k : Nat)) (.int .i64 48) = some (.int .i64 ((k - 48) : Nat)) := by rw [binV_int, intBin_sub, es]
        simp [hw1 3 (by omega), hsb, hsh, han, -binV_int]
      simp
      exact ⟨q2.1, _, q2.2.1, q2.2.2.1, q2.2.2.2.1, q2.2.2.2.2⟩
    refine W_no (by simp; omega) ?_
    simp
    by_cases h65 : k = 64
    · refine W_yes (by simp; omega) ?_
      obtain ⟨w', q1, q2⟩ := step 4 (.bool false) { a with v := false } (by omega) rfl rfl rfl (by simp [common]) ⟨ha.c, ha.p, ha.m, ha.h⟩ w3 (.inl rfl)
      refine W_store (by simp) (by simp) q1 (stab_nil _ _ _) ?_
      simp
      exact ⟨q2.1, _, q2.2.1, q2.2.2.1, q2.2.2.2.1, q2.2.2.2.2⟩
    · refine W_no (by simp; omega) ?_
      obtain ⟨w', q1, q2⟩ := step 5 (.bool true) { a with s := true } (by omega) rfl rfl rfl (by simp [common]) ⟨ha.c, ha.p, ha.m, ha.h⟩ w3 (.inl rfl)
      refine W_store (by simp) (by simp) q1 (stab_nil _ _ _) ?_
      simp
      exact ⟨q2.1, _, q2.2.1, q2.2.2.1, q2.2.2.2.1, q2.2.2.2.2⟩
  · rintro env w4 ⟨hk4, b, y7, y8, y9, y10, y11, rfl, hba, hbw, hA, hB⟩
    have hab : common a b = b := by rw [common_comm]; exact hba
    simp
    refine W_calm (by simp) (whole_ret w4.drew (hg.calm hk4.drew)) ?_
    intro w5 hk5
    have k5 : Kept none' w w5 := hk4.trans ((Kept.refl none' w4).drew.trans hk5)
    have A5 := wrow_calm ((Kept.refl none' w4).drew.trans hk5) hA
    have B5 := wrow_calm ((Kept.refl none' w4).drew.trans hk5) hB
    have h24 : (decide (common a b = a) == decide (a = b)) = true := by
      rw [hab]
      by_cases h : a = b
      · subst h; simp
      · rw [decide_eq_false h, decide_eq_false (fun e => h e.symm)]; rfl
    have hd1 : decide (common b a = b) = true := by rw [hba]; simp
    simp [A5, B5]
    refine W_yes (by simp [A5, B5]) ?_
    simp only [W_set]
    refine ok_intro (.agg a.arr) (by simp [A5, B5]) ?_
    simp only [W_seq, setO, List.set_cons_succ, List.set_cons_zero]
    refine W_yes (by simp [A5, B5]) ?_
    refine W_calm (by simp [A5, B5]) (to_ret b w5) ?_
    intro w6 q6
    have k6 := k5.trans q6
    have A6 := wrow_calm q6 A5
    have B6 := wrow_calm q6 B5
    simp only [W_seq, setO, List.set_cons_succ, List.set_cons_zero]
    refine W_yes (by simp [A6, B6]) ?_
    refine W_calm (by simp [A6, B6]) (to_ret a w6) ?_
    intro w7 q7
    have k7 := k6.trans q7
    have A7 := wrow_calm q7 A6
    have B7 := wrow_calm q7 B6
    simp only [W_seq, setO, List.set_cons_succ, List.set_cons_zero]
    refine W_yes (by simp [A7, B7]) ?_
    refine W_calm (by simp [A7, B7]) (within_ret b a w7 hbw ha) ?_
    intro w8 q8
    have k8 := k7.trans q8
    have A8 := wrow_calm q8 A7
    have B8 := wrow_calm q8 B7
    simp only [W_seq, setO, List.set_cons_succ, List.set_cons_zero]
    rw [hd1]
    refine W_chkIn [.agg a.arr] (by simp [A8, B8]) ?_
    simp only [W_seq]
    refine W_yes (by simp [A8, B8]) ?_
    simp only [W_set]
    refine ok_intro (.agg b.arr) (by simp [A8, B8]) ?_
    simp only [W_seq, setO, List.set_cons_succ, List.set_cons_zero]
    refine W_yes (by simp [A8, B8]) ?_
    simp only [W_set]
    refine ok_intro (.agg a.arr) (by simp [A8, B8]) ?_
    simp only [W_seq, setO, List.set_cons_succ, List.set_cons_zero]
    refine W_yes (by simp [A8, B8]) ?_
    simp only [W_set]
    refine ok_intro (.agg b.arr) (by simp [A8, B8]) ?_
    simp only [W_seq, setO, List.set_cons_succ, List.set_cons_zero]
    refine W_yes (by simp [A8, B8]) ?_
    simp only [W_set]
    refine ok_intro (.bool (decide (a = b))) (by simp [A8, B8]) ?_
    simp only [W_seq, setO, List.set_cons_succ, List.set_cons_zero]
    refine W_yes (by simp [A8, B8]) ?_
    refine W_calm (by simp [A8, B8]) (to_ret a w8) ?_
    intro w9 q9
    have k9 := k8.trans q9
    have A9 := wrow_calm q9 A8
    have B9 := wrow_calm q9 B8
    simp only [W_seq, setO, List.set_cons_succ, List.set_cons_zero]
    refine W_yes (by simp [A9, B9]) ?_
    refine W_calm (by simp [A9, B9]) (to_ret b w9) ?_
    intro w10 q10
    have k10 := k9.trans q10
    have A10 := wrow_calm q10 A9
    have B10 := wrow_calm q10 B9
    simp only [W_seq, setO, List.set_cons_succ, List.set_cons_zero]
    refine W_yes (by simp [A10, B10]) ?_
    refine W_calm (by simp [A10, B10]) (within_ret a b w10 ha hbw) ?_
    intro w11 q11
    have k11 := k10.trans q11
    have A11 := wrow_calm q11 A10
    have B11 := wrow_calm q11 B10
    simp only [W_seq, setO, List.set_cons_succ, List.set_cons_zero]
    simp only [W_set]
    refine ok_intro (.bool (decide (common a b = a) == decide (a = b))) (by simp [A11, B11]) ?_
    simp only [W_seq, setO, List.set_cons_succ, List.set_cons_zero]
    rw [h24]
    refine W_chkIn [.agg a.arr] (by simp [A11, B11]) ?_
    simp only [W_seq]
    refine W_yes (by simp [A11, B11]) ?_
    simp only [W_set]
    refine ok_intro (.agg b.arr) (by simp [A11, B11]) ?_
    simp only [W_seq, setO, List.set_cons_succ, List.set_cons_zero]
    refine W_yes (by simp [A11, B11]) ?_
    simp only [W_set]
    refine ok_intro (.agg b.arr) (by simp [A11, B11]) ?_
    simp only [W_seq, setO, List.set_cons_succ, List.set_cons_zero]
    refine W_yes (by simp [A11, B11]) ?_
    refine W_calm (by simp [A11, B11]) (to_ret a w11) ?_
    intro w12 q12
    have k12 := k11.trans q12
    have A12 := wrow_calm q12 A11
    have B12 := wrow_calm q12 B11
    simp only [W_seq, setO, List.set_cons_succ, List.set_cons_zero]
    refine W_yes (by simp [A12, B12]) ?_
    refine W_calm (by simp [A12, B12]) (to_ret b w12) ?_
    intro w13 q13
    have k13 := k12.trans q13
    have A13 := wrow_calm q13 A12
    have B13 := wrow_calm q13 B12
    simp only [W_seq, setO, List.set_cons_succ, List.set_cons_zero]
    refine W_yes (by simp [A13, B13]) ?_
    refine W_calm (by simp [A13, B13]) (common_ret a b w13 ha hbw) ?_
    intro w14 q14
    have k14 := k13.trans q14
    have A14 := wrow_calm q14 A13
    have B14 := wrow_calm q14 B13
    simp only [W_seq, setO, List.set_cons_succ, List.set_cons_zero]
    rw [hab]
    refine W_yes (by simp [A14, B14]) ?_
    refine W_calm (by simp [A14, B14]) (to_ret b w14) ?_
    intro w15 q15
    have k15 := k14.trans q15
    have A15 := wrow_calm q15 A14
    have B15 := wrow_calm q15 B14
    simp only [W_seq, setO, List.set_cons_succ, List.set_cons_zero]
    simp only [W_set]
    refine ok_intro (.bool true) (by simp [A15, B15]) ?_
    simp only [W_seq, setO, List.set_cons_succ, List.set_cons_zero]
    simp
    exact k15
end Go.Proofs.YtjnenadacfofpaaDoor
