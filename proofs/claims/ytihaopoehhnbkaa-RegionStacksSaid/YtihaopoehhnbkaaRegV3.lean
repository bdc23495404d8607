/- RegionStacks, case 3: Bytes. -/
import Derived.Test.YtihaopoehhnbkaaRegV2
set_option linter.unusedSimpArgs false
set_option linter.unusedVariables false
set_option maxRecDepth 8000
namespace Go.Proofs.Ytihaopoehhnbkaa
open Go.Eng

def s_case3 : Cmd :=
  (.seq
   (.set 54 (.conv .i64 (.bin .rem (.conv .u64 (.ld none (.offp 3 (.var 23)))) (.const (.int .u64 70)))))
  (.seq
   (.seq
    (.call (some 55) 18 [(.var 19), (.ld (some 4) (.var 27)), (.var 54)] [])
   (.seq
    (.chk [(.proj 1 (.var 55))])
   (.seq
    (.set 56 (.proj 0 (.var 55)))
   (.set 57 (.proj 1 (.var 55))))))
  (.seq
   (.seq
    (.call (some 58) 23 [(.var 25), (.const (.int .i64 0)), (.var 54)] [])
   (.set 59 (.var 58)))
  (.seq
   (.set 60 (.pick (.bin .geq (.var 59) (.const (.int .i64 0))) (.bin .leq (.var 54) (.const (.int .i64 64))) (.const (.bool false))))
  (.seq
   (.seq
    (.set 61 (.const (.int .i64 0)))
   (.block 3
     (.loop [0, 19, 20, 21, 22, 54, 56, 57, 59, 60, 61]
       (.seq
        (.cond (.pick (.bin .lss (.var 61) (.var 54)) (.var 60) (.const (.bool false)))
          .skip
          (.exit 3))
       (.seq
        (.block 4
          (.set 60 (.bin .eql (.ld none (.offp 0 (.ixArr 64 2 (.offp 0 (.nn (.var 20))) (.bin .add (.var 59) (.var 61))))) (.const (.int .i64 1)))))
       (.set 61 (.bin .add (.var 61) (.const (.int .i64 1)))))))))
  (.seq
   (.cond (.eqx true .bool (.bin .eql (.var 57) (.const (.int .i64 0))) (.var 60))
     (.seq
      (.set 1 (.const (.bool false)))
     .ret)
     .skip)
  (.seq
   (.set 62 (.const (.int .i64 0)))
  (.block 5
    (.loop [0, 19, 20, 21, 22, 54, 56, 59, 60, 62]
      (.seq
       (.cond (.pick (.bin .lss (.var 62) (.var 54)) (.var 60) (.const (.bool false)))
         .skip
         (.exit 5))
      (.seq
       (.block 6
         (.seq
          .draw
         (.cond (.bin .neq (.ld none (.ixSl 1 (.var 56) (.var 62))) (.ld none (.offp 1 (.ixArr 64 2 (.offp 0 (.nn (.var 20))) (.bin .add (.var 59) (.var 62))))))
           (.seq
            (.set 1 (.const (.bool false)))
           .ret)
           .skip)))
      (.set 62 (.bin .add (.var 62) (.const (.int .i64 1)))))))))))))))

theorem bytesOk_out {m : RMem} {p : Int} {k : Nat} (h : ¬ (-64 ≤ p ∧ p + k ≤ 0)) : bytesOkS m p k = false := by
  unfold bytesOkS
  rw [decide_eq_false_iff_not]
  exact fun x => h ⟨x.2.1, x.2.2.1⟩

set_option maxHeartbeats 2000000 in
theorem case3_W {R : Eng.Env → World → Prop} {k : List It} {w0 w : World} {b st base n pA pV sz : Nat} {v v0 : Value} {i N off X x0 x1 x2 x3 : Int} {B : Value} {m : RMem} {s : SMem} {u1 u2 u3 u4 u5 u6 u7 u8 u9 u10 u11 u12 u13 u14 u15 u16 u17 u18 u24 u28 u29 u31 u33 u34 u35 u36 u37 u38 u39 u40 u41 u42 u43 u44 u45 u46 u47 u48 u49 u50 u51 u52 u53 u54 u55 u56 u57 u58 u59 u60 u61 u62 u63 u64 u65 u66 u67 u68 u69 : Value}
    (hS : St w0 w b st base v n m s) (hA : w.heap[pA]? = some (.cells #[.int .i64 x0, .int .i64 x1, .int .i64 x2, .int .i64 x3, .int .u64 X, B] 56 (0, 0)))
    (hV : w.heap[pV]? = some (.cells (RVal.mk 3 (IntKind.u64.wrap N) 0 none).arr 29 (0, 0)))
    (hN1 : -9223372036854775808 ≤ N) (hN2 : N ≤ 9223372036854775807)
    (h : ∀ (t : List Value) (w' : World) (m' : RMem) (s' : SMem), t.length = 47 → St w0 w' b st base v n m' s' → W Try.prog R k (v0 :: undef :: undef :: undef :: undef :: undef :: undef :: undef :: undef :: undef :: undef :: undef :: undef :: undef :: undef :: undef :: undef :: undef :: undef :: (.pointer (some ⟨b, 0, none⟩)) :: (.pointer (some ⟨st, 0, none⟩)) :: v :: (.int .i64 i) :: t) w') :
    W Try.prog R (.c s_case3 :: k) [v0, u1, u2, u3, u4, u5, u6, u7, u8, u9, u10, u11, u12, u13, u14, u15, u16, u17, u18, .pointer (some ⟨b, 0, none⟩), .pointer (some ⟨st, 0, none⟩), v, .int .i64 i, .pointer (some ⟨pA, 0, none⟩), u24, .int .i64 N, .int .i64 off, .pointer (some ⟨pV, 0, none⟩), u28, u29, .int .i64 sz, u31, .int .i64 (placeOf N off sz), u33, u34, u35, u36, u37, u38, u39, u40, u41, u42, u43, u44, u45, u46, u47, u48, u49, u50, u51, u52, u53, u54, u55, u56, u57, u58, u59, u60, u61, u62, u63, u64, u65, u66, u67, u68, u69] w := by
  have hb := hS.hb
  have hst := hS.hst
  have hN := wrapN hN1 hN2
  obtain ⟨c, hc70, hc, hcw⟩ := mod_small x3 70 (by omega) (by omega)
  simp only [s_case3]
  simp [wcell_of hA]
  rw [hcw]
  refine W_call0 (by simp [rval_row hV]) (bytes_ret b m ⟨3, IntKind.u64.wrap N, 0, none⟩ c w hS.mem rfl (by omega)) ?_
  rintro r w1 ⟨hk1, hr⟩
  rw [hN] at hr
  have hS1 := hS.calm hk1
  by_cases hin : -64 ≤ N + 0 ∧ N + 0 + c ≤ 0
  · obtain ⟨f, hf, hf2⟩ := inside hin
    have hfN : N = (f : Int) - 64 := by omega
    have hpl : placeOf N 0 c = f := placeOf_in hf hf2
    rw [hfN] at hr
    have hok := rel_bytes hS.rel f c hf2
    have hff : ((f : Int) - 64 + 64).toNat = f := by omega
    -- the bytes that were told
    obtain ⟨sl, er, rfl, hcells⟩ : ∃ (sl : Option Addr × Nat × Nat) (er : Int), r = .tuple #[.slice sl.1 sl.2.1 sl.2.2, .int .i64 er] ∧
        ((∀ q, q < c → s.what (f + q) = 1) ∧ er = 0 ∧ (∃ nb cp, sl = (some ⟨nb, 0, none⟩, c, cp) ∧ ∀ q, q < c → wcell w1 nb q = some (.int .u8 (s.num (f + q)))) ∨ ¬ (∀ q, q < c → s.what (f + q) = 1) ∧ er = 14) := by
      by_cases hall : ∀ q, q < c → s.what (f + q) = 1
      · rw [if_pos (hok.2 hall)] at hr
        obtain ⟨nb, cp, rfl, _, _, hcell⟩ := hr
        refine ⟨(some ⟨nb, 0, none⟩, c, cp), 0, by simp, .inl ⟨hall, rfl, nb, cp, rfl, fun q hq => ?_⟩⟩
        rw [hcell q (by simpa using hq), hff, hS.rel.num (f + q) (by omega) (hall q hq)]
      · rw [if_neg (fun x => hall (hok.1 x))] at hr
        exact ⟨(none, 0, 0), 14, hr, .inr ⟨hall, rfl⟩⟩
    obtain ⟨sa, sn, sc⟩ := sl
    simp
    refine W_call0 (by simp) (place_ret N 0 c w1 hN1 hN2 (by omega) (by omega) (by omega)) ?_
    rintro r w2 ⟨rfl, rfl⟩
    rw [hpl]
    have hc64 : (c : Int) ≤ 64 := by omega
    simp [hc64]
    refine W_loop (fun env w' => w' = w2 ∧ ∃ (j : Nat) (r : Bool), env = [v0, undef, undef, undef, undef, undef, undef, undef, undef, undef, undef, undef, undef, undef, undef, undef, undef, undef, undef, .pointer (some ⟨b, 0, none⟩), .pointer (some ⟨st, 0, none⟩), v, .int .i64 i, undef, undef, undef, undef, undef, undef, undef, undef, undef, undef, undef, undef, undef, undef, undef, undef, undef, undef, undef, undef, undef, undef, undef, undef, undef, undef, undef, undef, undef, undef, undef, .int .i64 c, undef, .slice sa sn sc, .int .i64 er, undef, .int .i64 f, .bool r, .int .i64 j, undef, undef, undef, undef, undef, undef, undef, undef] ∧ j ≤ c ∧
      (r = true → ∀ q, q < j → s.what (f + q) = 1) ∧ (r = false → ¬ ∀ q, q < c → s.what (f + q) = 1)) (fun env _ => c - natAt env 61) ?_ ?_
    · exact ⟨rfl, 0, true, by simp, by omega, fun _ q hq => by omega, fun h => by cases h⟩
    rintro env w3 ⟨rfl, j, r, rfl, hj, hr1, hr2⟩
    by_cases hgo : j < c ∧ r = true
    · obtain ⟨hj2, rfl⟩ := hgo
      simp
      refine W_yes (by simp; omega) ?_
      have e2 : IntKind.i64.wrap ((f : Int) + j) = (f : Int) + j := i64w (by omega) (by omega)
      have e3 : IntKind.i64.wrap ((j : Int) + 1) = ((j + 1 : Nat) : Int) := i64w (by omega) (by omega)
      have b6 : (f : Int) + j < 64 := by omega
      have b7 : (0 : Int) ≤ f + j := by omega
      have e6 : ((f : Int) + j).toNat = f + j := by omega
      have hm' := hS1.stk
      unfold IsStk at hm'
      have ew := stk_what s (f + j) (by omega)
      simp [e2, b6, b7, e6, wcell_of hm', ew]
      refine ⟨⟨j + 1, ?_⟩, by simp [natAt, e3]; omega⟩
      by_cases hw : s.what (f + j) = 1
      · right
        refine ⟨⟨hw, e3⟩, by omega, fun q hq => ?_⟩
        by_cases e : q = j
        · subst e; exact hw
        · exact hr1 rfl q (by omega)
      · left
        exact ⟨⟨hw, e3⟩, by omega, j, hj2, hw⟩
    · simp
      refine W_no ?_ ?_
      · simp
        intro hj2
        cases r
        · rfl
        · exact absurd ⟨by omega, rfl⟩ hgo
      simp
      have hcase : (r = true ∧ er = 0 ∧ (∀ q, q < c → s.what (f + q) = 1) ∧ ∃ nb cp, (sa, sn, sc) = (some (⟨nb, 0, none⟩ : Addr), c, cp) ∧ ∀ q, q < c → wcell w3 nb q = some (.int .u8 (s.num (f + q)))) ∨ (r = false ∧ er = 14) := by
        rcases hcells with ⟨hall, rfl, hx⟩ | ⟨hall, rfl⟩
        · cases r
          · exact absurd hall (hr2 rfl)
          · exact .inl ⟨rfl, rfl, hall, hx⟩
        · cases r
          · exact .inr ⟨rfl, rfl⟩
          · have : j = c := by
              by_cases e : j < c
              · exact absurd ⟨e, rfl⟩ hgo
              · omega
            subst this
            exact absurd (hr1 rfl) hall
      rcases hcase with ⟨rfl, rfl, hall, nb, cp, hsl, hby⟩ | ⟨rfl, rfl⟩
      · simp only [Prod.mk.injEq] at hsl
        obtain ⟨h1, h2, h3⟩ := hsl
        simp only [h1, h2, h3]
        refine W_no (by simp) ?_
        simp
        refine W_loop (fun env w' => St w0 w' b st base v n m s ∧ (∀ q, q < c → wcell w' nb q = some (.int .u8 (s.num (f + q)))) ∧ ∃ (j : Nat), env = [v0, undef, undef, undef, undef, undef, undef, undef, undef, undef, undef, undef, undef, undef, undef, undef, undef, undef, undef, .pointer (some ⟨b, 0, none⟩), .pointer (some ⟨st, 0, none⟩), v, .int .i64 i, undef, undef, undef, undef, undef, undef, undef, undef, undef, undef, undef, undef, undef, undef, undef, undef, undef, undef, undef, undef, undef, undef, undef, undef, undef, undef, undef, undef, undef, undef, undef, .int .i64 c, undef, .slice (some ⟨nb, 0, none⟩) c cp, undef, undef, .int .i64 f, .bool true, undef, .int .i64 j, undef, undef, undef, undef, undef, undef, undef] ∧ j ≤ c) (fun env _ => c - natAt env 62) ?_ ?_
        · exact ⟨hS1, hby, 0, by simp, by omega⟩
        rintro env w4 ⟨hS4, hby4, j2, rfl, hj2⟩
        by_cases hj3 : j2 < c
        · simp
          refine W_yes (by simp; omega) ?_
          have e2 : IntKind.i64.wrap ((f : Int) + j2) = (f : Int) + j2 := i64w (by omega) (by omega)
          have e3 : IntKind.i64.wrap ((j2 : Int) + 1) = ((j2 + 1 : Nat) : Int) := i64w (by omega) (by omega)
          have b6 : (f : Int) + j2 < 64 := by omega
          have b7 : (0 : Int) ≤ f + j2 := by omega
          have e6 : ((f : Int) + j2).toNat = f + j2 := by omega
          have hS5 := hS4.calm (Kept.refl none' w4).drew
          have hby5 : ∀ q, q < c → wcell w4.drew nb q = some (.int .u8 (s.num (f + q))) := hby4
          have hm' := hS5.stk
          unfold IsStk at hm'
          have en := stk_num s (f + j2) (by omega)
          have hbj := hby5 j2 hj3
          simp
          generalize w4.drew = w5 at *
          refine W_no (by simp [e2, b6, b7, e6, hj3, hbj, wcell_of hm', en]) ?_
          simp
          exact ⟨⟨hS5, hby5, j2 + 1, by simp [e3], by omega⟩, by simp [natAt, e3]; omega⟩
        · simp
          refine W_no (by simp; omega) ?_
          simp
          exact h _ _ _ _ rfl hS4
      · refine W_no (by simp) ?_
        simp
        refine W_loop (fun env w' => w' = w3 ∧ ∃ (x54 x56 x59 : Value), env = [v0, undef, undef, undef, undef, undef, undef, undef, undef, undef, undef, undef, undef, undef, undef, undef, undef, undef, undef, .pointer (some ⟨b, 0, none⟩), .pointer (some ⟨st, 0, none⟩), v, .int .i64 i, undef, undef, undef, undef, undef, undef, undef, undef, undef, undef, undef, undef, undef, undef, undef, undef, undef, undef, undef, undef, undef, undef, undef, undef, undef, undef, undef, undef, undef, undef, undef, .int .i64 c, undef, x56, undef, undef, x59, .bool false, undef, .int .i64 0, undef, undef, undef, undef, undef, undef, undef]) (fun env _ => 0) ?_ ?_
        · exact ⟨rfl, undef, _, _, by simp; exact ⟨rfl, rfl⟩⟩
        rintro env w4 ⟨rfl, x54, x56, x59, rfl⟩
        simp
        refine W_no (by simp) ?_
        simp
        exact h _ _ _ _ rfl hS1
  · have hpl : placeOf N 0 c = -1 := placeOf_out hin
    rw [bytesOk_out (m := m) (p := N) (k := c) (by omega)] at hr
    simp only [Bool.false_eq_true, if_false] at hr
    subst hr
    simp
    refine W_call0 (by simp) (place_ret N 0 c w1 hN1 hN2 (by omega) (by omega) (by omega)) ?_
    rintro r w2 ⟨rfl, rfl⟩
    rw [hpl]
    simp
    refine W_loop (fun env w' => w' = w2 ∧ ∃ (x56 x57 x59 : Value), env = [v0, undef, undef, undef, undef, undef, undef, undef, undef, undef, undef, undef, undef, undef, undef, undef, undef, undef, undef, .pointer (some ⟨b, 0, none⟩), .pointer (some ⟨st, 0, none⟩), v, .int .i64 i, undef, undef, undef, undef, undef, undef, undef, undef, undef, undef, undef, undef, undef, undef, undef, undef, undef, undef, undef, undef, undef, undef, undef, undef, undef, undef, undef, undef, undef, undef, undef, .int .i64 c, undef, x56, .int .i64 14, undef, x59, .bool false, .int .i64 0, undef, undef, undef, undef, undef, undef, undef, undef]) (fun env _ => 0) ?_ ?_
    · exact ⟨rfl, _, undef, _, by simp; exact ⟨rfl, rfl⟩⟩
    rintro env w4 ⟨rfl, x56, x57, x59, rfl⟩
    simp
    refine W_no (by simp) ?_
    simp
    refine W_no (by simp) ?_
    simp
    refine W_loop (fun env w' => w' = w4 ∧ ∃ (x56 x59 : Value), env = [v0, undef, undef, undef, undef, undef, undef, undef, undef, undef, undef, undef, undef, undef, undef, undef, undef, undef, undef, .pointer (some ⟨b, 0, none⟩), .pointer (some ⟨st, 0, none⟩), v, .int .i64 i, undef, undef, undef, undef, undef, undef, undef, undef, undef, undef, undef, undef, undef, undef, undef, undef, undef, undef, undef, undef, undef, undef, undef, undef, undef, undef, undef, undef, undef, undef, undef, .int .i64 c, undef, x56, undef, undef, x59, .bool false, undef, .int .i64 0, undef, undef, undef, undef, undef, undef, undef]) (fun env _ => 0) ?_ ?_
    · exact ⟨rfl, _, _, by simp; exact ⟨rfl, rfl⟩⟩
    rintro env w5 ⟨rfl, x56, x59, rfl⟩
    simp
    refine W_no (by simp) ?_
    simp
    exact h _ _ _ _ rfl hS1
end Go.Proofs.Ytihaopoehhnbkaa
