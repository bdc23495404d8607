/- RegionStacks, case 4: Fill. -/
import Derived.Test.YtihaopoehhnbkaaRegV3
set_option linter.unusedSimpArgs false
set_option linter.unusedVariables false
set_option maxRecDepth 8000
namespace Go.Proofs.Ytihaopoehhnbkaa
open Go.Eng

def s_case4 : Cmd :=
  (.seq
   (.set 64 (.slSl 1 (.ld none (.offp 5 (.var 23))) (.const (.int .i64 0)) (.mn (.len false (.ld none (.offp 5 (.var 23)))) (.const (.int .i64 70)))))
  (.seq
   (.seq
    (.call (some 65) 23 [(.var 25), (.const (.int .i64 0)), (.len false (.var 64))] [])
   (.set 66 (.var 65)))
  (.seq
   (.set 67 (.pick (.bin .geq (.var 66) (.const (.int .i64 0))) (.bin .leq (.len false (.var 64)) (.const (.int .i64 64))) (.const (.bool false))))
  (.seq
   (.seq
    (.call (some 68) 20 [(.var 19), (.ld (some 4) (.var 27)), (.var 64)] [])
   (.cond (.eqx true .bool (.bin .eql (.var 68) (.const (.int .i64 0))) (.var 67))
     (.seq
      (.set 1 (.const (.bool false)))
     .ret)
     .skip))
  (.seq
   (.set 69 (.const (.int .i64 0)))
  (.block 7
    (.loop [0, 19, 20, 21, 22, 64, 66, 67, 69]
      (.seq
       (.cond (.pick (.bin .lss (.var 69) (.len false (.var 64))) (.var 67) (.const (.bool false)))
         .skip
         (.exit 7))
      (.seq
       (.block 8
         (.call none 24 [(.var 20), (.bin .add (.var 66) (.var 69)), (.const (.int .i64 1)), (.conv .u64 (.ld none (.ixSl 1 (.var 64) (.var 69)))), (.const (.int .i64 0))] []))
      (.set 69 (.bin .add (.var 69) (.const (.int .i64 1)))))))))))))

/-- A slice of bytes, as it may be given. -/
def Bts (w : World) (v : Value) : Prop := ∃ (a : Option Addr) (n c : Nat) (x : Nat → Int), v = .slice a n c ∧ n ≤ c ∧ (∀ j, 0 ≤ x j ∧ x j ≤ 255) ∧ (n = 0 ∨ ∃ b off, a = some ⟨b, off, none⟩ ∧ ∀ j, j < n → wcell w b (off + j) = some (.int .u8 (x j)))

theorem bts_cut {w : World} {v : Value} (h : Bts w v) : ∃ (a : Option Addr) (n c k : Nat) (x : Nat → Int), v = .slice a n c ∧ (∀ j, 0 ≤ x j ∧ x j ≤ 255) ∧ k ≤ 70 ∧ (if (70 : Int) < n then (70 : Int) else n) = k ∧
    slSlV 1 v (.int .i64 0) (.int .i64 k) = some (.slice a k c) ∧ (k = 0 ∨ ∃ b off, a = some ⟨b, off, none⟩ ∧ ∀ j, j < k → wcell w b (off + j) = some (.int .u8 (x j))) := by
  obtain ⟨a, n, c, x, rfl, hn, hx, hc⟩ := h
  refine ⟨a, n, c, min n 70, x, rfl, hx, by omega, by split <;> omega, ?_, ?_⟩
  · cases a with
    | none =>
      rw [slSlV_none, if_pos (by omega)]
      simp
    | some a =>
      simp only [slSlV]
      rw [if_pos (by omega)]
      have e1 : ((min n 70 : Nat) : Int).toNat - (0 : Int).toNat = min n 70 := by omega
      have e2 : (0 : Int).toNat = 0 := rfl
      rw [e1, e2]
      simp only [Nat.zero_mul, Nat.sub_zero]
      by_cases hc0 : c = 0
      · rw [if_pos hc0]
      · rw [if_neg hc0]; rfl
  · rcases hc with rfl | ⟨b, off, rfl, hc⟩
    · left; simp
    · right; exact ⟨b, off, rfl, fun j hj => hc j (by omega)⟩

set_option maxHeartbeats 2000000 in
theorem case4_W {R : Eng.Env → World → Prop} {k : List It} {w0 w : World} {b st base n pA pV sz : Nat} {v v0 : Value} {i N off X x0 x1 x2 x3 : Int} {B : Value} {m : RMem} {s : SMem} {u1 u2 u3 u4 u5 u6 u7 u8 u9 u10 u11 u12 u13 u14 u15 u16 u17 u18 u24 u28 u29 u31 u33 u34 u35 u36 u37 u38 u39 u40 u41 u42 u43 u44 u45 u46 u47 u48 u49 u50 u51 u52 u53 u54 u55 u56 u57 u58 u59 u60 u61 u62 u63 u64 u65 u66 u67 u68 u69 : Value}
    (hS : St w0 w b st base v n m s) (hA : w.heap[pA]? = some (.cells #[.int .i64 x0, .int .i64 x1, .int .i64 x2, .int .i64 x3, .int .u64 X, B] 56 (0, 0)))
    (hV : w.heap[pV]? = some (.cells (RVal.mk 3 (IntKind.u64.wrap N) 0 none).arr 29 (0, 0))) (hB : Bts w0 B)
    (hN1 : -9223372036854775808 ≤ N) (hN2 : N ≤ 9223372036854775807)
    (h : ∀ (t : List Value) (w' : World) (m' : RMem) (s' : SMem), t.length = 47 → St w0 w' b st base v n m' s' → W Try.prog R k (v0 :: undef :: undef :: undef :: undef :: undef :: undef :: undef :: undef :: undef :: undef :: undef :: undef :: undef :: undef :: undef :: undef :: undef :: undef :: (.pointer (some ⟨b, 0, none⟩)) :: (.pointer (some ⟨st, 0, none⟩)) :: v :: (.int .i64 i) :: t) w') :
    W Try.prog R (.c s_case4 :: k) [v0, u1, u2, u3, u4, u5, u6, u7, u8, u9, u10, u11, u12, u13, u14, u15, u16, u17, u18, .pointer (some ⟨b, 0, none⟩), .pointer (some ⟨st, 0, none⟩), v, .int .i64 i, .pointer (some ⟨pA, 0, none⟩), u24, .int .i64 N, .int .i64 off, .pointer (some ⟨pV, 0, none⟩), u28, u29, .int .i64 sz, u31, .int .i64 (placeOf N off sz), u33, u34, u35, u36, u37, u38, u39, u40, u41, u42, u43, u44, u45, u46, u47, u48, u49, u50, u51, u52, u53, u54, u55, u56, u57, u58, u59, u60, u61, u62, u63, u64, u65, u66, u67, u68, u69] w := by
  have hb := hS.hb
  have hst := hS.hst
  have hN := wrapN hN1 hN2
  obtain ⟨sa, bn, c, q, x, rfl, hx, hq70, hmin, hsl, hcells0⟩ := bts_cut hB
  have hcells : ∀ w', Kept none' w0 w' → (q = 0 ∨ ∃ sb so, sa = some (⟨sb, so, none⟩ : Addr) ∧ ∀ j, j < q → wcell w' sb (so + j) = some (.int .u8 (x j))) := by
    intro w' hk
    rcases hcells0 with h0 | ⟨sb, so, e, hc⟩
    · exact .inl h0
    · exact .inr ⟨sb, so, e, fun j hj => wcell_kept hk (fun h => h) (hc j hj)⟩
  simp only [s_case4]
  simp [wcell_of hA, hmin, hsl]
  refine W_call0 (by simp) (place_ret N 0 q w hN1 hN2 (by omega) (by omega) (by omega)) ?_
  rintro r w1 ⟨rfl, rfl⟩
  simp
  refine W_call0 (by simp [rval_row hV]) (fill_stack b m ⟨3, IntKind.u64.wrap N, 0, none⟩ sa q c x w1 hS.mem rfl (by omega) (hcells w1 hS.kept)) ?_
  rintro r w2 ⟨hk2, hr⟩
  rw [hN] at hr
  have hs2 : IsStk w2 st s := hk2.has hS.stk (fun e => hS.hne e.symm)
  by_cases hin : -64 ≤ N + 0 ∧ N + 0 + q ≤ 0
  · obtain ⟨f, hf, hf2⟩ := inside hin
    have hfN : N = (f : Int) - 64 := by omega
    have hpl : placeOf N 0 q = f := placeOf_in hf hf2
    have hff : (N + 64).toNat = f := by omega
    rw [if_pos (by omega), hff] at hr
    obtain ⟨rfl, hm2⟩ := hr
    have hq64 : (q : Int) ≤ 64 := by omega
    rw [hpl]
    simp [hq64]
    refine W_no (by simp [hq64]) ?_
    simp
    have hkb : Kept none' w0 w2 := hS.kept.then hk2 fun i hi e => by omega
    refine W_loop (fun env w' => Kept none' w0 w' ∧ IsMem w' b (fillS m f q x) ∧ Vals w' base v n ∧ base ≤ w'.heap.size ∧ ∃ (j : Nat) (s' : SMem), env = [v0, undef, undef, undef, undef, undef, undef, undef, undef, undef, undef, undef, undef, undef, undef, undef, undef, undef, undef, .pointer (some ⟨b, 0, none⟩), .pointer (some ⟨st, 0, none⟩), v, .int .i64 i, undef, undef, undef, undef, undef, undef, undef, undef, undef, undef, undef, undef, undef, undef, undef, undef, undef, undef, undef, undef, undef, undef, undef, undef, undef, undef, undef, undef, undef, undef, undef, undef, undef, undef, undef, undef, undef, undef, undef, undef, undef, .slice sa q c, undef, .int .i64 f, .bool true, undef, .int .i64 j] ∧ j ≤ q ∧ IsStk w' st s' ∧ Rel (fillS m f j x) s' n ∧ SOk s')
      (fun env _ => q - natAt env 69) ?_ ?_
    · exact ⟨hkb, hm2, hS.vals.keep hk2 (fun i hi e => by have := (hS.vals.lt hi).1; omega), Nat.le_trans hS.hbase hk2.size, 0, s, by simp, by omega, hs2, by rw [fill_zero]; exact hS.rel, hS.sok⟩
    rintro env w3 ⟨hk3, hm3, hv3, hb3, j, s', rfl, hj, hs3, hr3, ho3⟩
    by_cases hj2 : j < q
    · simp
      refine W_yes (by simp; omega) ?_
      have e2 : IntKind.i64.wrap ((f : Int) + j) = ((f + j : Nat) : Int) := i64w (by omega) (by omega)
      have e3 : IntKind.i64.wrap ((j : Int) + 1) = ((j + 1 : Nat) : Int) := i64w (by omega) (by omega)
      have hxj := hx j
      have e4 : IntKind.u64.wrap (x j) = x j := u64w (by omega) (by omega)
      obtain ⟨sb, so, rfl, hcj⟩ := (hcells w3 hk3).resolve_left (by omega)
      have hcj' := hcj j hj2
      simp
      refine W_call0 (by simp [e2, hj2, hcj', e4]) (stk_whole st s' (f + j) 1 (x j) 0 w3 hs3 (by omega) (by omega) hxj.1 (by omega) (.inl rfl)) ?_
      rintro r w4 ⟨rfl, hk4, hs4⟩
      simp
      refine ⟨⟨hk3.then hk4 (fun i hi e => by omega), hk4.has hm3 hS.hne, hv3.keep hk4 (fun i hi e => by have := (hv3.lt hi).1; omega), Nat.le_trans hb3 hk4.size, j + 1, by simp [e3], by omega, _, hs4, rel_fill f j x hx hr3, sok_ssave ho3 _ _ _ _⟩, by simp [natAt, e3]; omega⟩
    · have : j = q := by omega
      subst this
      simp
      refine W_no (by simp) ?_
      simp
      exact h _ _ _ _ rfl ⟨hk3, hm3, hs3, hv3, hr3, ho3, hb, hst, hS.hne, hb3, hS.hn⟩
  · have hpl : placeOf N 0 q = -1 := placeOf_out hin
    rw [if_neg (by omega)] at hr
    obtain ⟨rfl, hm2⟩ := hr
    rw [hpl]
    have hS2 := hS.both hk2 hm2 (Kept.refl _ _) hs2 hS.rel hS.sok
    simp
    refine W_no (by simp) ?_
    simp
    refine W_loop (fun env w' => w' = w2 ∧ ∃ (x66 : Value), env = [v0, undef, undef, undef, undef, undef, undef, undef, undef, undef, undef, undef, undef, undef, undef, undef, undef, undef, undef, .pointer (some ⟨b, 0, none⟩), .pointer (some ⟨st, 0, none⟩), v, .int .i64 i, undef, undef, undef, undef, undef, undef, undef, undef, undef, undef, undef, undef, undef, undef, undef, undef, undef, undef, undef, undef, undef, undef, undef, undef, undef, undef, undef, undef, undef, undef, undef, undef, undef, undef, undef, undef, undef, undef, undef, undef, undef, .slice sa q c, undef, x66, .bool false, undef, .int .i64 0]) (fun env _ => 0) ?_ ?_
    · exact ⟨rfl, _, by simp; rfl⟩
    rintro env w4 ⟨rfl, x66, rfl⟩
    simp
    refine W_no (by simp) ?_
    simp
    exact h _ _ _ _ rfl hS2
end Go.Proofs.Ytihaopoehhnbkaa
