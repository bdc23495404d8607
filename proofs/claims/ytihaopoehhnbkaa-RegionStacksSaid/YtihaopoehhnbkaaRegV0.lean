/- RegionStacks, case 0: a number is saved. -/
import Derived.Test.YtihaopoehhnbkaaRegU
set_option linter.unusedSimpArgs false
set_option linter.unusedVariables false
set_option maxRecDepth 8000
namespace Go.Proofs.Ytihaopoehhnbkaa
open Go.Eng

def s_case0 : Cmd :=
  (.seq
   (.seq
    .draw
   (.seq
    (.chk [(.var 30), (.var 32), (.var 20), (.upd 1 1 (.upd 0 1 (.const (.agg #[(.int .i64 0), (.int .u64 0), (.int .i64 0), (.pointer none)])) (.const (.int .i64 1))) (.ld none (.offp 4 (.var 23)))), (.var 26), (.ld (some 4) (.var 27)), (.var 19)])
   (.seq
    (.set 36 (.ld none (.offp 4 (.var 23))))
   (.seq
    (.call (some 35) 15 [(.var 19), (.ld (some 4) (.var 27)), (.var 26), (.var 30), (.upd 1 1 (.upd 0 1 (.const (.agg #[(.int .i64 0), (.int .u64 0), (.int .i64 0), (.pointer none)])) (.const (.int .i64 1))) (.ld none (.offp 4 (.var 23))))] [(.ld none (.offp 4 (.var 23)))])
   (.seq
    (.chk [(.bin .eql (.var 35) (.const (.int .i64 0)))])
   (.call (some 37) 24 [(.var 20), (.var 32), (.var 30), (.var 36), (.const (.int .i64 0))] []))))))
  (.cond (.eqx true .bool (.bin .eql (.var 35) (.const (.int .i64 0))) (.var 37))
    (.seq
     (.set 1 (.const (.bool false)))
    .ret)
    .skip))

theorem saveS_in {m : RMem} {f k : Nat} (v : RVal) (hs : sizeOk k) (hf : f + k ≤ 64) (ht : v.tag = 1) : saveS m ((f : Int) - 64) k v = (mark (withBytes m f (f + k) v.n) f k, 0) := by
  have hff : ((f : Int) - 64 + 64).toNat = f := by omega
  unfold saveS
  rw [hff, if_pos ⟨hs, by omega, by omega, by omega, by omega⟩, if_pos ht]
  simp
theorem saveS_out {m : RMem} {p : Int} {k : Nat} (v : RVal) (h : ¬ (-64 ≤ p ∧ p + k ≤ 0)) : saveS m p k v = (m, 14) := by
  unfold saveS
  rw [if_neg (fun x => h ⟨x.2.2.2.1, x.2.2.2.2⟩)]
theorem placeOf_in {N off : Int} {k f : Nat} (hN : N + off = (f : Int) - 64) (hf : f + k ≤ 64) : placeOf N off k = f := by
  unfold placeOf; rw [if_pos (by omega)]; omega
theorem placeOf_out {N off : Int} {k : Nat} (h : ¬ (-64 ≤ N + off ∧ N + off + k ≤ 0)) : placeOf N off k = -1 := by
  unfold placeOf; rw [if_neg h]
theorem inside {p : Int} {k : Nat} (h : -64 ≤ p ∧ p + k ≤ 0) : ∃ f : Nat, p = (f : Int) - 64 ∧ f + k ≤ 64 := ⟨(p + 64).toNat, by omega, by omega⟩

set_option maxHeartbeats 1000000 in
theorem case0_W {R : Eng.Env → World → Prop} {k : List It} {w0 w : World} {b st base n pA pV sz : Nat} {v v0 : Value} {i N off X x0 x1 x2 x3 : Int} {B : Value} {m : RMem} {s : SMem} {u1 u2 u3 u4 u5 u6 u7 u8 u9 u10 u11 u12 u13 u14 u15 u16 u17 u18 u24 u28 u29 u31 u33 u34 u35 u36 u37 u38 u39 u40 u41 u42 u43 u44 u45 u46 u47 u48 u49 u50 u51 u52 u53 u54 u55 u56 u57 u58 u59 u60 u61 u62 u63 u64 u65 u66 u67 u68 u69 : Value}
    (hS : St w0 w b st base v n m s) (hA : w.heap[pA]? = some (.cells #[.int .i64 x0, .int .i64 x1, .int .i64 x2, .int .i64 x3, .int .u64 X, B] 56 (0, 0)))
    (hV : w.heap[pV]? = some (.cells (RVal.mk 3 (IntKind.u64.wrap N) 0 none).arr 29 (0, 0))) (hpA : base ≤ pA) (hpV : base ≤ pV) (hsz : sz = 1 ∨ sz = 2 ∨ sz = 4 ∨ sz = 8)
    (hN1 : -9223372036854775808 ≤ N) (hN2 : N ≤ 9223372036854775807) (ho1 : -100 ≤ off) (ho2 : off ≤ 100) (hX : 0 ≤ X)
    (h : ∀ (t : List Value) (w' : World) (m' : RMem) (s' : SMem), t.length = 47 → St w0 w' b st base v n m' s' → W Try.prog R k (v0 :: u1 :: u2 :: u3 :: u4 :: u5 :: u6 :: u7 :: u8 :: u9 :: u10 :: u11 :: u12 :: u13 :: u14 :: u15 :: u16 :: u17 :: u18 :: (.pointer (some ⟨b, 0, none⟩)) :: (.pointer (some ⟨st, 0, none⟩)) :: v :: (.int .i64 i) :: t) w') :
    W Try.prog R (.c s_case0 :: k) [v0, u1, u2, u3, u4, u5, u6, u7, u8, u9, u10, u11, u12, u13, u14, u15, u16, u17, u18, .pointer (some ⟨b, 0, none⟩), .pointer (some ⟨st, 0, none⟩), v, .int .i64 i, .pointer (some ⟨pA, 0, none⟩), u24, .int .i64 N, .int .i64 off, .pointer (some ⟨pV, 0, none⟩), u28, u29, .int .i64 sz, u31, .int .i64 (placeOf N off sz), u33, u34, u35, u36, u37, u38, u39, u40, u41, u42, u43, u44, u45, u46, u47, u48, u49, u50, u51, u52, u53, u54, u55, u56, u57, u58, u59, u60, u61, u62, u63, u64, u65, u66, u67, u68, u69] w := by
  have hb := hS.hb
  have hst := hS.hst
  have hN := wrapN hN1 hN2
  have hSd := hS.calm (Kept.refl none' w).drew
  have hAd : w.drew.heap[pA]? = _ := hA
  have hVd : w.drew.heap[pV]? = _ := hV
  have hzo : sizeOk sz := by unfold sizeOk; omega
  have hz : (Value.agg #[.int .i64 0, .int .u64 0, .int .i64 0, .pointer none]) = .agg RVal.zero.arr := rfl
  simp only [s_case0, hz]
  simp [wcell_of hA, rval_row hV]
  generalize w.drew = wd at *
  have hsv := fun w1 => save_stack b m ⟨3, IntKind.u64.wrap N, 0, none⟩ ⟨1, X, 0, none⟩ off sz w1
  rw [hN] at hsv
  refine W_call (by simp [wcell_of hAd, rval_row hVd]; rfl) (hsv wd hSd.mem rfl (by omega) (by omega) (fun _ => hX)) ?_
  rintro r w1 ⟨hk1, rfl, hm1⟩
  have hA1 : w1.heap[pA]? = _ := hk1.has hAd (by omega)
  refine ⟨?_, ?_⟩
  · intro e he x hx
    simp at he
    subst he
    simp [wcell_of hAd, wcell_of hA1] at hx ⊢
    exact hx
  by_cases hin : -64 ≤ N + off ∧ N + off + sz ≤ 0
  · obtain ⟨f, hf, hf2⟩ := inside hin
    rw [hf, saveS_in _ hzo hf2 rfl] at hm1 ⊢
    rw [placeOf_in hf hf2]
    simp
    have hs1 : IsStk w1 st s := hk1.has hSd.stk (fun e => hS.hne e.symm)
    refine W_call0 (by simp) (stk_whole st s f sz X 0 w1 hs1 hf2 (by omega) hX (by omega) (.inl rfl)) ?_
    rintro r w2 ⟨rfl, hk2, hs2⟩
    simp
    refine W_no (by simp) ?_
    simp
    exact h _ _ _ _ rfl (hSd.both hk1 hm1 hk2 hs2 (rel_num hS.rel f sz X 0 (by omega)) (sok_ssave hS.sok _ _ _ _))
  · rw [saveS_out _ hin] at hm1 ⊢
    rw [placeOf_out hin]
    simp
    refine W_call0 (by simp) (stk_fail st (-1) sz X 0 w1 (by omega)) ?_
    rintro r w2 ⟨rfl, rfl⟩
    simp
    refine W_no (by simp) ?_
    simp
    exact h _ _ _ _ rfl (hSd.both hk1 hm1 (Kept.refl _ _) (hk1.has hSd.stk (fun e => hS.hne e.symm)) hS.rel hS.sok)
end Go.Proofs.Ytihaopoehhnbkaa
