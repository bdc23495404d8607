/- RegionStacks, case 2: something is loaded. -/
import Derived.Test.YtihaopoehhnbkaaRegV1
set_option linter.unusedSimpArgs false
set_option linter.unusedVariables false
set_option maxRecDepth 8000
namespace Go.Proofs.Ytihaopoehhnbkaa
open Go.Eng

def s_case2 : Cmd :=
  (.seq
   (.seq
    (.call (some 46) 16 [(.var 19), (.ld (some 4) (.var 27)), (.var 26), (.var 30)] [])
   (.seq
    (.chk [(.proj 1 (.var 46)), (.proj 0 (.var 46))])
   (.seq
    (.new (some 47) 29 (.const (.agg #[(.int .i64 0), (.int .u64 0), (.int .i64 0), (.pointer none)])) [])
   (.seq
    (.store 4 (.var 47) (.proj 0 (.var 46)) [])
   (.set 48 (.proj 1 (.var 46)))))))
  (.seq
   (.seq
    (.call (some 49) 26 [(.var 20), (.var 32), (.var 30)] [])
   (.seq
    (.chk [(.proj 2 (.var 49)), (.proj 1 (.var 49))])
   (.seq
    (.set 50 (.proj 0 (.var 49)))
   (.seq
    (.set 51 (.proj 1 (.var 49)))
   (.set 52 (.proj 2 (.var 49)))))))
  (.seq
   (.seq
    (.chk [(.pick (.eqx true .bool (.bin .eql (.var 48) (.const (.int .i64 0))) (.var 52)) (.const (.bool true)) (.pick (.bin .neq (.var 48) (.const (.int .i64 0))) (.pick (.bin .neq (.var 48) (.const (.int .i64 14))) (.const (.bool true)) (.eqx true (.cons 0 none .int (.cons 1 none .int (.cons 2 none .int (.cons 3 none .ptr .nil)))) (.ld (some 4) (.var 47)) (.const (.agg #[(.int .i64 0), (.int .u64 0), (.int .i64 0), (.pointer none)])))) (.const (.bool false)))), (.pick (.eqx true .bool (.bin .eql (.var 48) (.const (.int .i64 0))) (.var 52)) (.const (.bool false)) (.pick (.bin .neq (.var 48) (.const (.int .i64 0))) (.pick (.bin .neq (.var 48) (.const (.int .i64 14))) (.const (.bool true)) (.eqx true (.cons 0 none .int (.cons 1 none .int (.cons 2 none .int (.cons 3 none .ptr .nil)))) (.ld (some 4) (.var 47)) (.const (.agg #[(.int .i64 0), (.int .u64 0), (.int .i64 0), (.pointer none)])))) (.const (.bool false)))), (.pick (.eqx true .bool (.bin .eql (.var 48) (.const (.int .i64 0))) (.var 52)) (.const (.bool false)) (.pick (.bin .neq (.var 48) (.const (.int .i64 0))) (.pick (.bin .neq (.var 48) (.const (.int .i64 14))) (.const (.bool true)) (.eqx true (.cons 0 none .int (.cons 1 none .int (.cons 2 none .int (.cons 3 none .ptr .nil)))) (.ld (some 4) (.var 47)) (.const (.agg #[(.int .i64 0), (.int .u64 0), (.int .i64 0), (.pointer none)])))) (.const (.bool false)))), (.pick (.eqx true .bool (.bin .eql (.var 48) (.const (.int .i64 0))) (.var 52)) (.const (.bool false)) (.pick (.bin .neq (.var 48) (.const (.int .i64 0))) (.pick (.bin .neq (.var 48) (.const (.int .i64 14))) (.const (.bool false)) (.eqx true (.cons 0 none .int (.cons 1 none .int (.cons 2 none .int (.cons 3 none .ptr .nil)))) (.ld (some 4) (.var 47)) (.const (.agg #[(.int .i64 0), (.int .u64 0), (.int .i64 0), (.pointer none)])))) (.const (.bool false))))])
   (.cond (.pick (.eqx true .bool (.bin .eql (.var 48) (.const (.int .i64 0))) (.var 52)) (.const (.bool true)) (.pick (.bin .neq (.var 48) (.const (.int .i64 0))) (.pick (.bin .neq (.var 48) (.const (.int .i64 14))) (.const (.bool true)) (.eqx true (.cons 0 none .int (.cons 1 none .int (.cons 2 none .int (.cons 3 none .ptr .nil)))) (.ld (some 4) (.var 47)) (.const (.agg #[(.int .i64 0), (.int .u64 0), (.int .i64 0), (.pointer none)])))) (.const (.bool false))))
     (.seq
      (.set 1 (.const (.bool false)))
     .ret)
     .skip))
  (.seq
   .draw
  (.seq
   (.chk [(.pick (.pick (.pick (.var 52) (.bin .gtr (.var 51) (.const (.int .i64 0))) (.const (.bool false))) (.eqx true (.cons 0 none .int (.cons 1 none .int (.cons 2 none .int (.cons 3 none .ptr .nil)))) (.ld (some 4) (.var 47)) (.ld (some 4) (.ixSl 4 (.var 21) (.bin .sub (.var 51) (.const (.int .i64 1)))))) (.const (.bool false))) (.const (.bool true)) (.pick (.pick (.var 52) (.bin .eql (.var 51) (.const (.int .i64 0))) (.const (.bool false))) (.eqx true (.cons 0 none .int (.cons 1 none .int (.cons 2 none .int (.cons 3 none .ptr .nil)))) (.ld (some 4) (.var 47)) (.upd 1 1 (.upd 0 1 (.const (.agg #[(.int .i64 0), (.int .u64 0), (.int .i64 0), (.pointer none)])) (.const (.int .i64 1))) (.var 50))) (.const (.bool false)))), (.pick (.pick (.pick (.var 52) (.bin .gtr (.var 51) (.const (.int .i64 0))) (.const (.bool false))) (.eqx true (.cons 0 none .int (.cons 1 none .int (.cons 2 none .int (.cons 3 none .ptr .nil)))) (.ld (some 4) (.var 47)) (.ld (some 4) (.ixSl 4 (.var 21) (.bin .sub (.var 51) (.const (.int .i64 1)))))) (.const (.bool false))) (.const (.bool false)) (.pick (.pick (.var 52) (.bin .eql (.var 51) (.const (.int .i64 0))) (.const (.bool false))) (.eqx true (.cons 0 none .int (.cons 1 none .int (.cons 2 none .int (.cons 3 none .ptr .nil)))) (.ld (some 4) (.var 47)) (.upd 1 1 (.upd 0 1 (.const (.agg #[(.int .i64 0), (.int .u64 0), (.int .i64 0), (.pointer none)])) (.const (.int .i64 1))) (.var 50))) (.const (.bool false)))), (.pick (.pick (.pick (.var 52) (.bin .gtr (.var 51) (.const (.int .i64 0))) (.const (.bool false))) (.eqx true (.cons 0 none .int (.cons 1 none .int (.cons 2 none .int (.cons 3 none .ptr .nil)))) (.ld (some 4) (.var 47)) (.ld (some 4) (.ixSl 4 (.var 21) (.bin .sub (.var 51) (.const (.int .i64 1)))))) (.const (.bool false))) (.const (.bool false)) (.pick (.pick (.var 52) (.bin .eql (.var 51) (.const (.int .i64 0))) (.const (.bool false))) (.eqx true (.cons 0 none .int (.cons 1 none .int (.cons 2 none .int (.cons 3 none .ptr .nil)))) (.ld (some 4) (.var 47)) (.upd 1 1 (.upd 0 1 (.const (.agg #[(.int .i64 0), (.int .u64 0), (.int .i64 0), (.pointer none)])) (.const (.int .i64 1))) (.var 50))) (.const (.bool false)))), (.pick (.pick (.pick (.var 52) (.bin .gtr (.var 51) (.const (.int .i64 0))) (.const (.bool false))) (.eqx true (.cons 0 none .int (.cons 1 none .int (.cons 2 none .int (.cons 3 none .ptr .nil)))) (.ld (some 4) (.var 47)) (.ld (some 4) (.ixSl 4 (.var 21) (.bin .sub (.var 51) (.const (.int .i64 1)))))) (.const (.bool false))) (.const (.bool false)) (.pick (.pick (.var 52) (.bin .eql (.var 51) (.const (.int .i64 0))) (.const (.bool false))) (.upd 1 1 (.upd 0 1 (.const (.agg #[(.int .i64 0), (.int .u64 0), (.int .i64 0), (.pointer none)])) (.const (.int .i64 1))) (.var 50)) (.const (.bool false))))])
  (.cond (.pick (.pick (.pick (.var 52) (.bin .gtr (.var 51) (.const (.int .i64 0))) (.const (.bool false))) (.eqx true (.cons 0 none .int (.cons 1 none .int (.cons 2 none .int (.cons 3 none .ptr .nil)))) (.ld (some 4) (.var 47)) (.ld (some 4) (.ixSl 4 (.var 21) (.bin .sub (.var 51) (.const (.int .i64 1)))))) (.const (.bool false))) (.const (.bool true)) (.pick (.pick (.var 52) (.bin .eql (.var 51) (.const (.int .i64 0))) (.const (.bool false))) (.eqx true (.cons 0 none .int (.cons 1 none .int (.cons 2 none .int (.cons 3 none .ptr .nil)))) (.ld (some 4) (.var 47)) (.upd 1 1 (.upd 0 1 (.const (.agg #[(.int .i64 0), (.int .u64 0), (.int .i64 0), (.pointer none)])) (.const (.int .i64 1))) (.var 50))) (.const (.bool false))))
    (.seq
     (.set 1 (.const (.bool false)))
    .ret)
    .skip))))))

theorem loadS_out {m : RMem} {p : Int} {k : Nat} (h : ¬ (-64 ≤ p ∧ p + k ≤ 0)) : loadS m p k = (RVal.zero, 14) := by
  unfold loadS
  rw [if_neg (fun x => h ⟨x.2.1, x.2.2⟩)]

set_option maxHeartbeats 2000000 in
theorem case2_W {R : Eng.Env → World → Prop} {k : List It} {w0 w : World} {b st base n pA pV sz : Nat} {v v0 : Value} {i N off : Int} {m : RMem} {s : SMem} {u1 u2 u3 u4 u5 u6 u7 u8 u9 u10 u11 u12 u13 u14 u15 u16 u17 u18 u24 u28 u29 u31 u33 u34 u35 u36 u37 u38 u39 u40 u41 u42 u43 u44 u45 u46 u47 u48 u49 u50 u51 u52 u53 u54 u55 u56 u57 u58 u59 u60 u61 u62 u63 u64 u65 u66 u67 u68 u69 : Value}
    (hS : St w0 w b st base v n m s)
    (hV : w.heap[pV]? = some (.cells (RVal.mk 3 (IntKind.u64.wrap N) 0 none).arr 29 (0, 0))) (hsz : sz = 1 ∨ sz = 2 ∨ sz = 4 ∨ sz = 8)
    (hN1 : -9223372036854775808 ≤ N) (hN2 : N ≤ 9223372036854775807) (ho1 : -100 ≤ off) (ho2 : off ≤ 100)
    (h : ∀ (t : List Value) (w' : World) (m' : RMem) (s' : SMem), t.length = 47 → St w0 w' b st base v n m' s' → W Try.prog R k (v0 :: u1 :: u2 :: u3 :: u4 :: u5 :: u6 :: u7 :: u8 :: u9 :: u10 :: u11 :: u12 :: u13 :: u14 :: u15 :: u16 :: u17 :: u18 :: (.pointer (some ⟨b, 0, none⟩)) :: (.pointer (some ⟨st, 0, none⟩)) :: v :: (.int .i64 i) :: t) w') :
    W Try.prog R (.c s_case2 :: k) [v0, u1, u2, u3, u4, u5, u6, u7, u8, u9, u10, u11, u12, u13, u14, u15, u16, u17, u18, .pointer (some ⟨b, 0, none⟩), .pointer (some ⟨st, 0, none⟩), v, .int .i64 i, .pointer (some ⟨pA, 0, none⟩), u24, .int .i64 N, .int .i64 off, .pointer (some ⟨pV, 0, none⟩), u28, u29, .int .i64 sz, u31, .int .i64 (placeOf N off sz), u33, u34, u35, u36, u37, u38, u39, u40, u41, u42, u43, u44, u45, u46, u47, u48, u49, u50, u51, u52, u53, u54, u55, u56, u57, u58, u59, u60, u61, u62, u63, u64, u65, u66, u67, u68, u69] w := by
  have hb := hS.hb
  have hst := hS.hst
  have hN := wrapN hN1 hN2
  have hzo : sizeOk sz := by unfold sizeOk; omega
  have hz : (Value.agg #[.int .i64 0, .int .u64 0, .int .i64 0, .pointer none]) = .agg RVal.zero.arr := rfl
  simp only [s_case2, hz]
  simp
  refine W_call0 (by simp [rval_row hV]) (load_stack b m ⟨3, IntKind.u64.wrap N, 0, none⟩ off sz w hS.mem rfl (by omega) (by omega) hS.rel.ok) ?_
  rintro r w1 ⟨hk1, rfl⟩
  rw [hN]
  have hS1 := hS.calm hk1
  generalize hL : loadS m (N + off) sz = L
  simp
  refine W_store (by simp) (by simp) (store_val (v := L.1) (hp_new w1 _)) (stab_nil _ _ _) ?_
  obtain ⟨h47, hk2, hs2⟩ := box_fact w1 RVal.zero L.1 29
  generalize put (w1.alloc (.cells RVal.zero.arr 29)) w1.heap.size (.cells L.1.arr 29 (0, 0)) = w2 at h47 hk2 hs2 ⊢
  have hS2 := hS1.calm hk2
  generalize w1.heap.size = p47 at *
  simp
  by_cases hin : -64 ≤ N + off ∧ N + off + sz ≤ 0
  · obtain ⟨f, hf, hf2⟩ := inside hin
    rw [hf] at hL
    rw [placeOf_in hf hf2]
    refine W_call0 (by simp) (sload_ret st s f sz w2 hS2.stk hf2 (by omega) hS.sok) ?_
    rintro r w3 ⟨rfl, hk3⟩
    have hS3 := hS2.calm hk3
    have h473 := hk3.has h47 (fun h => h)
    have heq0 : ∀ w a, a.cell = none → eqv w (.cons 0 none .int (.cons 1 none .int (.cons 2 none .int (.cons 3 none .ptr .nil)))) (.agg (RVal.arr a)) (.agg (RVal.arr a)) = some true := fun w a ha => by
      rw [eqv_rval _ _ _ ha ha]; simp
    have hvar := hS3.vals.var
    have hS4 := hS3.calm (Kept.refl none' w3).drew
    have h474 : w3.drew.heap[p47]? = _ := h473
    simp
    rcases rel_load hS.rel f sz hf2 hzo with ⟨c, hc, e1, e2⟩ | ⟨x, e1, e2⟩ | ⟨e1, e2⟩
    · rw [e2] at hL
      subst hL
      rw [e1]
      obtain ⟨g, cap, rfl, hrow⟩ := hS3.vals.row hc
      have hcn : (c : Int) + 1 - 1 = c := by omega
      have hcw : IntKind.i64.wrap (c : Int) = c := i64w (by omega) (by have := hS.hn; omega)
      have hc0 : (0 : Int) < c + 1 := by omega
      have hq := heq0 w3.drew (valOf c) rfl
      simp
      refine W_no (by simp) ?_
      simp
      have hc1 : ¬ ((c : Int) + 1 = 0) := by omega
      simp [rval_row h473, hcn, hcw, hc0, hc, hrow, hq, hc1]
      refine W_no (by simp [rval_row h473, hcn, hcw, hc0, hc, hrow, hq, hc1]) ?_
      simp
      exact h _ _ _ _ rfl hS4
    · rw [e2] at hL
      subst hL
      rw [e1]
      have hq := heq0 w3.drew ⟨1, x, 0, none⟩ rfl
      have hz2 : ({ RVal.zero with tag := 1, n := x } : RVal) = ⟨1, x, 0, none⟩ := rfl
      simp
      refine W_no (by simp) ?_
      simp
      simp [rval_row h473, hq, hz2, hvar]
      refine W_no (by simp [rval_row h473, hq, hz2, hvar]) ?_
      simp
      exact h _ _ _ _ rfl hS4
    · rw [e2] at hL
      subst hL
      rw [e1]
      have hq := heq0 w3 RVal.zero rfl
      simp [rval_row h473, hq]
      refine W_no (by simp [rval_row h473, hq]) ?_
      simp
      generalize w3.drew = w4 at *
      refine W_no (by simp) ?_
      simp
      exact h _ _ _ _ rfl hS4
  · rw [loadS_out hin] at hL
    subst hL
    rw [placeOf_out hin]
    refine W_call0 (by simp) (sload_fail st (-1) sz w2 (by omega)) ?_
    rintro r w3 ⟨rfl, rfl⟩
    have hq : eqv w3 (.cons 0 none .int (.cons 1 none .int (.cons 2 none .int (.cons 3 none .ptr .nil)))) (.agg RVal.zero.arr) (.agg RVal.zero.arr) = some true := by rw [eqv_rval _ _ _ rfl rfl]; rfl
    have hS4 := hS2.calm (Kept.refl none' w3).drew
    simp [rval_row h47, hq]
    refine W_no (by simp [rval_row h47, hq]) ?_
    simp
    generalize w3.drew = w4 at *
    refine W_no (by simp) ?_
    simp
    exact h _ _ _ _ rfl hS4
end Go.Proofs.Ytihaopoehhnbkaa
