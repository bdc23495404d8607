/- RegionStacks, case 1: a value is saved. -/
import Derived.Test.YtihaopoehhnbkaaRegV0
set_option linter.unusedSimpArgs false
set_option linter.unusedVariables false
set_option maxRecDepth 8000
namespace Go.Proofs.Ytihaopoehhnbkaa
open Go.Eng

def s_case1 : Cmd :=
  (.seq
   (.seq
    (.call (some 39) 25 [(.len false (.var 21))] [])
   (.seq
    (.new (some 40) 29 (.const (.agg #[(.int .i64 0), (.int .u64 0), (.int .i64 0), (.pointer none)])) [])
   (.store 4 (.var 40) (.var 39) [])))
  (.seq
   (.seq
    (.chk [(.var 21)])
   (.seq
    (.row (some 41) 29 1 (.upd 0 4 (.const (.agg #[(.int .i64 0), (.int .u64 0), (.int .i64 0), (.pointer none)])) (.ld (some 4) (.var 40))) [])
   (.seq
    (.bi (some 42) .append [54, 54] 54 [(.var 21), (.var 41)] [])
   (.set 21 (.var 42)))))
  (.seq
   (.seq
    (.call (some 43) 15 [(.var 19), (.ld (some 4) (.var 27)), (.var 26), (.var 30), (.ld (some 4) (.var 40))] [])
   (.seq
    (.chk [(.bin .eql (.var 43) (.const (.int .i64 0)))])
   (.call (some 44) 24 [(.var 20), (.var 32), (.var 30), (.const (.int .u64 0)), (.len false (.var 21))] [])))
  (.cond (.eqx true .bool (.bin .eql (.var 43) (.const (.int .i64 0))) (.var 44))
    (.seq
     (.set 1 (.const (.bool false)))
    .ret)
    .skip))))

theorem St.grow {w0 w w' : World} {b st base n : Nat} {v v' : Value} {m : RMem} {s : SMem} (h : St w0 w b st base v n m s) (hk : Kept (fun i => v.ownBlock = some i) w w') (hv : Vals w' base v' (n + 1)) (hn : n + 1 ≤ 60) :
    St w0 w' b st base v' (n + 1) m s := by
  have h1 := h.hb
  have h2 := h.hst
  have hlt : ∀ i, v.ownBlock = some i → base ≤ i := fun i hi => (h.vals.lt hi).1
  exact ⟨h.kept.then hk (fun i hi e => by have := hlt i e; omega), hk.has h.mem (fun e => by have := hlt _ e; omega), hk.has h.stk (fun e => by have := hlt _ e; omega), hv, rel_mono h.rel (by omega), h.sok, h1, h2, h.hne, Nat.le_trans h.hbase hk.size, hn⟩

theorem saveS_val {m : RMem} {f k n : Nat} (hs : sizeOk k) (hf : f + k ≤ 64) : saveS m ((f : Int) - 64) k (valOf n) =
    if k = 8 ∧ f % 8 = 0 then ({ mark m f 8 with kept := fset (mark m f 8).kept (f / 8) (valOf n) }, 0) else (m, 14) := by
  have hff : ((f : Int) - 64 + 64).toNat = f := by omega
  have ht := valOf_tag n
  unfold saveS
  rw [hff, if_pos ⟨hs, by omega, by omega, by omega, by omega⟩, if_neg (by omega)]
  by_cases h8 : k = 8 ∧ f % 8 = 0
  · rw [if_pos h8, if_pos ⟨by omega, h8.2⟩]
  · rw [if_neg h8, if_neg (fun x => h8 ⟨by omega, x.2⟩)]

set_option maxHeartbeats 1000000 in
theorem case1_W {R : Eng.Env → World → Prop} {k : List It} {w0 w : World} {b st base n pA pV sz : Nat} {v v0 : Value} {i N off : Int} {m : RMem} {s : SMem} {u1 u2 u3 u4 u5 u6 u7 u8 u9 u10 u11 u12 u13 u14 u15 u16 u17 u18 u24 u28 u29 u31 u33 u34 u35 u36 u37 u38 u39 u40 u41 u42 u43 u44 u45 u46 u47 u48 u49 u50 u51 u52 u53 u54 u55 u56 u57 u58 u59 u60 u61 u62 u63 u64 u65 u66 u67 u68 u69 : Value}
    (hS : St w0 w b st base v n m s) (hn : n + 1 ≤ 60)
    (hV : w.heap[pV]? = some (.cells (RVal.mk 3 (IntKind.u64.wrap N) 0 none).arr 29 (0, 0))) (hlt : ∀ g, v.ownBlock = some g → g ≠ pV) (hpV : base ≤ pV) (hsz : sz = 1 ∨ sz = 2 ∨ sz = 4 ∨ sz = 8)
    (hN1 : -9223372036854775808 ≤ N) (hN2 : N ≤ 9223372036854775807) (ho1 : -100 ≤ off) (ho2 : off ≤ 100)
    (h : ∀ (t : List Value) (w' : World) (v : Value) (m' : RMem) (s' : SMem), t.length = 47 → St w0 w' b st base v (n + 1) m' s' → W Try.prog R k (v0 :: u1 :: u2 :: u3 :: u4 :: u5 :: u6 :: u7 :: u8 :: u9 :: u10 :: u11 :: u12 :: u13 :: u14 :: u15 :: u16 :: u17 :: u18 :: (.pointer (some ⟨b, 0, none⟩)) :: (.pointer (some ⟨st, 0, none⟩)) :: v :: (.int .i64 i) :: t) w') :
    W Try.prog R (.c s_case1 :: k) [v0, u1, u2, u3, u4, u5, u6, u7, u8, u9, u10, u11, u12, u13, u14, u15, u16, u17, u18, .pointer (some ⟨b, 0, none⟩), .pointer (some ⟨st, 0, none⟩), v, .int .i64 i, .pointer (some ⟨pA, 0, none⟩), u24, .int .i64 N, .int .i64 off, .pointer (some ⟨pV, 0, none⟩), u28, u29, .int .i64 sz, u31, .int .i64 (placeOf N off sz), u33, u34, u35, u36, u37, u38, u39, u40, u41, u42, u43, u44, u45, u46, u47, u48, u49, u50, u51, u52, u53, u54, u55, u56, u57, u58, u59, u60, u61, u62, u63, u64, u65, u66, u67, u68, u69] w := by
  have hb := hS.hb
  have hst := hS.hst
  have hN := wrapN hN1 hN2
  have hzo : sizeOk sz := by unfold sizeOk; omega
  have hz : (Value.agg #[.int .i64 0, .int .u64 0, .int .i64 0, .pointer none]) = .agg RVal.zero.arr := rfl
  simp only [s_case1, hz]
  have hlen := hS.vals.len
  have hvar := hS.vals.var
  simp
  refine W_call0 (by simp [hlen, hvar]) (value_ret n w (by omega)) ?_
  rintro r w1 ⟨rfl, hk1⟩
  have hS1 := hS.calm hk1
  have hV1 := hk1.has hV (fun h => h)
  simp
  refine W_store (by simp) (by simp) (store_val (v := valOf n) (hp_new w1 _)) (stab_nil _ _ _) ?_
  obtain ⟨h40, hk2, hs2⟩ := box_fact w1 RVal.zero (valOf n) 29
  generalize put (w1.alloc (.cells RVal.zero.arr 29)) w1.heap.size (.cells (valOf n).arr 29 (0, 0)) = w2 at h40 hk2 hs2 ⊢
  have hS2 := hS1.calm hk2
  have hV2 := hk2.has hV1 (fun h => h)
  have hg1 : ∀ g, v.ownBlock = some g → g < w1.heap.size := fun g hg => (hS1.vals.lt hg).2
  generalize hp40 : w1.heap.size = p40 at *
  have hsr : setRow RVal.zero.arr 0 (valOf n).arr.toList = (valOf n).arr := rfl
  simp [rval_row h40, hvar, hsr]
  have h41 := hp_new w2 (.cells (valOf n).arr 29)
  have h40b := hp_old h40 (.cells (valOf n).arr 29)
  have hV3 := hp_old hV2 (.cells (valOf n).arr 29)
  have hS3 := hS2.calm ((Kept.refl none' w2).alloc (.cells (valOf n).arr 29))
  rw [hs2] at h41 ⊢
  generalize w2.alloc (.cells (valOf n).arr 29) = w3 at *
  obtain ⟨v', w4, hrun, hv4, hk4⟩ := vals_append hS3.vals (by omega) hS3.hbase h41
  refine W_bi (by simp [hvar]) hrun (stab_nil _ _ _) ?_
  have hS4 := hS3.grow hk4 hv4 hn
  have h404 := hk4.has h40b (fun e => by have := hg1 _ e; omega)
  have hV4 := hk4.has hV3 (fun e => hlt _ e rfl)
  have hlen4 := hv4.len
  have hvar4 := hv4.var
  clear hrun
  simp [hvar4]
  refine W_call0 (by simp [rval_row hV4, rval_row h404]) (save_stack b m ⟨3, IntKind.u64.wrap N, 0, none⟩ (valOf n) off sz w4 hS4.mem rfl (by omega) (by omega) (fun e => by have := valOf_tag n; omega)) ?_
  rintro r w5 ⟨hk5, rfl, hm5⟩
  rw [hN] at hm5 ⊢
  have hs5 : IsStk w5 st s := hk5.has hS4.stk (fun e => hS.hne e.symm)
  simp
  by_cases hin : -64 ≤ N + off ∧ N + off + sz ≤ 0
  · obtain ⟨f, hf, hf2⟩ := inside hin
    rw [hf, saveS_val hzo hf2] at hm5 ⊢
    rw [placeOf_in hf hf2]
    by_cases h8 : sz = 8 ∧ f % 8 = 0
    · rw [if_pos h8] at hm5 ⊢
      obtain ⟨rfl, h8⟩ := h8
      refine W_call0 (by simp [hvar4, hlen4]) (stk_whole st s f 8 0 ((n : Int) + 1) w5 hs5 hf2 (by omega) (by omega) (by omega) (.inr ⟨rfl, h8⟩)) ?_
      rintro r w6 ⟨rfl, hk6, hs6⟩
      simp
      refine W_no (by simp) ?_
      simp
      refine h _ _ _ _ _ rfl (hS4.both hk5 hm5 hk6 hs6 ?_ (sok_ssave hS.sok _ _ _ _))
      have := rel_val hS.rel f hf2 h8 0
      simpa using this
    · rw [if_neg h8] at hm5 ⊢
      refine W_call0 (by simp [hvar4, hlen4]) (stk_odd st f sz 0 ((n : Int) + 1) w5 (by omega) h8) ?_
      rintro r w6 ⟨rfl, rfl⟩
      simp
      refine W_no (by simp) ?_
      simp
      exact h _ _ _ _ _ rfl (hS4.both hk5 hm5 (Kept.refl _ _) hs5 hS4.rel hS.sok)
  · rw [saveS_out _ hin] at hm5 ⊢
    rw [placeOf_out hin]
    refine W_call0 (by simp [hvar4, hlen4]) (stk_fail st (-1) sz 0 ((n : Int) + 1) w5 (by omega)) ?_
    rintro r w6 ⟨rfl, rfl⟩
    simp
    refine W_no (by simp) ?_
    simp
    exact h _ _ _ _ _ rfl (hS4.both hk5 hm5 (Kept.refl _ _) hs5 hS4.rel hS.sok)
end Go.Proofs.Ytihaopoehhnbkaa
