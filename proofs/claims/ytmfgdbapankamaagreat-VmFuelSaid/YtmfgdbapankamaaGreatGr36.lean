/- Layer 20: more fuel goes as far, or further. -/
import Derived.Test.YtmfgdbapankamaaGreatGr31
import Derived.Test.YtmfgdbapankamaaGreatGr30
import Derived.Test.YtmfgdbapankamaaGreatGr27
import Derived.Test.YtmfgdbapankamaaGreatGr35
set_option linter.unusedSimpArgs false
set_option linter.unusedVariables false
set_option maxRecDepth 8000
namespace Go.Proofs.YtmfgdbapankamaaGreat
open Go.Eng
theorem grun_steps (xs : List Ins) (clock : Int) (us : List Int) : ∀ (f n : Nat) (G : GSt), (n : Int) ≤ (grun xs clock us f n G).1.2.2.1 ∧ (grun xs clock us f n G).1.2.2.1 ≤ n + f
  | 0, n, G => by simp [grun]
  | f + 1, n, G => by
    simp only [grun]
    cases gstep xs clock us G with
    | none => simp; omega
    | some G' =>
      simp only
      by_cases hd : G'.s.done = true
      · rw [if_pos hd]; simp; omega
      · rw [if_neg hd]
        have := grun_steps xs clock us f (n + 1) G'
        omega
theorem grun_more (xs : List Ins) (clock : Int) (us : List Int) : ∀ (f d n : Nat) (G : GSt),
    (grun xs clock us f n G).1.2.2.1 ≤ (grun xs clock us (f + d) n G).1.2.2.1 ∧ ((grun xs clock us f n G).1.2.2.2 = 62 ∨ grun xs clock us f n G = grun xs clock us (f + d) n G)
  | 0, d, n, G => ⟨by have := (grun_steps xs clock us (0 + d) n G).1; simpa [grun] using this, .inl rfl⟩
  | f + 1, d, n, G => by
    rw [show f + 1 + d = (f + d) + 1 by omega]
    simp only [grun]
    cases gstep xs clock us G with
    | none => exact ⟨Int.le_refl _, .inr rfl⟩
    | some G' =>
      simp only
      by_cases hd : G'.s.done = true
      · rw [if_pos hd, if_pos hd]; exact ⟨Int.le_refl _, .inr rfl⟩
      · rw [if_neg hd, if_neg hd]
        exact grun_more xs clock us f d (n + 1) G'
end Go.Proofs.YtmfgdbapankamaaGreat
namespace Go.Proofs.YtmfgdbapankamaaGreat
open Go.Eng
@[simp] theorem ins_s0 (x : Ins) (n : Nat) : x.arr.setIfInBounds 0 (.int .u8 (no_index (@OfNat.ofNat Int n _))) = { x with op := n }.arr := rfl
@[simp] theorem ins_s1 (x : Ins) (n : Nat) : x.arr.setIfInBounds 1 (.int .u8 (no_index (@OfNat.ofNat Int n _))) = { x with dst := n }.arr := rfl
@[simp] theorem ins_s2 (x : Ins) (n : Nat) : x.arr.setIfInBounds 2 (.int .u8 (no_index (@OfNat.ofNat Int n _))) = { x with src := n }.arr := rfl
@[simp] theorem ins_s0n (x : Ins) (n : Nat) : x.arr.setIfInBounds 0 (.int .u8 (n : Int)) = { x with op := n }.arr := rfl
@[simp] theorem ins_s3 (x : Ins) (n : Int) : x.arr.setIfInBounds 3 (.int .i16 n) = { x with off := n }.arr := rfl
@[simp] theorem ins_s4 (x : Ins) (n : Int) : x.arr.setIfInBounds 4 (.int .i32 n) = { x with imm := n }.arr := rfl
theorem code_size : ∀ xs : List Ins, (xs.flatMap fun x => x.arr.toList).length = xs.length * 5
  | [] => rfl
  | x :: r => by rw [List.flatMap_cons, List.length_append, code_size r]; simp [Ins.arr]; omega
@[simp] theorem codeArr_size (xs : List Ins) : (codeArr xs).size = xs.length * 5 := by simp only [codeArr, List.size_toArray, code_size]
theorem code_get : ∀ (xs : List Ins) (i j : Nat) (x : Ins), xs[i]? = some x → j < 5 → (xs.flatMap fun x => x.arr.toList)[i * 5 + j]? = x.arr[j]?
  | y :: r, 0, j, x, h, hj => by
    simp at h; subst h
    rw [List.flatMap_cons, List.getElem?_append_left (by simp [Ins.arr]; omega)]
    simp
  | y :: r, i + 1, j, x, h, hj => by
    rw [List.flatMap_cons, List.getElem?_append_right (by simp [Ins.arr]; omega), ← code_get r i j x (by simpa using h) hj]
    congr 1
    simp [Ins.arr]; omega
theorem code_row (xs : List Ins) (i : Nat) (x : Ins) (h : xs[i]? = some x) : (codeArr xs).extract (i * 5) (i * 5 + 5) = x.arr := by
  have hi := (List.getElem?_eq_some_iff.1 h).1
  apply Array.ext_getElem?
  intro j
  rw [Array.getElem?_extract]
  by_cases hj : j < 5
  · rw [if_pos (by rw [codeArr_size]; omega)]
    show (xs.flatMap fun x => x.arr.toList).toArray[i * 5 + j]? = _
    rw [List.getElem?_toArray, code_get xs i j x h hj]
  · rw [if_neg (by omega)]
    simp; omega
theorem code_setG (xs : List Ins) (i : Nat) (x : Ins) (h : i < xs.length) : setRow (codeArr xs) (i * 5) x.arr.toList = codeArr (xs.set i x) := by
  apply Array.ext_getElem?
  intro j
  rw [setRow_eq, codeArr_size, show x.arr.toList.length = 5 from rfl]
  by_cases hj : j < xs.length * 5
  · have hd : j / 5 < xs.length := by omega
    have e : j = j / 5 * 5 + j % 5 := by omega
    have hm : j % 5 < 5 := by omega
    have get : ∀ (ys : List Ins) (y : Ins), ys[j / 5]? = some y → (codeArr ys)[j]? = y.arr[j % 5]? := fun ys y hy => by
      show (ys.flatMap fun x => x.arr.toList).toArray[j]? = _
      rw [List.getElem?_toArray]
      conv => lhs; rw [e]
      exact code_get ys _ _ y hy hm
    by_cases hi : j / 5 = i
    · rw [if_pos (by omega), get _ x (by rw [hi]; simp [h])]
      simp only [Array.getElem?_toList]
      congr 1; omega
    · rw [if_neg (by omega), get xs _ (List.getElem?_eq_getElem hd), get (xs.set i x) xs[j / 5] (by rw [List.getElem?_set_ne (fun h => hi h.symm)]; exact List.getElem?_eq_getElem hd)]
  · rw [if_neg (by omega)]
    have e1 : (codeArr xs)[j]? = none := by simp; omega
    have e2 : (codeArr (xs.set i x))[j]? = none := by simp; omega
    rw [e1, e2]
@[simp] theorem code_set0 (xs : List Ins) (x : Ins) (h : 0 < xs.length) : setRow (codeArr xs) 0 x.arr.toList = codeArr (xs.set 0 x) := code_setG xs 0 x h
@[simp] theorem code_set1 (xs : List Ins) (x : Ins) (h : 1 < xs.length) : setRow (codeArr xs) 5 x.arr.toList = codeArr (xs.set 1 x) := code_setG xs 1 x h
@[simp] theorem code_set2 (xs : List Ins) (x : Ins) (h : 2 < xs.length) : setRow (codeArr xs) 10 x.arr.toList = codeArr (xs.set 2 x) := code_setG xs 2 x h
@[simp] theorem code_set3 (xs : List Ins) (x : Ins) (h : 3 < xs.length) : setRow (codeArr xs) 15 x.arr.toList = codeArr (xs.set 3 x) := code_setG xs 3 x h
@[simp] theorem code_set4 (xs : List Ins) (x : Ins) (h : 4 < xs.length) : setRow (codeArr xs) 20 x.arr.toList = codeArr (xs.set 4 x) := code_setG xs 4 x h
@[simp] theorem code_set5 (xs : List Ins) (x : Ins) (h : 5 < xs.length) : setRow (codeArr xs) 25 x.arr.toList = codeArr (xs.set 5 x) := code_setG xs 5 x h
@[simp] theorem code_set6 (xs : List Ins) (x : Ins) (h : 6 < xs.length) : setRow (codeArr xs) 30 x.arr.toList = codeArr (xs.set 6 x) := code_setG xs 6 x h
@[simp] theorem code_set7 (xs : List Ins) (x : Ins) (h : 7 < xs.length) : setRow (codeArr xs) 35 x.arr.toList = codeArr (xs.set 7 x) := code_setG xs 7 x h
@[simp] theorem code_set8 (xs : List Ins) (x : Ins) (h : 8 < xs.length) : setRow (codeArr xs) 40 x.arr.toList = codeArr (xs.set 8 x) := code_setG xs 8 x h
@[simp] theorem code_set9 (xs : List Ins) (x : Ins) (h : 9 < xs.length) : setRow (codeArr xs) 45 x.arr.toList = codeArr (xs.set 9 x) := code_setG xs 9 x h
@[simp] theorem code_set10 (xs : List Ins) (x : Ins) (h : 10 < xs.length) : setRow (codeArr xs) 50 x.arr.toList = codeArr (xs.set 10 x) := code_setG xs 10 x h
@[simp] theorem code_set11 (xs : List Ins) (x : Ins) (h : 11 < xs.length) : setRow (codeArr xs) 55 x.arr.toList = codeArr (xs.set 11 x) := code_setG xs 11 x h
theorem code_of {w : World} {S : Nat → Prop} {q n c : Nat} {xs : List Ins} {T : TypeId} {fz : Nat × Nat} (h : w.heap[q]? = some (.cells (codeArr xs) T fz)) (hn : n = xs.length) (hl : xs.length < 4611686018427387904) (hS : ¬ S q) : Code w S (.slice (some ⟨q, 0, none⟩) n c) xs := by
  subst hn
  refine ⟨q, 0, c, rfl, hl, hS, fun i x hx => ?_⟩
  have hi := (List.getElem?_eq_some_iff.1 hx).1
  rw [Nat.zero_add, wrow_of h (by rw [codeArr_size]; omega), code_row xs i x hx]
def codeOkB (xs : List Ins) : Bool := xs.all fun x => decide (x.op < 256) && (decide ((partsOf x.op).kind ≠ 9) || decide (x.src ≠ 0))
theorem codeOk_of {xs : List Ins} (h : codeOkB xs = true) : CodeOk xs := fun x hx => by
  have := List.all_eq_true.1 h x hx
  simp at this
  exact ⟨this.1, fun hk => this.2.resolve_left (fun h => h hk)⟩
theorem world_ext {cs : Array Value} {ctx : Nat → Int} {maps : Value} {clock : Int} {random : Value} {fuel : Int} (hs : cs.size = 36)
    (h : ∀ i, i < 36 → cs[i]? = some (if i < 32 then .int .u8 (ctx i) else if i = 32 then maps else if i = 33 then .int .u64 clock else if i = 34 then random else .int .i64 fuel)) : cs = WorldArr ctx maps clock random fuel := by
  apply Array.ext_getElem?
  intro j
  by_cases hj : j < 36
  · rw [h j hj, world_at _ _ _ _ _ _ hj]
  · have e1 : cs[j]? = none := by simp; omega
    have e2 : (WorldArr ctx maps clock random fuel)[j]? = none := by simp; omega
    rw [e1, e2]
section
variable (ctx : Nat → Int) (maps : Value) (clock : Int) (random : Value) (fuel : Int)
@[simp] theorem world_s35 (n : Int) : (WorldArr ctx maps clock random fuel).setIfInBounds 35 (.int .i64 n) = WorldArr ctx maps clock random n := by
  refine world_ext (by simp) fun i hi => ?_
  rw [Array.getElem?_setIfInBounds, world_size]
  by_cases h : 35 = i
  · subst h; rfl
  · rw [if_neg h, world_at _ _ _ _ _ _ hi]
    by_cases h1 : i < 32
    · rw [if_pos h1, if_pos h1]
    · have : i = 32 ∨ i = 33 ∨ i = 34 := by omega
      rcases this with rfl | rfl | rfl <;> rfl
@[simp] theorem world_s33 (n : Int) : (WorldArr ctx maps clock random fuel).setIfInBounds 33 (.int .u64 n) = WorldArr ctx maps n random fuel := by
  refine world_ext (by simp) fun i hi => ?_
  rw [Array.getElem?_setIfInBounds, world_size]
  by_cases h : 33 = i
  · subst h; rfl
  · rw [if_neg h, world_at _ _ _ _ _ _ hi]
    by_cases h1 : i < 32
    · rw [if_pos h1, if_pos h1]
    · have : i = 32 ∨ i = 34 ∨ i = 35 := by omega
      rcases this with rfl | rfl | rfl <;> rfl
@[simp] theorem world_s34 (v : Value) : (WorldArr ctx maps clock random fuel).setIfInBounds 34 v = WorldArr ctx maps clock v fuel := by
  refine world_ext (by simp) fun i hi => ?_
  rw [Array.getElem?_setIfInBounds, world_size]
  by_cases h : 34 = i
  · subst h; rfl
  · rw [if_neg h, world_at _ _ _ _ _ _ hi]
    by_cases h1 : i < 32
    · rw [if_pos h1, if_pos h1]
    · have : i = 32 ∨ i = 33 ∨ i = 35 := by omega
      rcases this with rfl | rfl | rfl <;> rfl
theorem world_s0 {cs : Array Value} {c : Nat → Int} (hs : cs.size = 32) (hc : ∀ i, i < 32 → cs[i]? = some (.int .u8 (c i))) : setRow (WorldArr ctx maps clock random fuel) 0 cs.toList = WorldArr c maps clock random fuel := by
  refine world_ext (by simp [Go.Eng.setRow_size]) fun i hi => ?_
  rw [setRow_eq, world_size]
  by_cases h : i < 32
  · rw [if_pos (by simp; omega), if_pos h, Nat.sub_zero, Array.getElem?_toList, hc i h]
  · rw [if_neg (by simp; omega), world_at _ _ _ _ _ _ hi, if_neg h, if_neg h]
end
@[simp] theorem zero_world : zeroWorld = WorldArr (fun _ => 0) (.slice none 0 0) 0 (.slice none 0 0) 0 := rfl
theorem run_law {l random : Value} {xs : List Ins} {ctx : Nat → Int} {clock : Int} {us : List Int} {fuel v p n e : Int} {w : World} (hc : Code w (fun i => w.heap.size ≤ i) l xs) (hok : codeOkB xs = true)
    (hu : Luck w (fun i => w.heap.size ≤ i) random us) (hctx : ∀ i, 0 ≤ ctx i ∧ ctx i ≤ 255) (hclk : 0 ≤ clock) (hus : ∀ n ∈ us, 0 ≤ n) (hf : fuel ≤ 9223372036854775807) (hr : ∀ maps, runOf xs ctx clock us fuel maps = (v, p, n, e)) :
    Ret Tryz.prog 5 [l, .agg (WorldArr ctx (.slice none 0 0) clock random fuel)] w fun r w' => r = .agg (Res v p n e) ∧ Kept none' w w' :=
  (run_ret l xs ctx clock random us fuel w hc (codeOk_of hok) hu hctx hclk hus hf).mono fun r w' ⟨hk, maps, hv⟩ => by
    rw [hr maps] at hv
    exact ⟨hv, hk⟩
theorem luck_none (w : World) (S : Nat → Prop) : Luck w S (.slice none 0 0) [] := ⟨none, 0, rfl, by simp, .inl rfl⟩
theorem run_plain {q n' c : Nat} {T : TypeId} {fz : Nat × Nat} {xs : List Ins} {fuel v p n e : Int} {w : World} (h : w.heap[q]? = some (.cells (codeArr xs) T fz)) (hn : n' = xs.length) (hl : xs.length < 100) (hok : codeOkB xs = true)
    (hf : fuel ≤ 9223372036854775807) (hr : ∀ maps, runOf xs (fun _ => 0) 0 [] fuel maps = (v, p, n, e)) :
    Ret Tryz.prog 5 [.slice (some ⟨q, 0, none⟩) n' c, .agg (WorldArr (fun _ => 0) (.slice none 0 0) 0 (.slice none 0 0) fuel)] w fun r w' => r = .agg (Res v p n e) ∧ Kept none' w w' :=
  run_law (code_of h hn (by omega) (by have := blk_lt h; omega)) hok (luck_none _ _) (fun _ => by omega) (by omega) (fun _ h => by cases h) hf hr
@[simp] theorem eqv_res (w : World) (a b c d : Int) : eqv w (.cons 0 none .int (.cons 1 none .int (.cons 2 none .int (.cons 3 none .int .nil)))) (.agg (Res a b c d)) (.agg (Res a b c d)) = some true := by
  rw [eqv_cons _ _ _ _ _ _ _ (.int .u64 a) (.int .u64 a) true true rfl rfl (by simp)]
  · rfl
  rw [eqv_cons _ _ _ _ _ _ _ (.int .i64 b) (.int .i64 b) true true rfl rfl (by simp)]
  · rfl
  rw [eqv_cons _ _ _ _ _ _ _ (.int .i64 c) (.int .i64 c) true true rfl rfl (by simp)]
  · rfl
  rw [eqv_cons _ _ _ _ _ _ _ (.int .i64 d) (.int .i64 d) true true rfl rfl (by simp)]
  · rfl
  rfl
theorem res_row {w : World} {b : Nat} {v p n e : Int} {T : TypeId} {fz : Nat × Nat} (h : w.heap[b]? = some (.cells (Res v p n e) T fz)) : wrow w b 0 4 = some (Res v p n e) := wrow_box h rfl
def tryCode (by' : Int) : List Ins := [⟨183, 0, 0, 0, by'⟩, ⟨149, 0, 0, 0, 0⟩]
theorem try_a (maps : Value) : runOf (tryCode 7) (fun _ => 0) 0 [] 2 maps = (7, 1, 2, 0) := rfl
theorem try_b (maps : Value) : runOf (tryCode 7) (fun _ => 0) 0 [] 1 maps = (0, 1, 1, 62) := rfl
end Go.Proofs.YtmfgdbapankamaaGreat
namespace Go.Proofs.YtmfgdbapankamaaGreat
open Go.Eng
set_option maxHeartbeats 1000000 in
theorem runs_ret (w : World) : Ret Tryz.prog 6 [] w fun v w' => v = .bool true ∧ Kept none' w w' := by
  refine ret_of_W Tryz.func6 rfl nok_tipstafflaw20_runs ?_
  simp [nc_tipstafflaw20_runs, Ins.zero]
  have h1 := hp_new w (.cells (codeArr (tryCode 7)) 74)
  have hk1 : Kept none' w (w.alloc (.cells (codeArr (tryCode 7)) 74)) := (Kept.refl _ _).alloc _
  have e7 : [({ op := 183, dst := 0, src := 0, off := 0, imm := 7 } : Ins), { op := 149, dst := 0, src := 0, off := 0, imm := 0 }] = tryCode 7 := rfl
  rw [e7]
  generalize w.alloc (.cells (codeArr (tryCode 7)) 74) = w1 at h1 hk1 ⊢
  refine W_call0 (by simp) (run_plain (n' := 2) (c := 2) h1 rfl (by simp [tryCode]) rfl (by omega) try_a) ?_
  rintro r w2 ⟨rfl, hk2⟩
  have h2 := hk2.has h1 (fun h => h)
  simp
  refine W_call0 (by simp) (run_plain (n' := 2) (c := 2) h2 rfl (by simp [tryCode]) rfl (by omega) try_b) ?_
  rintro r w3 ⟨rfl, hk3⟩
  have hk13 := (hk1.trans hk2).trans hk3
  simp
  have g5 := hp_old (hp_new w3 (.cells (Res 0 0 0 0) 36)) (.cells (Res 0 0 0 0) 36)
  have g6 := hp_new (w3.alloc (.cells (Res 0 0 0 0) 36)) (.cells (Res 0 0 0 0) 36)
  rw [alloc_size] at g6
  have hk4 : Kept none' w ((w3.alloc (.cells (Res 0 0 0 0) 36)).alloc (.cells (Res 0 0 0 0) 36)) := (hk13.alloc _).alloc _
  have hsz := hk13.size
  generalize (w3.alloc (.cells (Res 0 0 0 0) 36)).alloc (.cells (Res 0 0 0 0) 36) = w4 at g5 g6 hk4 ⊢
  refine W_store (by simp) (by simp) (res_box 7 1 2 0 g5 rfl) (stab_nil _ _ _) ?_
  have g51 := put_same (o := .cells (Res 7 1 2 0) 36) (blk_lt g5)
  have g61 := (put_other (o := .cells (Res 7 1 2 0) 36) (show w3.heap.size + 1 ≠ w3.heap.size by omega)).trans g6
  have hk5 := hk4.putNew hsz (.cells (Res 7 1 2 0) 36)
  generalize put w4 _ _ = w5 at g51 g61 hk5 ⊢
  refine W_store (by simp) (by simp) (res_box 0 1 1 62 g61 rfl) (stab_nil _ _ _) ?_
  have g52 := (put_other (o := .cells (Res 0 1 1 62) 36) (show w3.heap.size ≠ w3.heap.size + 1 by omega)).trans g51
  have g62 := put_same (o := .cells (Res 0 1 1 62) 36) (blk_lt g61)
  have hk6 := hk5.putNew (b := w3.heap.size + 1) (by omega) (.cells (Res 0 1 1 62) 36)
  generalize put w5 _ _ = w6 at g52 g62 hk6 ⊢
  simp [res_row g52, res_row g62]
  exact hk6
@[simp] theorem res_0 (v p n e : Int) : (Res v p n e)[0]? = some (.int .u64 v) := rfl
@[simp] theorem res_3 (v p n e : Int) : (Res v p n e)[3]? = some (.int .i64 e) := rfl
end Go.Proofs.YtmfgdbapankamaaGreat
set_option maxRecDepth 100000
namespace Go.Proofs.YtmfgdbapankamaaGreat
open Go.Eng
def nc_tipstafflaw20_VmFuel : Cmd :=
  (.seq
   (.seq
    (.new (some 3) 29 (.var 0) [])
   (.set 2 (.const (.bool false))))
  (.seq
   (.seq
    (.call (some 4) 4 [(.ld (some 39) (.var 3))] [])
   (.seq
    (.chk [(.proj 1 (.var 4))])
   (.seq
    (.set 5 (.proj 0 (.var 4)))
   (.set 6 (.proj 1 (.var 4))))))
  (.seq
   (.set 7 (.slSl 5 (.ld none (.offp 0 (.var 3))) (.const (.int .i64 0)) (.mn (.len false (.ld none (.offp 0 (.var 3)))) (.const (.int .i64 60)))))
  (.seq
   (.set 8 (.conv .i64 (.bin .rem (.conv .u64 (.ld none (.offp 38 (.var 3)))) (.const (.int .u64 200)))))
  (.seq
   (.set 9 (.bin .add (.var 8) (.conv .i64 (.bin .rem (.conv .u64 (.var 1)) (.const (.int .u64 200))))))
  (.seq
   (.seq
    (.chk [(.upd 35 1 (.upd 33 1 (.upd 32 1 (.upd 0 32 (.const (.agg zeroWorld)) (.ld (some 32) (.offp 1 (.var 3)))) (.var 5)) (.ld none (.offp 36 (.var 3)))) (.var 8))])
   (.seq
    (.call (some 10) 5 [(.var 7), (.upd 35 1 (.upd 33 1 (.upd 32 1 (.upd 0 32 (.const (.agg zeroWorld)) (.ld (some 32) (.offp 1 (.var 3)))) (.var 5)) (.ld none (.offp 36 (.var 3)))) (.var 8))] [])
   (.seq
    (.new (some 11) 36 (.const (.agg (Res 0 0 0 0))) [])
   (.store 4 (.var 11) (.var 10) []))))
  (.seq
   (.seq
    (.call (some 12) 4 [(.ld (some 39) (.var 3))] [])
   (.seq
    (.chk [(.proj 1 (.var 12))])
   (.seq
    (.set 13 (.proj 0 (.var 12)))
   (.set 14 (.proj 1 (.var 12))))))
  (.seq
   (.seq
    (.chk [(.upd 35 1 (.upd 33 1 (.upd 32 1 (.upd 0 32 (.const (.agg zeroWorld)) (.ld (some 32) (.offp 1 (.var 3)))) (.var 13)) (.ld none (.offp 36 (.var 3)))) (.var 9))])
   (.seq
    (.call (some 15) 5 [(.var 7), (.upd 35 1 (.upd 33 1 (.upd 32 1 (.upd 0 32 (.const (.agg zeroWorld)) (.ld (some 32) (.offp 1 (.var 3)))) (.var 13)) (.ld none (.offp 36 (.var 3)))) (.var 9))] [])
   (.seq
    (.new (some 16) 36 (.const (.agg (Res 0 0 0 0))) [])
   (.store 4 (.var 16) (.var 15) []))))
  (.seq
   (.seq
    (.call (some 17) 6 [] [])
   (.cond (.pick (.pick (.pick (.un .not (.var 17)) (.const (.bool true)) (.bin .gtr (.ld none (.offp 2 (.var 11))) (.var 8))) (.const (.bool true)) (.bin .gtr (.ld none (.offp 2 (.var 16))) (.var 9))) (.const (.bool true)) (.bin .lss (.ld none (.offp 2 (.var 16))) (.ld none (.offp 2 (.var 11)))))
     (.seq
      (.set 2 (.const (.bool false)))
     .ret)
     .skip))
  (.seq
   (.set 2 (.pick (.bin .eql (.ld none (.offp 3 (.var 11))) (.const (.int .i64 62))) (.const (.bool true)) (.eqx false (.cons 0 none .int (.cons 1 none .int (.cons 2 none .int (.cons 3 none .int .nil)))) (.ld (some 4) (.var 11)) (.ld (some 4) (.var 16)))))
  .ret))))))))))
abbrev nv_tipstafflaw20_VmFuel : List Nat := [0, 1, 4, 2, 16, 5, 6, 7, 8, 9, 45, 10, 48, 11, 12, 59, 13, 60]
abbrev nk_tipstafflaw20_VmFuel : List (List Nat) := []
abbrev nr_tipstafflaw20_VmFuel : List Ex := [(.var 2)]
theorem nok_tipstafflaw20_VmFuel : compile Tryz.prog Tryz.f3 nv_tipstafflaw20_VmFuel nk_tipstafflaw20_VmFuel = some (nc_tipstafflaw20_VmFuel, nr_tipstafflaw20_VmFuel) := by kernel_rfl
end Go.Proofs.YtmfgdbapankamaaGreat
set_option maxRecDepth 8000
namespace Go.Proofs.YtmfgdbapankamaaGreat
open Go.Eng
attribute [local irreducible] Go.Eng.W
@[simp] theorem world_s32 (ctx : Nat → Int) (maps : Value) (clock : Int) (random : Value) (fuel : Int) (v : Value) : (WorldArr ctx maps clock random fuel).setIfInBounds 32 v = WorldArr ctx v clock random fuel := by
  refine world_ext (by simp) fun i hi => ?_
  rw [Array.getElem?_setIfInBounds, world_size]
  by_cases h : 32 = i
  · subst h; rfl
  · rw [if_neg h, world_at _ _ _ _ _ _ hi]
    by_cases h1 : i < 32
    · rw [if_pos h1, if_pos h1]
    · have : i = 33 ∨ i = 34 ∨ i = 35 := by omega
      rcases this with rfl | rfl | rfl <;> rfl
structure FuelIn (w : World) (cs : Array Value) (xs : List Ins) (ctx : Nat → Int) (specs : List Spec4) (puts : List PutI) (frz clock fuel : Int) : Prop where
  cas : CaseAt w cs specs puts frz
  code : ∃ v, cs[0]? = some v ∧ (v = .slice none 0 0 ∧ xs = [] ∨ ∃ q o c, v = .slice (some ⟨q, o, none⟩) xs.length c ∧ xs.length ≤ c ∧ q < w.heap.size ∧ ∀ (i : Nat) (x : Ins), xs[i]? = some x → wrow w q (o + i * 5) 5 = some x.arr)
  cctx : ∀ i, i < 32 → cs[1 + i]? = some (.int .u8 (ctx i))
  byte : ∀ i, 0 ≤ ctx i ∧ ctx i ≤ 255
  op : ∀ x ∈ xs, x.op < 256
  cclock : cs[36]? = some (.int .u64 clock)
  clock0 : 0 ≤ clock
  cfuel : cs[38]? = some (.int .i64 fuel)
theorem take_code {w : World} {v : Value} {xs : List Ins} (h : v = .slice none 0 0 ∧ xs = [] ∨ ∃ q o c, v = .slice (some ⟨q, o, none⟩) xs.length c ∧ xs.length ≤ c ∧ q < w.heap.size ∧ ∀ (i : Nat) (x : Ins), xs[i]? = some x → wrow w q (o + i * 5) 5 = some x.arr) :
    varV v = some v ∧ lenV false v = some (.int .i64 xs.length) ∧ ∃ l, slSlV 5 v (.int .i64 0) (.int .i64 (if (60 : Int) < xs.length then 60 else xs.length)) = some l ∧ varV l = some l ∧ ∀ (S : Nat → Prop), (∀ q, q < w.heap.size → ¬ S q) → GCode w S l (xs.take 60) := by
  rcases h with ⟨rfl, rfl⟩ | ⟨q, o, c, rfl, hc, hq, hx⟩
  · exact ⟨rfl, rfl, .slice none 0 0, by simp, rfl, fun S _ => .inr ⟨rfl, 0, rfl⟩⟩
  · refine ⟨rfl, rfl, .slice (some ⟨q, o, none⟩) (min 60 xs.length) c, ?_, rfl, fun S hS => .inl ⟨q, o, c, by rw [List.length_take], by rw [List.length_take]; omega, hS q hq, fun i x hi => hx i x ?_⟩⟩
    · have m1 : (if (60 : Int) < xs.length then (60 : Int) else xs.length) = ((min 60 xs.length : Nat) : Int) := by split <;> omega
      have m2 : ((min 60 xs.length : Nat) : Int) ≤ c := by omega
      rw [m1]
      simp only [slSlV_some]
      rw [if_pos ⟨by omega, by omega, m2⟩]
      simp
    · rw [List.getElem?_take] at hi
      split at hi
      · exact hi
      · cases hi
theorem mod_small' (x d : Int) (hd : 0 < d) (hd2 : d < 1000) : ∃ k : Nat, k < d ∧ (IntKind.u64.wrap x).tmod d = k ∧ IntKind.i64.wrap ((IntKind.u64.wrap x).tmod d) = k := by
  have h0 : 0 ≤ IntKind.u64.wrap x := by rw [IntKind.wrap_u64]; omega
  have h1 : (IntKind.u64.wrap x).tmod d = IntKind.u64.wrap x % d := Int.tmod_eq_emod_of_nonneg h0
  have h2 : 0 ≤ IntKind.u64.wrap x % d := Int.emod_nonneg _ (by omega)
  have h3 : IntKind.u64.wrap x % d < d := Int.emod_lt_of_pos _ (by omega)
  refine ⟨(IntKind.u64.wrap x % d).toNat, by omega, by omega, ?_⟩
  rw [h1, i64w (by omega) (by omega)]
  omega
theorem CaseAt.calm {w w' : World} {cs : Array Value} {specs : List Spec4} {puts : List PutI} {frz : Int} (h : CaseAt w cs specs puts frz) (hk : Kept none' w w') : CaseAt w' cs specs puts frz := by
  obtain ⟨v, h1, h2⟩ := h.cspecs
  obtain ⟨u, g1, g2⟩ := h.cputs
  refine ⟨h.size, ⟨v, h1, ?_⟩, ⟨u, g1, ?_⟩, h.cfrz, h.bytes⟩
  · rcases h2 with h2 | ⟨q, o, c, e, h2⟩
    · exact .inl h2
    · exact .inr ⟨q, o, c, e, fun i s hs => wrow_calm hk (h2 i s hs)⟩
  · rcases g2 with g2 | ⟨q, o, c, e, g2⟩
    · exact .inl g2
    · refine .inr ⟨q, o, c, e, fun j p hp => ?_⟩
      obtain ⟨kv, vv, k1, k2, k3⟩ := g2 j p hp
      exact ⟨kv, vv, wrow_calm hk k1, k2.calm hk, k3.calm hk⟩
theorem caseX_maps (specs : List Spec4) (puts : List PutI) (frz : Int) : Maps (caseX specs puts frz) := by
  unfold caseX
  by_cases hl : specs.length ≤ 4
  · have := (case_maps specs puts frz specs.length (Nat.le_refl _)).1
    rw [List.take_of_length_le (Nat.le_refl _)] at this
    rw [List.take_of_length_le hl]
    exact this
  · exact (case_maps specs puts frz 4 (by omega)).1
theorem fuel_more (xs : List Ins) (ctx : Nat → Int) (clock : Int) (ms : List XMap) (cs : List XCell) (k1 k2 : Nat) (h1 : k1 < 200) (h2 : k2 < 200) :
    (grunOf xs ctx clock [] (k1 : Int) ms cs).1.2.2.1 ≤ k1 ∧ (grunOf xs ctx clock [] ((k1 + k2 : Nat) : Int) ms cs).1.2.2.1 ≤ ((k1 + k2 : Nat) : Int) ∧ (grunOf xs ctx clock [] (k1 : Int) ms cs).1.2.2.1 ≤ (grunOf xs ctx clock [] ((k1 + k2 : Nat) : Int) ms cs).1.2.2.1 ∧
      ((grunOf xs ctx clock [] (k1 : Int) ms cs).1.2.2.2 = 62 ∨ grunOf xs ctx clock [] (k1 : Int) ms cs = grunOf xs ctx clock [] ((k1 + k2 : Nat) : Int) ms cs) := by
  have e1 : fuelOf (k1 : Int) = k1 := by unfold fuelOf; omega
  have e2 : fuelOf ((k1 + k2 : Nat) : Int) = k1 + k2 := by unfold fuelOf; omega
  unfold grunOf
  rw [e1, e2]
  have a := (grun_steps xs clock [] k1 0 (startG ctx ms cs)).2
  have b := (grun_steps xs clock [] (k1 + k2) 0 (startG ctx ms cs)).2
  have c := grun_more xs clock [] k1 k2 0 (startG ctx ms cs)
  refine ⟨by omega, by omega, c.1, c.2⟩
set_option maxHeartbeats 8000000 in
theorem vfuel_ret {w : World} {cs : Array Value} {xs : List Ins} {ctx : Nat → Int} {specs : List Spec4} {puts : List PutI} {frz clock fuel : Int} (h : FuelIn w cs xs ctx specs puts frz clock fuel) (more : Int) :
    Ret Tryz.prog 3 [.agg cs, .int .i64 more] w fun v w' => v = .bool true ∧ Kept none' w w' := by
  refine ret_of_W Tryz.func3 rfl nok_tipstafflaw20_VmFuel ?_
  obtain ⟨v0, h0, hcode⟩ := h.code
  obtain ⟨hv0, hl0, l, hl, hlv, hgc⟩ := take_code hcode
  have hM := caseX_maps specs puts frz
  obtain ⟨k1, hk1, hk1', hkw1⟩ := mod_small' fuel 200 (by omega) (by omega)
  obtain ⟨k2, hk2, hk2', hkw2⟩ := mod_small' more 200 (by omega) (by omega)
  simp only [nc_tipstafflaw20_VmFuel]
  rw [W_seq, W_seq]
  refine W_new' (v := .agg cs) (cs := cs) (by simp) rfl ?_
  have hb := hp_new w (.cells cs 29)
  have hk : Kept none' w (w.alloc (.cells cs 29)) := (Kept.refl _ _).alloc _
  generalize w.alloc (.cells cs 29) = w1 at *
  generalize w.heap.size = bx at *
  simp only [W_set]
  refine ok_intro (.bool false) (by simp) ?_
  rw [W_seq, W_seq]
  refine W_call0 (vs := [.agg cs]) (by simp [wrow_box hb h.cas.size]) (maps_ret' (h.cas.calm hk)) ?_
  rintro r w2 ⟨hk2, v4, v5, N, rfl, hP, hmv, hmv0, hO, hv5⟩
  have hv4 : varV v4 = some v4 := by obtain ⟨p, c, e, _⟩ := hmv; rw [e]; rfl
  have hb2 := hk2.has hb fun h => h
  have hk02 := hk.trans hk2
  rw [W_seq]
  refine W_chkIn [v5] (by simp [hv5]) ?_
  rw [W_seq]
  simp only [W_set]
  refine ok_intro v4 (by simp [hv4]) ?_
  refine ok_intro v5 (by simp [hv5]) ?_
  have c0 : wcell w2 bx 0 = some v0 := by rw [wcell_of hb2]; exact h0
  have c38 : wcell w2 bx 38 = some (.int .i64 fuel) := by rw [wcell_of hb2]; exact h.cfuel
  have c36 : wcell w2 bx 36 = some (.int .u64 clock) := by rw [wcell_of hb2]; exact h.cclock
  rw [W_seq]
  simp only [W_set]
  refine ok_intro l (by simp [c0, hv0, hl0, hl]) ?_
  rw [W_seq]
  simp only [W_set]
  refine ok_intro (.int .i64 k1) (by simp [c38, hkw1]) ?_
  rw [W_seq]
  simp only [W_set]
  have e12 : IntKind.i64.wrap ((k1 : Int) + k2) = ((k1 + k2 : Nat) : Int) := i64w (by omega) (by omega)
  refine ok_intro (.int .i64 ((k1 + k2 : Nat) : Int)) (by simp [hkw2, e12]) ?_
  have hrs : (cs.extract 1 33).size = 32 := by simp [h.cas.size]
  have hrc : ∀ i, i < 32 → (cs.extract 1 33)[i]? = some (.int .u8 (ctx i)) := fun i hi => by
    rw [Array.getElem?_extract, if_pos (by simp [h.cas.size]; omega)]
    exact h.cctx i hi
  have r32 : wrow w2 bx 1 32 = some (cs.extract 1 33) := by rw [wrow_of hb2 (by rw [h.cas.size]; omega)]
  generalize hrr : cs.extract 1 33 = rr at hrs hrc r32
  have v4c : v4.cells = #[v4] := by obtain ⟨p, c, e, _⟩ := hmv; rw [e]; rfl
  rw [W_seq, W_seq]
  refine W_chkIn [.agg (WorldArr ctx v4 clock (.slice none 0 0) k1)] (by simp [r32, hrs, world_s0 (hs := hrs) (hc := hrc), hv4, v4c, c36]) ?_
  rw [W_seq]
  have hs2 := hk2.size
  have hbx1 := blk_lt hb
  have hrun := grun_ret l (xs.take 60) ctx v4 clock (.slice none 0 0) [] k1 w2 N _ _ hP hmv hmv0 hM.ok (fun A hA => by have := hM.clock A hA; omega) ((hgc (fun i => w2.heap.size ≤ i ∨ N.own (caseX specs puts frz).2.length i) fun q hq hh => by
    rcases hh with hh | hh
    · omega
    · have := hO q hh; omega).keep (hk02.mono fun _ _ h => h.elim)) (fun x hx => h.op x (List.mem_of_mem_take hx)) ⟨none, 0, rfl, by simp, .inl rfl⟩ h.byte h.clock0 (fun n hn => by simp at hn) (by omega)
  refine W_call0 (vs := [l, .agg (WorldArr ctx v4 clock (.slice none 0 0) k1)]) (by simp [hlv, r32, hrs, world_s0 (hs := hrs) (hc := hrc), hv4, v4c, c36]) hrun ?_
  rintro r w3 ⟨rfl, hk3, _⟩
  have hk03 : Kept none' w w3 := hk02.then hk3 fun j hj e => by have := hO j e; have := hk.size; omega
  generalize hR1 : grunOf (xs.take 60) ctx clock [] k1 (caseX specs puts frz).1 (caseX specs puts frz).2 = R1 at *
  rw [W_seq]
  refine W_new' (v := .agg (Res 0 0 0 0)) (cs := Res 0 0 0 0) (by simp) rfl ?_
  have hx1 := hp_new w3 (.cells (Res 0 0 0 0) 36)
  have hk4 : Kept none' w (w3.alloc (.cells (Res 0 0 0 0) 36)) := hk03.alloc _
  have hb3 := hk3.has hb2 fun e => by have := hO bx e; omega
  have hb4 := hp_old hb3 (.cells (Res 0 0 0 0) 36)
  have hs3 := hk03.size
  generalize w3.alloc (.cells (Res 0 0 0 0) 36) = w4 at *
  generalize hx1e : w3.heap.size = x1 at *
  refine W_store (by simp) (by simp) (res_box R1.1.1 R1.1.2.1 R1.1.2.2.1 R1.1.2.2.2 hx1 rfl) (stab_nil _ _ _) ?_
  have nx : bx ≠ x1 := by have := blk_lt hb3; omega
  have hx2 := put_same (o := .cells (Res R1.1.1 R1.1.2.1 R1.1.2.2.1 R1.1.2.2.2) 36 (0, 0)) (blk_lt hx1)
  have hb5 := (put_other (o := .cells (Res R1.1.1 R1.1.2.1 R1.1.2.2.1 R1.1.2.2.2) 36 (0, 0)) nx).trans hb4
  have hk5 := hk4.putNew (b := x1) (by omega) (.cells (Res R1.1.1 R1.1.2.1 R1.1.2.2.1 R1.1.2.2.2) 36 (0, 0))
  generalize put w4 x1 _ = w5 at *
  rw [W_seq, W_seq]
  refine W_call0 (vs := [.agg cs]) (by simp [wrow_box hb5 h.cas.size]) (maps_ret' (h.cas.calm hk5)) ?_
  rintro r w6 ⟨hk6, u4, u5, N2, rfl, hP2, hmv2, hmv02, hO2, hu5⟩
  have hu4 : varV u4 = some u4 := by obtain ⟨p, c, e, _⟩ := hmv2; rw [e]; rfl
  have u4c : u4.cells = #[u4] := by obtain ⟨p, c, e, _⟩ := hmv2; rw [e]; rfl
  have hb6 := hk6.has hb5 fun h => h
  have hx6 := hk6.has hx2 fun h => h
  have hk06 := hk5.trans hk6
  rw [W_seq]
  refine W_chkIn [u5] (by simp [hu5]) ?_
  rw [W_seq]
  simp only [W_set]
  refine ok_intro u4 (by simp [hu4]) ?_
  refine ok_intro u5 (by simp [hu5]) ?_
  have d36 : wcell w6 bx 36 = some (.int .u64 clock) := by rw [wcell_of hb6]; exact h.cclock
  have s32 : wrow w6 bx 1 32 = some rr := by rw [wrow_of hb6 (by rw [h.cas.size]; omega)]; exact congrArg some hrr
  rw [W_seq, W_seq]
  refine W_chkIn [.agg (WorldArr ctx u4 clock (.slice none 0 0) ((k1 + k2 : Nat) : Int))] (by simp [s32, hrs, world_s0 (hs := hrs) (hc := hrc), hu4, u4c, d36]) ?_
  rw [W_seq]
  have hs6 := hk6.size
  have hbx5 := blk_lt hb5
  have hrun2 := grun_ret l (xs.take 60) ctx u4 clock (.slice none 0 0) [] ((k1 + k2 : Nat) : Int) w6 N2 _ _ hP2 hmv2 hmv02 hM.ok (fun A hA => by have := hM.clock A hA; omega) ((hgc (fun i => w6.heap.size ≤ i ∨ N2.own (caseX specs puts frz).2.length i) fun q hq hh => by
    rcases hh with hh | hh
    · omega
    · have := hO2 q hh; omega).keep (hk06.mono fun _ _ h => h.elim)) (fun x hx => h.op x (List.mem_of_mem_take hx)) ⟨none, 0, rfl, by simp, .inl rfl⟩ h.byte h.clock0 (fun n hn => by simp at hn) (by omega)
  refine W_call0 (vs := [l, .agg (WorldArr ctx u4 clock (.slice none 0 0) ((k1 + k2 : Nat) : Int))]) (by simp [hlv, s32, hrs, world_s0 (hs := hrs) (hc := hrc), hu4, u4c, d36]) hrun2 ?_
  rintro r w7 ⟨rfl, hk7, _⟩
  have hm := fuel_more (xs.take 60) ctx clock (caseX specs puts frz).1 (caseX specs puts frz).2 k1 k2 (by omega) (by omega)
  rw [hR1] at hm
  have hk07 : Kept none' w w7 := hk06.then hk7 fun j hj e => by have := hO2 j e; have := hk5.size; omega
  generalize hR2 : grunOf (xs.take 60) ctx clock [] ((k1 + k2 : Nat) : Int) (caseX specs puts frz).1 (caseX specs puts frz).2 = R2 at *
  have hb7 := hk7.has hb6 fun e => by have := hO2 bx e; have := blk_lt hb5; omega
  have hx7 := hk7.has hx6 fun e => by have := hO2 x1 e; have := blk_lt hx2; omega
  rw [W_seq]
  refine W_new' (v := .agg (Res 0 0 0 0)) (cs := Res 0 0 0 0) (by simp) rfl ?_
  have hy1 := hp_new w7 (.cells (Res 0 0 0 0) 36)
  have hx8 := hp_old hx7 (.cells (Res 0 0 0 0) 36)
  have hk8 : Kept none' w (w7.alloc (.cells (Res 0 0 0 0) 36)) := hk07.alloc _
  have hs7 := hk07.size
  generalize w7.alloc (.cells (Res 0 0 0 0) 36) = w8 at *
  generalize hy1e : w7.heap.size = y1 at *
  refine W_store (by simp) (by simp) (res_box R2.1.1 R2.1.2.1 R2.1.2.2.1 R2.1.2.2.2 hy1 rfl) (stab_nil _ _ _) ?_
  have ny : x1 ≠ y1 := by have := blk_lt hx7; omega
  have hy2 := put_same (o := .cells (Res R2.1.1 R2.1.2.1 R2.1.2.2.1 R2.1.2.2.2) 36 (0, 0)) (blk_lt hy1)
  have hx9 := (put_other (o := .cells (Res R2.1.1 R2.1.2.1 R2.1.2.2.1 R2.1.2.2.2) 36 (0, 0)) ny).trans hx8
  have hk9 := hk8.putNew (b := y1) (by omega) (.cells (Res R2.1.1 R2.1.2.1 R2.1.2.2.1 R2.1.2.2.2) 36 (0, 0))
  generalize put w8 y1 _ = w9 at *
  rw [W_seq, W_seq]
  refine W_call0 (by simp) (runs_ret w9) ?_
  rintro r w10 ⟨rfl, hk10⟩
  have hxx := hk10.has hx9 fun h => h
  have hyy := hk10.has hy2 fun h => h
  have hkk := hk9.trans hk10
  have x2 : wcell w10 x1 2 = some (.int .i64 R1.1.2.2.1) := by rw [wcell_of hxx]; rfl
  have x3 : wcell w10 x1 3 = some (.int .i64 R1.1.2.2.2) := by rw [wcell_of hxx]; rfl
  have y2 : wcell w10 y1 2 = some (.int .i64 R2.1.2.2.1) := by rw [wcell_of hyy]; rfl
  have xr := res_row hxx
  have yr := res_row hyy
  refine W_no (by simp [x2, y2]; omega) ?_
  obtain ⟨m1, m2, m3, m4⟩ := hm
  simp only [W_skip, W_seq, W_set]
  refine ok_intro (.bool true) ?_ ?_
  · rcases m4 with m4 | m4
    · rw [m4] at x3
      simp [x3]
    · subst m4
      simp [x3, xr, yr]
  · simp
    exact hkk
end Go.Proofs.YtmfgdbapankamaaGreat
