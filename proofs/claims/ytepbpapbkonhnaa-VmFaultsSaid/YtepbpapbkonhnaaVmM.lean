/- Layer 20: what all laws share: codes in boxes, worlds, results; the law's own small try. -/
import Derived.Test.YtepbpapbkonhnaaVmK
set_option linter.unusedSimpArgs false
set_option linter.unusedVariables false
set_option maxRecDepth 8000
namespace Go.Proofs.Ytepbpapbkonhnaa
open Go.Eng

/-! Instructions that are built. -/
@[simp] theorem ins_s0 (x : Ins) (n : Nat) : x.arr.setIfInBounds 0 (.int .u8 (no_index (@OfNat.ofNat Int n _))) = { x with op := n }.arr := rfl
@[simp] theorem ins_s1 (x : Ins) (n : Nat) : x.arr.setIfInBounds 1 (.int .u8 (no_index (@OfNat.ofNat Int n _))) = { x with dst := n }.arr := rfl
@[simp] theorem ins_s2 (x : Ins) (n : Nat) : x.arr.setIfInBounds 2 (.int .u8 (no_index (@OfNat.ofNat Int n _))) = { x with src := n }.arr := rfl
@[simp] theorem ins_s0n (x : Ins) (n : Nat) : x.arr.setIfInBounds 0 (.int .u8 (n : Int)) = { x with op := n }.arr := rfl
@[simp] theorem ins_s3 (x : Ins) (n : Int) : x.arr.setIfInBounds 3 (.int .i16 n) = { x with off := n }.arr := rfl
@[simp] theorem ins_s4 (x : Ins) (n : Int) : x.arr.setIfInBounds 4 (.int .i32 n) = { x with imm := n }.arr := rfl
theorem code_nil : codeArr [] = #[] := rfl
theorem code_size : ∀ xs : List Ins, (xs.flatMap fun x => x.arr.toList).length = xs.length * 5
  | [] => rfl
  | x :: r => by rw [List.flatMap_cons, List.length_append, code_size r]; simp [Ins.arr]; omega
@[simp] theorem codeArr_size (xs : List Ins) : (codeArr xs).size = xs.length * 5 := by simp only [codeArr, List.size_toArray, code_size]
theorem code_get : ∀ (xs : List Ins) (i j : Nat) (x : Ins), xs[i]? = some x → j < 5 → (xs.flatMap fun x => x.arr.toList)[i * 5 + j]? = x.arr[j]?
  | y :: r, 0, j, x, h, hj => by
    simp at h; subst h
    rw [List.flatMap_cons, List.getElem?_append_left (by simp [Ins.arr]; omega)]
    simp
  | y :: r, i + 1, j, x, h, hj => by
    rw [List.flatMap_cons, List.getElem?_append_right (by simp [Ins.arr]; omega), ← code_get r i j x (by simpa using h) hj]
    congr 1
    simp [Ins.arr]; omega
theorem code_row (xs : List Ins) (i : Nat) (x : Ins) (h : xs[i]? = some x) : (codeArr xs).extract (i * 5) (i * 5 + 5) = x.arr := by
  have hi := (List.getElem?_eq_some_iff.1 h).1
  apply Array.ext_getElem?
  intro j
  rw [Array.getElem?_extract]
  by_cases hj : j < 5
  · rw [if_pos (by rw [codeArr_size]; omega)]
    show (xs.flatMap fun x => x.arr.toList).toArray[i * 5 + j]? = _
    rw [List.getElem?_toArray, code_get xs i j x h hj]
  · rw [if_neg (by omega)]
    simp; omega
theorem code_setG (xs : List Ins) (i : Nat) (x : Ins) (h : i < xs.length) : setRow (codeArr xs) (i * 5) x.arr.toList = codeArr (xs.set i x) := by
  apply Array.ext_getElem?
  intro j
  rw [setRow_eq, codeArr_size, show x.arr.toList.length = 5 from rfl]
  by_cases hj : j < xs.length * 5
  · have hd : j / 5 < xs.length := by omega
    have e : j = j / 5 * 5 + j % 5 := by omega
    have hm : j % 5 < 5 := by omega
    have get : ∀ (ys : List Ins) (y : Ins), ys[j / 5]? = some y → (codeArr ys)[j]? = y.arr[j % 5]? := fun ys y hy => by
      show (ys.flatMap fun x => x.arr.toList).toArray[j]? = _
      rw [List.getElem?_toArray]
      conv => lhs; rw [e]
      exact code_get ys _ _ y hy hm
    by_cases hi : j / 5 = i
    · rw [if_pos (by omega), get _ x (by rw [hi]; simp [h])]
      simp only [Array.getElem?_toList]
      congr 1; omega
    · rw [if_neg (by omega), get xs _ (List.getElem?_eq_getElem hd), get (xs.set i x) xs[j / 5] (by rw [List.getElem?_set_ne (fun h => hi h.symm)]; exact List.getElem?_eq_getElem hd)]
  · rw [if_neg (by omega)]
    have e1 : (codeArr xs)[j]? = none := by simp; omega
    have e2 : (codeArr (xs.set i x))[j]? = none := by simp; omega
    rw [e1, e2]
@[simp] theorem code_set0 (xs : List Ins) (x : Ins) (h : 0 < xs.length) : setRow (codeArr xs) 0 x.arr.toList = codeArr (xs.set 0 x) := code_setG xs 0 x h
@[simp] theorem code_set1 (xs : List Ins) (x : Ins) (h : 1 < xs.length) : setRow (codeArr xs) 5 x.arr.toList = codeArr (xs.set 1 x) := code_setG xs 1 x h
@[simp] theorem code_set2 (xs : List Ins) (x : Ins) (h : 2 < xs.length) : setRow (codeArr xs) 10 x.arr.toList = codeArr (xs.set 2 x) := code_setG xs 2 x h
@[simp] theorem code_set3 (xs : List Ins) (x : Ins) (h : 3 < xs.length) : setRow (codeArr xs) 15 x.arr.toList = codeArr (xs.set 3 x) := code_setG xs 3 x h
@[simp] theorem code_set4 (xs : List Ins) (x : Ins) (h : 4 < xs.length) : setRow (codeArr xs) 20 x.arr.toList = codeArr (xs.set 4 x) := code_setG xs 4 x h
@[simp] theorem code_set5 (xs : List Ins) (x : Ins) (h : 5 < xs.length) : setRow (codeArr xs) 25 x.arr.toList = codeArr (xs.set 5 x) := code_setG xs 5 x h
@[simp] theorem code_set6 (xs : List Ins) (x : Ins) (h : 6 < xs.length) : setRow (codeArr xs) 30 x.arr.toList = codeArr (xs.set 6 x) := code_setG xs 6 x h
@[simp] theorem code_set7 (xs : List Ins) (x : Ins) (h : 7 < xs.length) : setRow (codeArr xs) 35 x.arr.toList = codeArr (xs.set 7 x) := code_setG xs 7 x h
@[simp] theorem code_set8 (xs : List Ins) (x : Ins) (h : 8 < xs.length) : setRow (codeArr xs) 40 x.arr.toList = codeArr (xs.set 8 x) := code_setG xs 8 x h
@[simp] theorem code_set9 (xs : List Ins) (x : Ins) (h : 9 < xs.length) : setRow (codeArr xs) 45 x.arr.toList = codeArr (xs.set 9 x) := code_setG xs 9 x h
@[simp] theorem code_set10 (xs : List Ins) (x : Ins) (h : 10 < xs.length) : setRow (codeArr xs) 50 x.arr.toList = codeArr (xs.set 10 x) := code_setG xs 10 x h
@[simp] theorem code_set11 (xs : List Ins) (x : Ins) (h : 11 < xs.length) : setRow (codeArr xs) 55 x.arr.toList = codeArr (xs.set 11 x) := code_setG xs 11 x h
theorem code_of {w : World} {S : Nat → Prop} {q n c : Nat} {xs : List Ins} {T : TypeId} {fz : Nat × Nat} (h : w.heap[q]? = some (.cells (codeArr xs) T fz)) (hn : n = xs.length) (hl : xs.length < 4611686018427387904) (hS : ¬ S q) : Code w S (.slice (some ⟨q, 0, none⟩) n c) xs := by
  subst hn
  refine ⟨q, 0, c, rfl, hl, hS, fun i x hx => ?_⟩
  have hi := (List.getElem?_eq_some_iff.1 hx).1
  rw [Nat.zero_add, wrow_of h (by rw [codeArr_size]; omega), code_row xs i x hx]
def codeOkB (xs : List Ins) : Bool := xs.all fun x => decide (x.op < 256) && (decide ((partsOf x.op).kind ≠ 9) || decide (x.src ≠ 0))
theorem codeOk_of {xs : List Ins} (h : codeOkB xs = true) : CodeOk xs := fun x hx => by
  have := List.all_eq_true.1 h x hx
  simp at this
  exact ⟨this.1, fun hk => this.2.resolve_left (fun h => h hk)⟩

/-! Worlds. -/
theorem world_ext {cs : Array Value} {ctx : Nat → Int} {maps : Value} {clock : Int} {random : Value} {fuel : Int} (hs : cs.size = 36)
    (h : ∀ i, i < 36 → cs[i]? = some (if i < 32 then .int .u8 (ctx i) else if i = 32 then maps else if i = 33 then .int .u64 clock else if i = 34 then random else .int .i64 fuel)) : cs = WorldArr ctx maps clock random fuel := by
  apply Array.ext_getElem?
  intro j
  by_cases hj : j < 36
  · rw [h j hj, world_at _ _ _ _ _ _ hj]
  · have e1 : cs[j]? = none := by simp; omega
    have e2 : (WorldArr ctx maps clock random fuel)[j]? = none := by simp; omega
    rw [e1, e2]
section
variable (ctx : Nat → Int) (maps : Value) (clock : Int) (random : Value) (fuel : Int)
@[simp] theorem world_s35 (n : Int) : (WorldArr ctx maps clock random fuel).setIfInBounds 35 (.int .i64 n) = WorldArr ctx maps clock random n := by
  refine world_ext (by simp) fun i hi => ?_
  rw [Array.getElem?_setIfInBounds, world_size]
  by_cases h : 35 = i
  · subst h; rfl
  · rw [if_neg h, world_at _ _ _ _ _ _ hi]
    by_cases h1 : i < 32
    · rw [if_pos h1, if_pos h1]
    · have : i = 32 ∨ i = 33 ∨ i = 34 := by omega
      rcases this with rfl | rfl | rfl <;> rfl
@[simp] theorem world_s33 (n : Int) : (WorldArr ctx maps clock random fuel).setIfInBounds 33 (.int .u64 n) = WorldArr ctx maps n random fuel := by
  refine world_ext (by simp) fun i hi => ?_
  rw [Array.getElem?_setIfInBounds, world_size]
  by_cases h : 33 = i
  · subst h; rfl
  · rw [if_neg h, world_at _ _ _ _ _ _ hi]
    by_cases h1 : i < 32
    · rw [if_pos h1, if_pos h1]
    · have : i = 32 ∨ i = 34 ∨ i = 35 := by omega
      rcases this with rfl | rfl | rfl <;> rfl
@[simp] theorem world_s34 (v : Value) : (WorldArr ctx maps clock random fuel).setIfInBounds 34 v = WorldArr ctx maps clock v fuel := by
  refine world_ext (by simp) fun i hi => ?_
  rw [Array.getElem?_setIfInBounds, world_size]
  by_cases h : 34 = i
  · subst h; rfl
  · rw [if_neg h, world_at _ _ _ _ _ _ hi]
    by_cases h1 : i < 32
    · rw [if_pos h1, if_pos h1]
    · have : i = 32 ∨ i = 33 ∨ i = 35 := by omega
      rcases this with rfl | rfl | rfl <;> rfl
theorem world_s0 {cs : Array Value} {c : Nat → Int} (hs : cs.size = 32) (hc : ∀ i, i < 32 → cs[i]? = some (.int .u8 (c i))) : setRow (WorldArr ctx maps clock random fuel) 0 cs.toList = WorldArr c maps clock random fuel := by
  refine world_ext (by simp [Go.Eng.setRow_size]) fun i hi => ?_
  rw [setRow_eq, world_size]
  by_cases h : i < 32
  · rw [if_pos (by simp; omega), if_pos h, Nat.sub_zero, Array.getElem?_toList, hc i h]
  · rw [if_neg (by simp; omega), world_at _ _ _ _ _ _ hi, if_neg h, if_neg h]
end
@[simp] theorem zero_world : zeroWorld = WorldArr (fun _ => 0) (.slice none 0 0) 0 (.slice none 0 0) 0 := rfl

/-- A run whose end is known. -/
theorem run_law {l random : Value} {xs : List Ins} {ctx : Nat → Int} {clock : Int} {us : List Int} {fuel v p n e : Int} {w : World} (hc : Code w (fun i => w.heap.size ≤ i) l xs) (hok : codeOkB xs = true)
    (hu : Luck w (fun i => w.heap.size ≤ i) random us) (hctx : ∀ i, 0 ≤ ctx i ∧ ctx i ≤ 255) (hclk : 0 ≤ clock) (hus : ∀ n ∈ us, 0 ≤ n) (hf : fuel ≤ 9223372036854775807) (hr : ∀ maps, runOf xs ctx clock us fuel maps = (v, p, n, e)) :
    Ret Try.prog 22 [l, .agg (WorldArr ctx (.slice none 0 0) clock random fuel)] w fun r w' => r = .agg (Res v p n e) ∧ Kept none' w w' :=
  (run_ret l xs ctx clock random us fuel w hc (codeOk_of hok) hu hctx hclk hus hf).mono fun r w' ⟨hk, maps, hv⟩ => by
    rw [hr maps] at hv
    exact ⟨hv, hk⟩
theorem luck_none (w : World) (S : Nat → Prop) : Luck w S (.slice none 0 0) [] := ⟨none, 0, rfl, by simp, .inl rfl⟩
theorem run_plain {q n' c : Nat} {T : TypeId} {fz : Nat × Nat} {xs : List Ins} {fuel v p n e : Int} {w : World} (h : w.heap[q]? = some (.cells (codeArr xs) T fz)) (hn : n' = xs.length) (hl : xs.length < 100) (hok : codeOkB xs = true)
    (hf : fuel ≤ 9223372036854775807) (hr : ∀ maps, runOf xs (fun _ => 0) 0 [] fuel maps = (v, p, n, e)) :
    Ret Try.prog 22 [.slice (some ⟨q, 0, none⟩) n' c, .agg (WorldArr (fun _ => 0) (.slice none 0 0) 0 (.slice none 0 0) fuel)] w fun r w' => r = .agg (Res v p n e) ∧ Kept none' w w' :=
  run_law (code_of h hn (by omega) (by have := blk_lt h; omega)) hok (luck_none _ _) (fun _ => by omega) (by omega) (fun _ h => by cases h) hf hr

/-! The laws' own try. -/
@[simp] theorem eqv_res (w : World) (a b c d : Int) : eqv w (.cons 0 none .int (.cons 1 none .int (.cons 2 none .int (.cons 3 none .int .nil)))) (.agg (Res a b c d)) (.agg (Res a b c d)) = some true := by
  rw [eqv_cons _ _ _ _ _ _ _ (.int .u64 a) (.int .u64 a) true true rfl rfl (by simp)]
  · rfl
  rw [eqv_cons _ _ _ _ _ _ _ (.int .i64 b) (.int .i64 b) true true rfl rfl (by simp)]
  · rfl
  rw [eqv_cons _ _ _ _ _ _ _ (.int .i64 c) (.int .i64 c) true true rfl rfl (by simp)]
  · rfl
  rw [eqv_cons _ _ _ _ _ _ _ (.int .i64 d) (.int .i64 d) true true rfl rfl (by simp)]
  · rfl
  rfl
theorem res_row {w : World} {b : Nat} {v p n e : Int} {T : TypeId} {fz : Nat × Nat} (h : w.heap[b]? = some (.cells (Res v p n e) T fz)) : wrow w b 0 4 = some (Res v p n e) := wrow_box h rfl
def tryCode (by' : Int) : List Ins := [⟨183, 0, 0, 0, by'⟩, ⟨149, 0, 0, 0, 0⟩]
theorem try_a (maps : Value) : runOf (tryCode 7) (fun _ => 0) 0 [] 2 maps = (7, 1, 2, 0) := rfl
theorem try_b (maps : Value) : runOf (tryCode 7) (fun _ => 0) 0 [] 1 maps = (0, 1, 1, 62) := rfl
end Go.Proofs.Ytepbpapbkonhnaa
