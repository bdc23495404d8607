/- Sorting of rows of numbers: less, insertion. -/
import Derived.Test.YtkgpmjjleemdlaaGreatSo1
import Derived.Test.YtkgpmjjleemdlaaGreatCmdsSoj
import Derived.Test.YtkgpmjjleemdlaaGreatRow1
set_option linter.unusedSimpArgs false
set_option linter.unusedVariables false
set_option maxRecDepth 8000
namespace Go.Proofs.YtkgpmjjleemdlaaGreat
open Go.Eng Go.Sort

abbrev A32 (w : World) (g c : Nat) (d : Array Int) : Prop := ArrAt 21 .i32 w g c d
attribute [local irreducible] Go.Eng.W
theorem swp_len (d : Array Int) (i j : Nat) : (swp d i j).size = d.size := swp_size d i j
theorem i64_pred {j : Nat} (h : 0 < j) (h2 : j ≤ 1000000) : IntKind.i64.wrap ((j : Int) - 1) = ((j - 1 : Nat) : Int) := by rw [i64w (by omega) (by omega)]; omega
theorem i64_succ {j : Nat} (h2 : j ≤ 1000000) : IntKind.i64.wrap ((j : Int) + 1) = ((j + 1 : Nat) : Int) := by rw [i64w (by omega) (by omega)]; omega
theorem insOuter_eq (a b i : Nat) (d : Array Int) : insOuter ltInt a b i d = if i < b then insOuter ltInt a b (i + 1) (insInner ltInt a i d) else d := by rw [insOuter]
end Go.Proofs.YtkgpmjjleemdlaaGreat
namespace Go.Proofs.YtkgpmjjleemdlaaGreat
open Go.Eng Go.Sort
attribute [local irreducible] Go.Eng.W

theorem nat_add (a b : Nat) (h : a + b ≤ 1000000) : IntKind.i64.wrap ((a : Int) + (b : Int)) = ((a + b : Nat) : Int) := by rw [i64w (by omega) (by omega)]; omega
theorem nat_sub (a b : Nat) (h : b ≤ a) (h2 : a ≤ 1000000) : IntKind.i64.wrap ((a : Int) - (b : Int)) = ((a - b : Nat) : Int) := by rw [i64w (by omega) (by omega)]; omega
theorem nat_dbl (a : Nat) (h : a ≤ 1000000) : IntKind.i64.wrap (2 * (a : Int)) = ((2 * a : Nat) : Int) := by rw [i64w (by omega) (by omega)]; omega
theorem lt_nat (a b : Nat) : decide ((a : Int) < (b : Int)) = decide (a < b) := by
  by_cases h : a < b
  · rw [decide_eq_true h, decide_eq_true (by omega)]
  · rw [decide_eq_false h, decide_eq_false (by omega)]
theorem le_nat (a b : Nat) : decide ((a : Int) ≤ (b : Int)) = decide (a ≤ b) := by
  by_cases h : a ≤ b
  · rw [decide_eq_true h, decide_eq_true (by omega)]
  · rw [decide_eq_false h, decide_eq_false (by omega)]
/-- One way down. -/
theorem sift_step (hi f r : Nat) (d : Array Int) (h : 2 * r + 1 < hi) (c : Nat) (hc : c = if 2 * r + 1 + 1 < hi ∧ ltInt d[f + (2 * r + 1)]! d[f + (2 * r + 1) + 1]! = true then 2 * r + 2 else 2 * r + 1) :
    siftDown ltInt hi f r d = if ltInt d[f + r]! d[f + c]! = true then siftDown ltInt hi f c (swp d (f + r) (f + c)) else d := by
  rw [siftDown, dif_neg (by omega)]
  by_cases h1 : 2 * r + 1 + 1 < hi ∧ ltInt d[f + (2 * r + 1)]! d[f + (2 * r + 1) + 1]! = true
  · rw [if_pos h1] at hc
    subst hc
    rw [if_pos (by simp only [Bool.and_eq_true, decide_eq_true_eq]; exact h1)]
    cases hl : ltInt d[f + r]! d[f + (2 * r + 2)]! with
    | true => rw [if_neg (by simp), dif_pos (by omega), if_pos rfl]
    | false => rw [if_pos (by simp), if_neg (by simp)]
  · rw [if_neg h1] at hc
    subst hc
    rw [if_neg (by simp only [Bool.and_eq_true, decide_eq_true_eq]; exact h1)]
    cases hl : ltInt d[f + r]! d[f + (2 * r + 1)]! with
    | true => rw [if_neg (by simp), if_pos rfl]
    | false => rw [if_pos (by simp), if_neg (by simp)]
theorem sift_end (hi f r : Nat) (d : Array Int) (h : ¬ 2 * r + 1 < hi) : siftDown ltInt hi f r d = d := by rw [siftDown, dif_pos (by omega)]
def sucAt (env : List Value) (i : Nat) : Nat := match env[i]? with
  | some (.int _ n) => (n + 1).toNat
  | _ => 0
theorem tdiv2 (n : Nat) : (n : Int).tdiv 2 = ((n / 2 : Nat) : Int) := by rw [Int.tdiv_eq_ediv_of_nonneg (by omega)]; rfl
theorem reverseLoop_eq (i j : Nat) (d : Array Int) : reverseLoop i j d = if i < j then reverseLoop (i + 1) (j - 1) (swp d i j) else d := by rw [reverseLoop]
end Go.Proofs.YtkgpmjjleemdlaaGreat
namespace Go.Proofs.YtkgpmjjleemdlaaGreat
open Go.Eng Go.Sort
attribute [local irreducible] Go.Eng.W

theorem keptS {S S' : Nat → Prop} {a b c : World} (h : Kept S a b) (k : Kept S' b c) (hs : ∀ i, i < a.heap.size → S' i → S i) : Kept S a c :=
  ⟨k.os.trans h.os, k.tape.trans h.tape, k.output.trans h.output, Nat.le_trans h.size k.size, fun i hi hn => (k.block i (Nat.lt_of_lt_of_le hi h.size) fun hk => hn (hs i hi hk)).trans (h.block i hi hn)⟩
/-- So many rounds. -/
def brk (a n m idx : Nat) (d : Array Int) : Nat → UInt64 × Array Int
  | 0 => (UInt64.ofNat n, d)
  | i + 1 => breakStep a n m (brk a n m idx d i) (idx + i)
theorem brk_three (d : Array Int) (a b : Nat) (h : 8 ≤ b - a) : breakPatterns d a b = (brk a (b - a) (1 <<< bitsLen (b - a)) (a + (b - a) / 4 * 2 - 1) d 3).2 := by
  unfold breakPatterns
  rw [if_pos h]
  rfl
theorem tdiv4 (n : Nat) : (n : Int).tdiv 4 = ((n / 4 : Nat) : Int) := by rw [Int.tdiv_eq_ediv_of_nonneg (by omega)]; rfl
theorem tdiv8 (n : Nat) : (n : Int).tdiv 8 = ((n / 8 : Nat) : Int) := by rw [Int.tdiv_eq_ediv_of_nonneg (by omega)]; rfl
theorem i64n (n : Nat) (h : n ≤ 9000000000) : IntKind.i64.wrap (n : Int) = n := i64w (by omega) (by omega)
abbrev CntAt (w : World) (s n : Nat) : Prop := w.heap[s]? = some (.cells #[.int .i64 (n : Int)] 3 (0, 0))
theorem cnt_put {w : World} {s n : Nat} (h : CntAt w s n) (m : Nat) : ∃ w', stv w 1 (.pointer (some ⟨s, 0, none⟩)) (.int .i64 (m : Int)) = some w' ∧ CntAt w' s m ∧ Kept (fun j => j = s) w w' :=
  ⟨_, box_store (n := 1) (v := .int .i64 (m : Int)) h rfl rfl (by simp [Value.cells, Value.oneCell']), put_same (blk_lt h), (Kept.refl (fun j => j = s) w).put (b := s) (fun _ => rfl) _⟩
theorem order2_lt (d : Array Int) {a b n N : Nat} (ha : a < N) (hb : b < N) : (order2 ltInt d a b n).1 < N ∧ (order2 ltInt d a b n).2.1 < N ∧ (order2 ltInt d a b n).2.2 ≤ n + 1 := by
  unfold order2
  split
  · exact ⟨hb, ha, Nat.le_refl _⟩
  · exact ⟨ha, hb, Nat.le_succ _⟩
theorem median_lt (d : Array Int) {a b e n N : Nat} (ha : a < N) (hb : b < N) (he : e < N) : (median ltInt d a b e n).1 < N ∧ (median ltInt d a b e n).2 ≤ n + 3 := by
  unfold median
  obtain ⟨q1, q2, q3⟩ := order2_lt d (n := n) ha hb
  obtain ⟨p1, p2, p3⟩ := order2_lt d (n := (order2 ltInt d a b n).2.2) q2 he
  obtain ⟨r1, r2, r3⟩ := order2_lt d (n := (order2 ltInt d (order2 ltInt d a b n).2.1 e (order2 ltInt d a b n).2.2).2.2) q1 p1
  exact ⟨r2, by simp only; omega⟩
def hintN : Hint → Int
  | .unknown => 0
  | .increasing => 1
  | .decreasing => 2
end Go.Proofs.YtkgpmjjleemdlaaGreat
namespace Go.Proofs.YtkgpmjjleemdlaaGreat
open Go.Eng Go.Sort
attribute [local irreducible] Go.Eng.W

/-- Alike; it isn't put in. -/
def SameA (x y : Array Int) : Prop := x = y
theorem scanSorted_eq (d : Array Int) (b i : Nat) : scanSorted ltInt d b i = if i < b && !ltInt d[i]! d[i - 1]! then scanSorted ltInt d b (i + 1) else i := by rw [scanSorted]
theorem scanSorted_le (d : Array Int) (b : Nat) : ∀ n i, b - i ≤ n → i ≤ b → i ≤ scanSorted ltInt d b i ∧ scanSorted ltInt d b i ≤ b := by
  intro n
  induction n with
  | zero =>
    intro i h1 h2
    rw [scanSorted_eq, if_neg (by simp; omega)]
    omega
  | succ n ih =>
    intro i h1 h2
    rw [scanSorted_eq]
    split
    · rename_i h
      simp at h
      have := ih (i + 1) (by omega) (by omega)
      omega
    · omega
theorem shiftUp_eq (b j : Nat) (d : Array Int) : shiftUp ltInt b j d = if j < b then (if !ltInt d[j]! d[j - 1]! then d else shiftUp ltInt b (j + 1) (swp d j (j - 1))) else d := by rw [shiftUp]
theorem partialIns_next (a b s i : Nat) (d : Array Int) : partialIns ltInt a b (s + 1) i d =
    if scanSorted ltInt d b i = b then (d, true) else if b - a < 50 then (d, false) else
      partialIns ltInt a b s (scanSorted ltInt d b i) (if b - scanSorted ltInt d b i ≥ 2 then shiftUp ltInt b (scanSorted ltInt d b i + 1) (if scanSorted ltInt d b i - a ≥ 2 then shiftDown ltInt (scanSorted ltInt d b i - 1) (swp d (scanSorted ltInt d b i) (scanSorted ltInt d b i - 1)) else swp d (scanSorted ltInt d b i) (scanSorted ltInt d b i - 1))
        else (if scanSorted ltInt d b i - a ≥ 2 then shiftDown ltInt (scanSorted ltInt d b i - 1) (swp d (scanSorted ltInt d b i) (scanSorted ltInt d b i - 1)) else swp d (scanSorted ltInt d b i) (scanSorted ltInt d b i - 1))) := by
  rw [partialIns]
end Go.Proofs.YtkgpmjjleemdlaaGreat
namespace Go.Proofs.YtkgpmjjleemdlaaGreat
open Go.Eng Go.Sort
attribute [local irreducible] Go.Eng.W

theorem scanUp_eq (p : Int → Bool) (d : Array Int) (j i : Nat) : scanUp p d j i = if i ≤ j && p d[i]! then scanUp p d j (i + 1) else i := by rw [scanUp]
theorem scanDown_succ (p : Int → Bool) (d : Array Int) (i j : Nat) : scanDown p d i (j + 1) = if i ≤ j + 1 && p d[j + 1]! then scanDown p d i j else j + 1 := rfl
/-- What a round finds. -/
theorem round_lt (p q : Int → Bool) (hq : ∀ x, q x = !p x) (d : Array Int) (i j : Nat) (hi : 0 < i) (hij : i ≤ j + 1) :
    i ≤ scanUp p d j i ∧ scanUp p d j i ≤ j + 1 ∧ scanDown q d (scanUp p d j i) j ≤ j ∧ scanUp p d j i ≤ scanDown q d (scanUp p d j i) j + 1 ∧
    (¬ scanUp p d j i > scanDown q d (scanUp p d j i) j → scanUp p d j i < scanDown q d (scanUp p d j i) j) := by
  obtain ⟨r1, r2, r3, r4, _, _, r7⟩ := round_facts p q hq d (i - 1) (j + 1) i j (by omega) hij (fun t h1 h2 => by omega) (fun t h1 h2 => by omega)
  exact ⟨r1, r2, r3, r4, fun h => (r7 h).2.2⟩
end Go.Proofs.YtkgpmjjleemdlaaGreat
namespace Go.Proofs.YtkgpmjjleemdlaaGreat
open Go.Eng Go.Sort
attribute [local irreducible] Go.Eng.W

def pdqC (d3 : Array Int) (a b lim pv : Nat) (wb wp : Bool) : Array Int :=
  if a > 0 && !ltInt d3[a - 1]! d3[pv]! then
    (if _h : a < (partitionEqual ltInt d3 a b pv).1 ∧ (partitionEqual ltInt d3 a b pv).1 ≤ b then pdq ltInt (partitionEqual ltInt d3 a b pv).2 (partitionEqual ltInt d3 a b pv).1 b lim wb wp else (partitionEqual ltInt d3 a b pv).2)
  else
    (if _h : a ≤ (partition ltInt d3 a b pv).1 ∧ (partition ltInt d3 a b pv).1 < b then
      (if (partition ltInt d3 a b pv).1 - a < b - (partition ltInt d3 a b pv).1 then
        pdq ltInt (pdq ltInt (partition ltInt d3 a b pv).2.2 a (partition ltInt d3 a b pv).1 lim true true) ((partition ltInt d3 a b pv).1 + 1) b lim (decide ((partition ltInt d3 a b pv).1 - a ≥ (b - a) / 8)) (partition ltInt d3 a b pv).2.1
      else
        pdq ltInt (pdq ltInt (partition ltInt d3 a b pv).2.2 ((partition ltInt d3 a b pv).1 + 1) b lim true true) a (partition ltInt d3 a b pv).1 lim (decide (b - (partition ltInt d3 a b pv).1 ≥ (b - a) / 8)) (partition ltInt d3 a b pv).2.1)
    else (partition ltInt d3 a b pv).2.2)
def pdqB (d2 : Array Int) (a b lim pv : Nat) (hint : Hint) (wb wp : Bool) : Array Int :=
  if (if wb && wp && hint = .increasing then partialInsertionSort ltInt d2 a b else (d2, false)).2 then (if wb && wp && hint = .increasing then partialInsertionSort ltInt d2 a b else (d2, false)).1
  else pdqC (if wb && wp && hint = .increasing then partialInsertionSort ltInt d2 a b else (d2, false)).1 a b lim pv wb wp
def pdqA (d1 : Array Int) (a b lim : Nat) (wb wp : Bool) : Array Int :=
  pdqB (if (choosePivot ltInt d1 a b).2 = .decreasing then reverseRange d1 a b else d1) a b lim (if (choosePivot ltInt d1 a b).2 = .decreasing then (b - 1) - ((choosePivot ltInt d1 a b).1 - a) else (choosePivot ltInt d1 a b).1)
    (if (choosePivot ltInt d1 a b).2 = .decreasing then Hint.increasing else (choosePivot ltInt d1 a b).2) wb wp
theorem pdq_step {d : Array Int} {a b lim : Nat} {wb wp : Bool} (h12 : ¬ b - a ≤ 12) (hl : ¬ lim = 0) : pdq ltInt d a b lim wb wp = pdqA (if !wb then breakPatterns d a b else d) a b (if !wb then lim - 1 else lim) wb wp := by
  rw [pdq, if_neg h12, if_neg hl]
  unfold pdqA pdqB pdqC
  rfl
theorem pdq_small {d : Array Int} {a b lim : Nat} {wb wp : Bool} (h12 : b - a ≤ 12) : pdq ltInt d a b lim wb wp = insertionSort ltInt d a b := by rw [pdq, if_pos h12]
theorem pdq_heap {d : Array Int} {a b lim : Nat} {wb wp : Bool} (h12 : ¬ b - a ≤ 12) (hl : lim = 0) : pdq ltInt d a b lim wb wp = heapSort ltInt d a b := by rw [pdq, if_neg h12, if_pos hl]
theorem equal_range (d : Array Int) {a b p : Nat} (hap : a ≤ p) (hpb : p < b) (hb : b ≤ d.size) : a < (partitionEqual ltInt d a b p).1 ∧ (partitionEqual ltInt d a b p).1 ≤ b := by
  have key : ∀ (n i j : Nat) (d : Array Int), j + 1 - i ≤ n → a < i → i ≤ j + 1 → j < b → a < (partEqLoop ltInt a i j d).1 ∧ (partEqLoop ltInt a i j d).1 ≤ b := by
    intro n
    induction n with
    | zero =>
      intro i j d hn hai hij hjb
      obtain ⟨r1, r2, r3, r4, r5⟩ := round_lt (fun x => !ltInt d[a]! x) (fun x => ltInt d[a]! x) (fun x => by simp) d i j (by omega) hij
      rw [partEqLoop_eq, if_pos (by omega)]
      exact ⟨by simp only; omega, by simp only; omega⟩
    | succ n ih =>
      intro i j d hn hai hij hjb
      obtain ⟨r1, r2, r3, r4, r5⟩ := round_lt (fun x => !ltInt d[a]! x) (fun x => ltInt d[a]! x) (fun x => by simp) d i j (by omega) hij
      rw [partEqLoop_eq]
      split
      · exact ⟨by simp only; omega, by simp only; omega⟩
      · rename_i hg
        have := r5 hg
        exact ih _ _ _ (by omega) (by omega) (by omega) (by omega)
  unfold partitionEqual
  exact key _ _ _ _ (Nat.le_refl _) (by omega) (by omega) (by omega)
theorem part_range (d : Array Int) {a b p : Nat} (hap : a ≤ p) (hpb : p < b) (hb : b ≤ d.size) : a ≤ (partition ltInt d a b p).1 ∧ (partition ltInt d a b p).1 < b := by
  obtain ⟨h1, h2, _⟩ := partition_holds ltInt swo_ltInt d a b p hap hpb hb
  exact ⟨h1, h2⟩
structure PdqI (g c a b lim : Nat) (d : Array Int) (w : World) (env : Env) (w' : World) : Prop where
  ex : ∃ (a1 b1 l1 : Nat) (wb wp : Bool) (d' : Array Int), Kept (fun i => i = g) w w' ∧ A32 w' g c d' ∧ d'.size = d.size ∧ pdq ltInt d' a1 b1 l1 wb wp = pdq ltInt d a b lim true true ∧ a1 ≤ b1 ∧ b1 ≤ d.size ∧ b1 - a1 ≤ b - a ∧ l1 ≤ 1000 ∧
    env = [.slice (some ⟨g, 0, none⟩) d'.size c, .int .i64 (a1 : Nat), .int .i64 (b1 : Nat), .int .i64 (l1 : Nat), .bool wb, .bool wp, undef, undef, undef, undef, undef, undef, undef, undef, undef, undef, undef, undef, undef, undef]
end Go.Proofs.YtkgpmjjleemdlaaGreat
namespace Go.Eng
theorem ArrAt.clear {P : Program} {t ty T : TypeId} {k : IntKind} {w : World} {g c : Nat} {d : Array Int} (ht : P.underlying t = some (.slice T)) (hz : (P.info? T).bind (·.zero) = some (.int k 0)) (h : ArrAt T k w g c d) {j : Nat} (hj : j < d.size) (c' : Nat) :
    ∃ (w' : World) (d' : Array Int), (builtin .clear #[t] ty #[] #[.slice (some ⟨g, j, none⟩) (d.size - j) c']).run P w = .ok (.value (.tuple #[])) w' ∧ ArrAt T k w' g c d' ∧ d'.size = d.size ∧ d'.toList.take j = d.toList.take j ∧ Kept (fun i => i = g) w w' := by
  obtain ⟨i, hi, hiz⟩ : ∃ i, P.info? T = some i ∧ i.zero = some (.int k 0) := by
    cases e : P.info? T with
    | none => rw [e] at hz; cases hz
    | some i => rw [e] at hz; exact ⟨i, rfl, hz⟩
  have hzero : ∀ w, (zeroValue T).run P w = .ok (.int k 0) w := fun w => by simp [zeroValue, run_info hi, hiz]
  unfold ArrAt at h
  rcases h.2 with ⟨h0, _⟩ | ⟨g', cap, cur, e, hb, h2, h3, h4, h5, h6⟩
  · cases h0
  cases e
  have hn : d.size ≤ c := h3
  have hcs : cur.size = c * 1 := h5
  have hlen : (List.replicate (d.size - j) (Value.int k 0)).length = d.size - j := by simp
  have hst := run_storeCells (P := P) (b := g) (T := T) (fz := (0, 0)) j (List.replicate (d.size - j) (Value.int k 0)) 0 cur w h2 (by rw [hlen]; omega) (.inl (by simp)) (fun v hv => by rw [List.eq_of_mem_replicate hv]; rfl)
  refine ⟨Go.Eng.put w g (.cells (setRow cur j (List.replicate (d.size - j) (Value.int k 0))) T (0, 0)), (d.toList.take j ++ List.replicate (d.size - j) 0).toArray, ?_, ?_, ?_, ?_, (Kept.refl (fun i => i = g) w).put (b := g) (fun _ => rfl) _⟩
  · have hzc : (Builtin.zeroCells (Value.int k 0).cells (d.size - j)).toList = List.replicate (d.size - j) (Value.int k 0) := by
      show (Builtin.zeroCells #[Value.int k 0] (d.size - j)).toList = _
      simp [Builtin.zeroCells]
      apply List.ext_getElem
      · simp
      · intro i h1 h2
        simp [Nat.mod_one]
    obtain ⟨m, hm⟩ : ∃ m, d.size - j = m + 1 := ⟨d.size - j - 1, by omega⟩
    rw [hm] at hzc hst ⊢
    change (Builtin.zeroCells #[Value.int k 0] (m + 1)).toList = _ at hzc
    simp [builtin, Builtin.clear_, run_underlying ht, hzero, hzc, hst]
    rfl
  · unfold ArrAt
    have hsz : ((d.toList.take j ++ List.replicate (d.size - j) 0).toArray : Array Int).size = d.size := by simp [List.length_take]; omega
    rw [hsz]
    refine ⟨by simp [numC, List.length_take]; omega, .inr ⟨g, c, _, rfl, hb, put_same (blk_lt h2), h3, h4, by rw [setRow_size]; exact h5, ?_⟩⟩
    apply List.ext_getElem?
    intro q
    rw [List.getElem?_take]
    have h6q : ∀ q, q < d.size → cur.toList[q]? = (numC k d)[q]? := fun q hq => by
      rw [← h6, List.getElem?_take, if_pos (by omega)]
    by_cases hq : q < d.size * 1
    · rw [if_pos hq, Array.getElem?_toList, setRow_eq]
      simp only [numC, List.map_append, List.map_take, List.map_replicate, hlen]
      by_cases hqj : q < j
      · rw [if_neg (by omega), List.getElem?_append_left (by simp [List.length_take]; omega), List.getElem?_take, if_pos hqj]
        have := h6q q (by omega)
        rw [Array.getElem?_toList] at this
        exact this
      · rw [if_pos (by omega), List.getElem?_append_right (by simp [List.length_take]; omega)]
        have e : ((d.toList.map (Value.int k)).take j).length = j := by simp [List.length_take]; omega
        rw [e]
    · rw [if_neg hq]
      symm
      rw [List.getElem?_eq_none]
      simp [numC, List.length_take]; omega
  · simp [List.length_take]; omega
  · rw [List.toList_toArray, List.take_append_of_le_length (by simp [List.length_take]; omega), List.take_take, Nat.min_self]
end Go.Eng
namespace Go.Proofs.YtkgpmjjleemdlaaGreat
open Go.Eng Go.Sort
attribute [local irreducible] Go.Eng.W
theorem row_arr {T : TypeId} {k : IntKind} {w : World} {v : Value} {xs : List Int} (h : Row1 T w v (xs.map (Value.int k))) : v = .slice none 0 0 ∧ xs = [] ∨ ∃ g c, v = .slice (some ⟨g, 0, none⟩) xs.length c ∧ ArrAt T k w g c xs.toArray ∧ v.ownBlock = some g ∧ xs.length ≤ c := by
  rcases h.2 with ⟨rfl, h0⟩ | ⟨g, cap, cur, rfl, hb, h2, h3, h4, h5, h6⟩
  · left
    exact ⟨rfl, by simpa using h0⟩
  · right
    rw [List.length_map] at h3 h
    refine ⟨g, cap, by rw [List.length_map], ?_, rfl, h3⟩
    unfold ArrAt
    have e1 : (xs.toArray).size = xs.length := by simp
    have e2 : numC k xs.toArray = xs.map (Value.int k) := by simp [numC]
    rw [e1, e2]
    have e3 : (xs.map (Value.int k)).length = xs.length := by simp
    unfold Row1 at h
    rw [e3] at h
    exact h
theorem arr_row {T : TypeId} {k : IntKind} {w : World} {g c : Nat} {d : Array Int} (h : ArrAt T k w g c d) : Row1 T w (.slice (some ⟨g, 0, none⟩) d.size c) (d.toList.map (Value.int k)) := by
  unfold ArrAt at h
  have e : (d.toList.map (Value.int k)).length = d.size := by simp
  unfold Row1
  rw [e]
  exact h
/-- A row's beginning. -/
theorem arr_take {T : TypeId} {k : IntKind} {w : World} {g c : Nat} {d : Array Int} (h : ArrAt T k w g c d) (m : Nat) (hm : m ≤ d.size) : Row1 T w (.slice (some ⟨g, 0, none⟩) m c) ((d.toList.take m).map (Value.int k)) := by
  unfold ArrAt at h
  rcases h.2 with ⟨h0, _⟩ | ⟨g', cap, cur, e, hb, h2, h3, h4, h5, h6⟩
  · cases h0
  cases e
  have hl : ((d.toList.take m).map (Value.int k)).length = m := by simp [List.length_take]; omega
  unfold Row1
  rw [hl]
  refine ⟨by simp [List.length_take]; omega, .inr ⟨g, c, cur, rfl, hb, h2, by omega, h4, h5, ?_⟩⟩
  have : cur.toList.take (m * 1) = (cur.toList.take (d.size * 1)).take m := by rw [List.take_take, Nat.mul_one, Nat.mul_one, Nat.min_eq_left hm]
  rw [this, h6, ← List.map_take]
/-! Each once, where neighbours are alike. -/
def ddP (d : Array Int) : Nat → List Int
  | 0 => []
  | n + 1 => if 0 < n ∧ d[n]! = d[n - 1]! then ddP d n else ddP d n ++ [d[n]!]
theorem take_next (d : Array Int) {k : Nat} (hk : k < d.size) : d.toList.take (k + 1) = d.toList.take k ++ [d[k]!] := by
  rw [List.take_add_one]
  congr 1
  have : d.toList[k]? = some d[k]! := by simp [hk]
  rw [this]
  rfl
theorem get_set (d : Array Int) (k q : Nat) (x : Int) (hk : k < d.size) : (d.setIfInBounds k x)[q]! = if q = k then x else d[q]! := by
  by_cases h : q = k
  · subst h
    simp [hk]
  · rw [if_neg h]
    simp [Array.getElem!_eq_getD, Array.getD_getElem?, Array.getElem?_setIfInBounds, Ne.symm h]
theorem take_set (d : Array Int) (k : Nat) (x : Int) (hk : k < d.size) : (d.setIfInBounds k x).toList.take (k + 1) = d.toList.take k ++ [x] := by
  rw [take_next _ (by simpa using hk), get_set d k k x hk, if_pos rfl]
  congr 1
  rw [Array.toList_setIfInBounds, List.take_set_of_le (Nat.le_refl k)]
end Go.Proofs.YtkgpmjjleemdlaaGreat
