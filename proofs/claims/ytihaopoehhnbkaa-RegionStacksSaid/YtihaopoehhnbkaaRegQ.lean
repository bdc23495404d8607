/- Layer 19, part Q: the reference's stack as it lies in a block; its clear and its Save. -/
import Derived.Test.YtihaopoehhnbkaaRegP
set_option linter.unusedSimpArgs false
set_option linter.unusedVariables false
set_option maxRecDepth 8000
namespace Go.Proofs.Ytihaopoehhnbkaa
open Go.Eng

structure SMem where
  what : Nat → Int
  num : Nat → Int
  kept : Nat → Int

def SMem.at (s : SMem) (i : Nat) : Value := if i < 128 then (if i % 2 = 0 then .int .i64 (s.what (i / 2)) else .int .u8 (s.num (i / 2))) else .int .i64 (s.kept (i - 128))
def SMem.cells (s : SMem) : Array Value := Array.ofFn (n := 136) fun i => s.at i.val
def IsStk (w : World) (b : Nat) (s : SMem) : Prop := w.heap[b]? = some (.cells s.cells 53 (0, 0))

theorem smem_ext {s s' : SMem} (h1 : s.what = s'.what) (h2 : s.num = s'.num) (h3 : s.kept = s'.kept) : s = s' := by
  cases s; cases s'; simp_all

theorem stk_size (s : SMem) : s.cells.size = 136 := by simp [SMem.cells]
theorem stk_at (s : SMem) (i : Nat) (h : i < 136) : s.cells[i]? = some (s.at i) := by simp [SMem.cells, h]
theorem stk_what (s : SMem) (j : Nat) (h : j < 64) : s.cells[j * 2]? = some (.int .i64 (s.what j)) := by
  rw [stk_at s _ (by omega)]; unfold SMem.at; rw [if_pos (by omega), if_pos (by omega), show j * 2 / 2 = j from by omega]
theorem stk_num (s : SMem) (j : Nat) (h : j < 64) : s.cells[j * 2 + 1]? = some (.int .u8 (s.num j)) := by
  rw [stk_at s _ (by omega)]; unfold SMem.at; rw [if_pos (by omega), if_neg (by omega), show (j * 2 + 1) / 2 = j from by omega]
theorem stk_kept (s : SMem) (q : Nat) (h : q < 8) : s.cells[128 + q]? = some (.int .i64 (s.kept q)) := by
  rw [stk_at s _ (by omega)]; unfold SMem.at; rw [if_neg (by omega), show 128 + q - 128 = q from by omega]

theorem stk_set {s s' : SMem} {i : Nat} {v : Value} (hi : i < 136) (h1 : s'.at i = v) (h2 : ∀ j, j < 136 → j ≠ i → s'.at j = s.at j) : s.cells.setIfInBounds i v = s'.cells := by
  apply Array.ext_getElem?
  intro j
  rw [Array.getElem?_setIfInBounds]
  have hs := stk_size s
  by_cases hj : j < 136
  · rw [stk_at s' j hj]
    split
    · rename_i h; subst h; rw [if_pos (by omega), h1]
    · rename_i h; rw [stk_at s j hj, h2 j hj (fun e => h e.symm)]
  · have e1 : s.cells[j]? = none := by simp; omega
    have e2 : s'.cells[j]? = none := by simp [stk_size]; omega
    rw [e1, e2]
    split
    · omega
    · rfl

theorem set_what (s : SMem) (j : Nat) (x : Int) (h : j < 64) : s.cells.setIfInBounds (j * 2) (.int .i64 x) = { s with what := fset s.what j x }.cells := by
  refine stk_set (by omega) ?_ ?_
  · unfold SMem.at; rw [if_pos (by omega), if_pos (by omega), show j * 2 / 2 = j from by omega]; simp [fset]
  · intro i hi hne
    unfold SMem.at
    split
    · split
      · simp only []; rw [fset_other _ _ (by omega)]
      · rfl
    · rfl
theorem set_num (s : SMem) (j : Nat) (x : Int) (h : j < 64) : s.cells.setIfInBounds (j * 2 + 1) (.int .u8 x) = { s with num := fset s.num j x }.cells := by
  refine stk_set (by omega) ?_ ?_
  · unfold SMem.at; rw [if_pos (by omega), if_neg (by omega), show (j * 2 + 1) / 2 = j from by omega]; simp [fset]
  · intro i hi hne
    unfold SMem.at
    split
    · split
      · rfl
      · simp only []; rw [fset_other _ _ (by omega)]
    · rfl
theorem set_kept1 (s : SMem) (q : Nat) (x : Int) (h : q < 8) : s.cells.setIfInBounds (128 + q) (.int .i64 x) = { s with kept := fset s.kept q x }.cells := by
  refine stk_set (by omega) ?_ ?_
  · unfold SMem.at; rw [if_neg (by omega), show 128 + q - 128 = q from by omega]; simp [fset]
  · intro i hi hne
    unfold SMem.at
    split
    · split <;> rfl
    · simp only []; rw [fset_other _ _ (by omega)]

theorem isStk_put {w : World} {b : Nat} {s s' : SMem} {c : Array Value} (hm : IsStk w b s) (hc : c = s'.cells) : IsStk (put w b (.cells c 53 (0, 0))) b s' := by
  subst hc; exact put_same (blk_lt hm)
theorem isStk_kept {w w' : World} {b : Nat} {s : SMem} (hk : Kept none' w w') (hm : IsStk w b s) : IsStk w' b s := hk.has hm (fun h => h)

theorem store_byte {w : World} {b j : Nat} {s : SMem} (hm : IsStk w b s) (h : j < 64) (x y : Int) :
    stv w 2 (.pointer (some ⟨b, j * 2, none⟩)) (.agg #[.int .i64 x, .int .u8 y]) = some (put w b (.cells { s with what := fset s.what j x, num := fset s.num j y }.cells 53 (0, 0))) := by
  rw [stv_of (n := 2) (v := .agg #[.int .i64 x, .int .u8 y]) hm rfl (by rw [stk_size]; omega) (.inl (by simp)) (by simp [Value.oneCell'])]
  have e1 := set_what s j x h
  have e2 := set_num { s with what := fset s.what j x } j y h
  simp only [cells_agg, setRow_cons, setRow_nil]
  rw [e1, e2]
theorem store_what {w : World} {b j : Nat} {s : SMem} (hm : IsStk w b s) (h : j < 64) (x : Int) :
    stv w 1 (.pointer (some ⟨b, j * 2, none⟩)) (.int .i64 x) = some (put w b (.cells { s with what := fset s.what j x }.cells 53 (0, 0))) := by
  rw [stv_of (n := 1) (v := .int .i64 x) hm rfl (by rw [stk_size]; omega) (.inl (by simp)) (by simp [Value.oneCell'])]
  simp [set_what s j x h]
theorem store_kept1 {w : World} {b q : Nat} {s : SMem} (hm : IsStk w b s) (h : q < 8) (x : Int) :
    stv w 1 (.pointer (some ⟨b, 128 + q, none⟩)) (.int .i64 x) = some (put w b (.cells { s with kept := fset s.kept q x }.cells 53 (0, 0))) := by
  rw [stv_of (n := 1) (v := .int .i64 x) hm rfl (by rw [stk_size]; omega) (.inl (by simp)) (by simp [Value.oneCell'])]
  simp [set_kept1 s q x h]

def sclear (s : SMem) (f e : Nat) : SMem :=
  { what := fun j => if touched f e (j / 8) ∧ s.kept (j / 8) ≠ 0 then 0 else s.what j,
    num := fun j => if touched f e (j / 8) ∧ s.kept (j / 8) ≠ 0 then 0 else s.num j,
    kept := fun q => if touched f e q ∧ s.kept q ≠ 0 then 0 else s.kept q }

theorem sclear_self (s : SMem) (f : Nat) : sclear s f f = s := by
  have : ∀ k, ¬ touched f f k := fun k => by unfold touched; omega
  cases s
  simp [sclear, this]

theorem sclear_step0 (s : SMem) (f i : Nat) (h : f ≤ i) (h0 : (sclear s f i).kept (i / 8) = 0) : sclear s f (i + 1) = sclear s f i := by
  have key : ∀ k, (touched f (i + 1) k ∧ s.kept k ≠ 0) ↔ (touched f i k ∧ s.kept k ≠ 0) := by
    intro k
    rw [touched_succ f i k h]
    constructor
    · rintro ⟨h1 | h1, h2⟩
      · exact ⟨h1, h2⟩
      · subst h1
        simp only [sclear] at h0
        split at h0
        · rename_i h3; exact h3
        · exact absurd h0 h2
    · rintro ⟨h1, h2⟩; exact ⟨.inl h1, h2⟩
  unfold sclear
  simp only [key]

/-- Eight bytes of word k are nothing any more, the first j of them. -/
def sunw (s : SMem) (k j : Nat) : SMem := { s with what := fun q => if q / 8 = k ∧ q % 8 < j then 0 else s.what q, num := fun q => if q / 8 = k ∧ q % 8 < j then 0 else s.num q }
theorem sunw_zero (s : SMem) (k : Nat) : sunw s k 0 = s := by cases s; simp [sunw]
theorem sunw_step (s : SMem) (k j : Nat) (h : j < 8) : { sunw s k j with what := fset (sunw s k j).what (k * 8 + j) 0, num := fset (sunw s k j).num (k * 8 + j) 0 } = sunw s k (j + 1) := by
  refine smem_ext ?_ ?_ rfl
  all_goals
    funext q
    simp only [fset, sunw]
    split
    · rename_i hq; subst hq; rw [if_pos (by omega)]
    · rename_i hq
      by_cases h1 : q / 8 = k ∧ q % 8 < j
      · rw [if_pos h1, if_pos (by omega)]
      · rw [if_neg h1, if_neg (by omega)]

theorem sclear_step1 (s : SMem) (f i : Nat) (h : f ≤ i) (h1 : (sclear s f i).kept (i / 8) ≠ 0) :
    sclear s f (i + 1) = sunw { sclear s f i with kept := fset (sclear s f i).kept (i / 8) 0 } (i / 8) 8 := by
  have hn : ¬ (touched f i (i / 8) ∧ s.kept (i / 8) ≠ 0) := by
    intro hc
    apply h1
    simp only [sclear]
    rw [if_pos hc]
  have ht : s.kept (i / 8) ≠ 0 := by
    simp only [sclear] at h1
    rw [if_neg hn] at h1; exact h1
  refine smem_ext ?_ ?_ ?_
  · funext q
    simp only [sclear, sunw]
    by_cases hq : q / 8 = i / 8
    · rw [hq]
      rw [if_pos ⟨(touched_succ f i _ h).2 (.inr rfl), ht⟩, if_pos ⟨rfl, by omega⟩]
    · simp only [hq, false_and, if_false]
      have : touched f (i + 1) (q / 8) ↔ touched f i (q / 8) := by rw [touched_succ f i _ h]; simp [hq]
      simp only [this]
  · funext q
    simp only [sclear, sunw]
    by_cases hq : q / 8 = i / 8
    · rw [hq]
      rw [if_pos ⟨(touched_succ f i _ h).2 (.inr rfl), ht⟩, if_pos ⟨rfl, by omega⟩]
    · simp only [hq, false_and, if_false]
      have : touched f (i + 1) (q / 8) ↔ touched f i (q / 8) := by rw [touched_succ f i _ h]; simp [hq]
      simp only [this]
  · funext k
    simp only [fset, sclear, sunw]
    by_cases hq : k = i / 8
    · subst hq
      rw [if_pos ⟨(touched_succ f i _ h).2 (.inr rfl), ht⟩]
      simp
    · simp only [hq, if_false]
      have : touched f (i + 1) k ↔ touched f i k := by rw [touched_succ f i _ h]; simp [hq]
      simp only [this]

/-- Some first bytes of a number, behind a clear. -/
def swith (s : SMem) (f i : Nat) (n wh : Int) : SMem := { s with what := fun j => if f ≤ j ∧ j < f + i then wh else s.what j, num := fun j => if f ≤ j ∧ j < f + i then byteN n (j - f) else s.num j }
theorem swith_zero (s : SMem) (f : Nat) (n wh : Int) : swith s f 0 n wh = s := by
  refine smem_ext ?_ ?_ rfl
  · funext j; simp only [swith]; rw [if_neg (by omega)]
  · funext j; simp only [swith]; rw [if_neg (by omega)]
theorem swith_step (s : SMem) (f i : Nat) (n wh : Int) : { swith s f i n wh with what := fset (swith s f i n wh).what (f + i) wh, num := fset (swith s f i n wh).num (f + i) (byteN n i) } = swith s f (i + 1) n wh := by
  refine smem_ext ?_ ?_ rfl
  · funext q
    simp only [fset, swith]
    split
    · rename_i hq; subst hq; rw [if_pos (by omega)]
    · rename_i hq
      by_cases h1 : f ≤ q ∧ q < f + i
      · rw [if_pos h1, if_pos (by omega)]
      · rw [if_neg h1, if_neg (by omega)]
  · funext q
    simp only [fset, swith]
    split
    · rename_i hq; subst hq; rw [if_pos (by omega), show f + i - f = i from by omega]
    · rename_i hq
      by_cases h1 : f ≤ q ∧ q < f + i
      · rw [if_pos h1, if_pos (by omega)]
      · rw [if_neg h1, if_neg (by omega)]

def ssave (s : SMem) (f k : Nat) (n v : Int) : SMem :=
  if 0 < v then { swith (sclear s f (f + k)) f k n 2 with kept := fset (sclear s f (f + k)).kept (f / 8) v } else swith (sclear s f (f + k)) f k n 1

theorem sclear_ret (b : Nat) (s : SMem) (f k : Nat) (w : World) (hm : IsStk w b s) (h : f + k ≤ 64) :
    Ret Try.prog 46 [.pointer (some ⟨b, 0, none⟩), .int .i64 f, .int .i64 k] w fun v w' => v = .tuple #[] ∧ Kept (· = b) w w' ∧ IsStk w' b (sclear s f (f + k)) := by
  refine ret_of_W Try.func46 rfl ok_tipstaffref19_Stack_clear ?_
  have e1 : IntKind.i64.wrap ((f : Int) + k) = f + k := i64w (by omega) (by omega)
  simp [c_tipstaffref19_Stack_clear]
  refine W_loop (fun env w' => Kept (· = b) w w' ∧ ∃ i : Nat, env = [.pointer (some ⟨b, 0, none⟩), .int .i64 f, .int .i64 k, .int .i64 i, undef] ∧ f ≤ i ∧ i ≤ f + k ∧ IsStk w' b (sclear s f i))
    (fun env _ => (f + k) - natAt env 3) ?_ ?_
  · exact ⟨Kept.refl _ _, f, by simp, by omega, by omega, by rw [sclear_self]; exact hm⟩
  · rintro env w1 ⟨hk, i, rfl, h1, h2, hm1⟩
    by_cases hi : i < f + k
    · simp
      refine W_yes (by simp [e1]; omega) ?_
      have ek := stk_kept (sclear s f i) (i / 8) (by omega)
      have b2 : 0 ≤ (i : Int) / 8 := by omega
      have b3 : (i : Int) / 8 < 8 := by omega
      have e2 : IntKind.i64.wrap ((i : Int) + 1) = ((i + 1 : Nat) : Int) := i64w (by omega) (by omega)
      simp
      refine W_cond (t := decide ((sclear s f i).kept (i / 8) = 0)) ?_ ?_ ?_
      · unfold IsStk at hm1
        simp [wcell_of hm1, div8 i (by omega), div8n, b2, b3, ek]
      · intro ht
        have ht' : (sclear s f i).kept (i / 8) = 0 := by simpa using ht
        simp
        refine ⟨⟨hk, i + 1, by simp [e2], by omega, by omega, ?_⟩, by simp [natAt, e2]; omega⟩
        rw [sclear_step0 s f i h1 ht']; exact hm1
      · intro ht
        have ht' : (sclear s f i).kept (i / 8) ≠ 0 := by simpa using ht
        simp
        refine W_store (by simp [div8 i (by omega), b2, b3]; rfl) (by simp; rfl) (by rw [div8n]; exact store_kept1 hm1 (by omega) 0) (stab_nil _ _ _) ?_
        have hm2 := isStk_put (s' := { sclear s f i with kept := fset (sclear s f i).kept (i / 8) 0 }) hm1 rfl
        have hk2 := hk.put (b := b) (fun _ => rfl) (.cells { sclear s f i with kept := fset (sclear s f i).kept (i / 8) 0 }.cells 53 (0, 0))
        generalize put w1 b (.cells { sclear s f i with kept := fset (sclear s f i).kept (i / 8) 0 }.cells 53 (0, 0)) = w2 at hm2 hk2 ⊢
        simp
        refine W_loop (fun env w' => Kept (· = b) w w' ∧ ∃ j : Nat, env = [.pointer (some ⟨b, 0, none⟩), .int .i64 f, .int .i64 k, .int .i64 i, .int .i64 j] ∧ j ≤ 8 ∧
            IsStk w' b (sunw { sclear s f i with kept := fset (sclear s f i).kept (i / 8) 0 } (i / 8) j)) (fun env _ => 8 - natAt env 4) ?_ ?_
        · exact ⟨hk2, 0, by simp, by omega, by rw [sunw_zero]; exact hm2⟩
        · rintro env w3 ⟨hk3, j, rfl, hj, hm3⟩
          by_cases hj8 : j < 8
          · simp
            refine W_yes (by simp; omega) ?_
            have e3 : IntKind.i64.wrap ((i : Int) / 8 * 8 + j) = (i : Int) / 8 * 8 + j := i64w (by omega) (by omega)
            have e4 : IntKind.i64.wrap ((i : Int) / 8 * 8) = (i : Int) / 8 * 8 := i64w (by omega) (by omega)
            have e5 : IntKind.i64.wrap ((j : Int) + 1) = ((j + 1 : Nat) : Int) := i64w (by omega) (by omega)
            have e6 : ((i : Int) / 8 * 8 + j).toNat = i / 8 * 8 + j := by omega
            have b4 : 0 ≤ (i : Int) / 8 * 8 + j := by omega
            have b5 : (i : Int) / 8 * 8 + j < 64 := by omega
            simp
            refine W_store (by simp [div8 i (by omega), e3, e4, b4, b5]; rfl) (by simp; rfl) (by rw [e6]; exact store_byte hm3 (by omega) 0 0) (stab_nil _ _ _) ?_
            simp
            refine ⟨⟨hk3.put (fun _ => rfl) _, j + 1, by simp [e5], by omega, ?_⟩, by simp [natAt, e5]; omega⟩
            rw [← sunw_step _ _ _ hj8]
            exact isStk_put hm3 rfl
          · simp
            refine W_no (by simp; omega) ?_
            have : j = 8 := by omega
            subst this
            simp
            refine ⟨⟨hk3, i + 1, by simp [e2], by omega, by omega, ?_⟩, by simp [natAt, e2]; omega⟩
            rw [sclear_step1 s f i h1 ht']
            exact hm3
    · simp
      refine W_no (by simp [e1]; omega) ?_
      have : i = f + k := by omega
      subst this
      simp
      exact ⟨hk, hm1⟩
end Go.Proofs.Ytihaopoehhnbkaa
