/- Layer 19, part D: marks. -/
import Derived.Test.YthfchnaocbkofaaRegC
set_option linter.unusedSimpArgs false
set_option linter.unusedVariables false
namespace Go.Proofs.Ythfchnaocbkofaa
open Go.Eng

theorem rmem_ext {m m' : RMem} (h1 : m.ctx = m'.ctx) (h2 : m.stack = m'.stack) (h3 : m.written = m'.written) (h4 : m.kept = m'.kept) (h5 : m.maps = m'.maps) : m = m' := by
  cases m; cases m'; simp_all

def touched (f e k : Nat) : Prop := f < e ∧ f / 8 ≤ k ∧ k ≤ (e - 1) / 8
instance (f e k : Nat) : Decidable (touched f e k) := by unfold touched; exact inferInstance

/-- The words that bytes f to e (without e) touch keep nothing any more. -/
def clear (m : RMem) (f e : Nat) : RMem :=
  { m with kept := fun k => if touched f e k ∧ (m.kept k).tag ≠ 0 then RVal.zero else m.kept k,
           written := fun j => if touched f e (j / 8) ∧ (m.kept (j / 8)).tag ≠ 0 then false else m.written j }
def marked (m : RMem) (f e : Nat) : RMem := { m with written := fun j => if f ≤ j ∧ j < e then true else m.written j }
def mark (m : RMem) (f n : Nat) : RMem := marked (clear m f (f + n)) f (f + n)

theorem isMem_put {w : World} {b : Nat} {m m' : RMem} {c : Array Value} (hm : IsMem w b m) (hc : c = m'.cells) : IsMem (put w b (.cells c 74 (0, 0))) b m' := by
  subst hc; exact put_same (blk_lt hm)

theorem store_written {w : World} {b i : Nat} {m : RMem} (hm : IsMem w b m) (h : i < 64) (x : Bool) :
    stv w 1 (.pointer (some ⟨b, 96 + i, none⟩)) (.bool x) = some (put w b (.cells { m with written := fset m.written i x }.cells 74 (0, 0))) := by
  rw [stv_of (n := 1) (v := .bool x) hm rfl (by rw [mem_size]; omega) (.inl (by simp)) (by simp [Value.oneCell', RVal.val, RVal.arr])]
  simp [set_written m i x h]
theorem store_stack {w : World} {b i : Nat} {m : RMem} (hm : IsMem w b m) (h : i < 64) (x : Int) :
    stv w 1 (.pointer (some ⟨b, 32 + i, none⟩)) (.int .u8 x) = some (put w b (.cells { m with stack := fset m.stack i x }.cells 74 (0, 0))) := by
  rw [stv_of (n := 1) (v := .int .u8 x) hm rfl (by rw [mem_size]; omega) (.inl (by simp)) (by simp [Value.oneCell', RVal.val, RVal.arr])]
  simp [set_stack m i x h]
theorem store_kept {w : World} {b k : Nat} {m : RMem} (hm : IsMem w b m) (h : k < 8) (v : RVal) :
    stv w 4 (.pointer (some ⟨b, 160 + k * 4, none⟩)) v.val = some (put w b (.cells { m with kept := fset m.kept k v }.cells 74 (0, 0))) := by
  rw [stv_of (n := 4) (v := v.val) hm rfl (by rw [mem_size]; omega) (.inl (by simp)) (by simp [Value.oneCell', RVal.val, RVal.arr])]
  have := set_kept m k v h
  simp only [RVal.val, Value.cells] at this ⊢
  rw [this]

theorem clear_self (m : RMem) (f : Nat) : clear m f f = m := by
  have : ∀ k, ¬ touched f f k := fun k => by unfold touched; omega
  cases m
  simp [clear, this]

theorem touched_succ (f i k : Nat) (h : f ≤ i) : touched f (i + 1) k ↔ touched f i k ∨ k = i / 8 := by
  unfold touched
  omega

/-- One byte more, whose word keeps nothing. -/
theorem clear_step0 (m : RMem) (f i : Nat) (h : f ≤ i) (h0 : ((clear m f i).kept (i / 8)).tag = 0) : clear m f (i + 1) = clear m f i := by
  have key : ∀ k, (touched f (i + 1) k ∧ (m.kept k).tag ≠ 0) ↔ (touched f i k ∧ (m.kept k).tag ≠ 0) := by
    intro k
    rw [touched_succ f i k h]
    constructor
    · rintro ⟨h1 | h1, h2⟩
      · exact ⟨h1, h2⟩
      · subst h1
        simp only [clear] at h0
        split at h0
        · rename_i h3; exact h3
        · exact absurd h0 h2
    · rintro ⟨h1, h2⟩; exact ⟨.inl h1, h2⟩
  unfold clear
  simp only [key]

/-- One byte more, whose word keeps something. -/
theorem clear_step1 (m : RMem) (f i : Nat) (h : f ≤ i) (h1 : ((clear m f i).kept (i / 8)).tag ≠ 0) :
    clear m f (i + 1) = { clear m f i with kept := fset (clear m f i).kept (i / 8) RVal.zero, written := fun q => if q / 8 = i / 8 then false else (clear m f i).written q } := by
  have hn : ¬ (touched f i (i / 8) ∧ (m.kept (i / 8)).tag ≠ 0) := by
    intro hc
    apply h1
    simp only [clear]
    rw [if_pos hc]; rfl
  have ht : (m.kept (i / 8)).tag ≠ 0 := by
    simp only [clear] at h1
    rw [if_neg hn] at h1; exact h1
  refine rmem_ext rfl rfl ?_ ?_ rfl
  · funext q
    simp only [clear]
    by_cases hq : q / 8 = i / 8
    · rw [hq]
      rw [if_pos ⟨(touched_succ f i _ h).2 (.inr rfl), ht⟩]
      simp
    · simp only [hq, if_false]
      have : touched f (i + 1) (q / 8) ↔ touched f i (q / 8) := by rw [touched_succ f i _ h]; simp [hq]
      simp only [this]
  · funext k
    simp only [fset, clear]
    by_cases hq : k = i / 8
    · subst hq
      rw [if_pos ⟨(touched_succ f i _ h).2 (.inr rfl), ht⟩]
      simp
    · simp only [hq, if_false]
      have : touched f (i + 1) k ↔ touched f i k := by rw [touched_succ f i _ h]; simp [hq]
      simp only [this]

/-- The inner loop: eight bytes are written no more. -/
def unw (m : RMem) (k j : Nat) : RMem := { m with written := fun q => if q / 8 = k ∧ q % 8 < j then false else m.written q }
theorem unw_zero (m : RMem) (k : Nat) : unw m k 0 = m := by cases m; simp [unw]
theorem unw_step (m : RMem) (k j : Nat) (h : j < 8) : { unw m k j with written := fset (unw m k j).written (k * 8 + j) false } = unw m k (j + 1) := by
  refine rmem_ext rfl rfl ?_ rfl rfl
  funext q
  simp only [fset, unw]
  split
  · rename_i hq; subst hq; rw [if_pos (by omega)]
  · rename_i hq
    by_cases h1 : q / 8 = k ∧ q % 8 < j
    · rw [if_pos h1, if_pos (by omega)]
    · rw [if_neg h1, if_neg (by omega)]
theorem unw_all (m : RMem) (k : Nat) : unw m k 8 = { m with written := fun q => if q / 8 = k then false else m.written q } := by
  refine rmem_ext rfl rfl ?_ rfl rfl
  funext q
  simp only [unw]
  have : q % 8 < 8 := by omega
  simp [this]

theorem marked_self (m : RMem) (f : Nat) : marked m f f = m := by
  refine rmem_ext rfl rfl ?_ rfl rfl
  funext j
  simp only [marked]
  rw [if_neg (by omega)]
theorem marked_step (m : RMem) (f i : Nat) (h : f ≤ i) : { marked m f i with written := fset (marked m f i).written i true } = marked m f (i + 1) := by
  refine rmem_ext rfl rfl ?_ rfl rfl
  funext q
  simp only [fset, marked]
  split
  · rename_i hq; subst hq; rw [if_pos (by omega)]
  · rename_i hq
    by_cases h1 : f ≤ q ∧ q < i
    · rw [if_pos h1, if_pos (by omega)]
    · rw [if_neg h1, if_neg (by omega)]

theorem mark_ret (b : Nat) (m : RMem) (f n : Nat) (w : World) (hm : IsMem w b m) (h : f + n ≤ 64) :
    Ret Try.prog 33 [.pointer (some ⟨b, 0, none⟩), .int .i64 f, .int .i64 n] w fun v w' => v = .tuple #[] ∧ Kept (· = b) w w' ∧ IsMem w' b (mark m f n) := by
  refine ret_of_W Try.func33 rfl ok_region_Memory_mark ?_
  have e1 : IntKind.i64.wrap ((f : Int) + n) = f + n := i64w (by omega) (by omega)
  simp [c_region_Memory_mark]
  refine W_loop (fun env w' => Kept (· = b) w w' ∧ ∃ i : Nat, env = [.pointer (some ⟨b, 0, none⟩), .int .i64 f, .int .i64 n, .int .i64 i, undef, undef, undef, undef] ∧ f ≤ i ∧ i ≤ f + n ∧ IsMem w' b (clear m f i))
    (fun env _ => (f + n) - natAt env 3) ?_ ?_
  · exact ⟨Kept.refl _ _, f, by simp, by omega, by omega, by rw [clear_self]; exact hm⟩
  · rintro env w1 ⟨hk, i, rfl, h1, h2, hm1⟩
    by_cases hi : i < f + n
    · simp
      refine W_yes (by simp [e1]; omega) ?_
      have ek := mem_tag (clear m f i) (i / 8) (by omega)
      have b2 : 0 ≤ (i : Int) / 8 := by omega
      have b3 : (i : Int) / 8 < 8 := by omega
      have e2 : IntKind.i64.wrap ((i : Int) + 1) = ((i + 1 : Nat) : Int) := i64w (by omega) (by omega)
      simp [div8 i (by omega)]
      refine W_cond (t := decide (((clear m f i).kept (i / 8)).tag ≠ 0)) ?_ ?_ ?_
      · unfold IsMem at hm1
        simp [wcell_of hm1, div8n, b2, b3, ek]
      · intro ht
        have ht' : ((clear m f i).kept (i / 8)).tag ≠ 0 := by simpa using ht
        simp
        refine W_store (by simp [b2, b3]; rfl) (by simp; rfl) (by rw [div8n]; exact store_kept hm1 (by omega) RVal.zero) (stab_nil _ _ _) ?_
        have hm2 := isMem_put (m' := { clear m f i with kept := fset (clear m f i).kept (i / 8) RVal.zero }) hm1 rfl
        have hk2 := hk.put (b := b) (fun _ => rfl) (.cells { clear m f i with kept := fset (clear m f i).kept (i / 8) RVal.zero }.cells 74 (0, 0))
        generalize put w1 b (.cells { clear m f i with kept := fset (clear m f i).kept (i / 8) RVal.zero }.cells 74 (0, 0)) = w2 at hm2 hk2 ⊢
        simp
        refine W_loop (fun env w' => Kept (· = b) w w' ∧ ∃ j : Nat, env = [.pointer (some ⟨b, 0, none⟩), .int .i64 f, .int .i64 n, .int .i64 i, .int .i64 ((i : Int) / 8), .int .i64 j, undef, undef] ∧ j ≤ 8 ∧
            IsMem w' b (unw { clear m f i with kept := fset (clear m f i).kept (i / 8) RVal.zero } (i / 8) j)) (fun env _ => 8 - natAt env 5) ?_ ?_
        · exact ⟨hk2, 0, by simp, by omega, by rw [unw_zero]; exact hm2⟩
        · rintro env w3 ⟨hk3, j, rfl, hj, hm3⟩
          by_cases hj8 : j < 8
          · simp
            refine W_yes (by simp; omega) ?_
            have e3 : IntKind.i64.wrap ((i : Int) / 8 * 8 + j) = (i : Int) / 8 * 8 + j := i64w (by omega) (by omega)
            have e4 : IntKind.i64.wrap ((i : Int) / 8 * 8) = (i : Int) / 8 * 8 := i64w (by omega) (by omega)
            have e5 : IntKind.i64.wrap ((j : Int) + 1) = ((j + 1 : Nat) : Int) := i64w (by omega) (by omega)
            have e6 : ((i : Int) / 8 * 8 + j).toNat = i / 8 * 8 + j := by omega
            have b4 : 0 ≤ (i : Int) / 8 * 8 + j := by omega
            have b5 : (i : Int) / 8 * 8 + j < 64 := by omega
            simp
            refine W_store (by simp [e3, e4, b4, b5]; rfl) (by simp; rfl) (by rw [e6]; exact store_written hm3 (by omega) false) (stab_nil _ _ _) ?_
            simp
            refine ⟨⟨hk3.put (fun _ => rfl) _, j + 1, by simp [e5], by omega, ?_⟩, by simp [natAt, e5]; omega⟩
            rw [← unw_step _ _ _ hj8]
            exact isMem_put hm3 rfl
          · simp
            refine W_no (by simp; omega) ?_
            have : j = 8 := by omega
            subst this
            simp
            refine ⟨⟨hk3, i + 1, by simp [e2], by omega, by omega, ?_⟩, by simp [natAt, e2]; omega⟩
            rw [clear_step1 m f i h1 ht']
            rw [unw_all] at hm3
            exact hm3
      · intro ht
        have ht' : ((clear m f i).kept (i / 8)).tag = 0 := by simpa using ht
        simp
        refine ⟨⟨hk, i + 1, by simp [e2], by omega, by omega, ?_⟩, by simp [natAt, e2]; omega⟩
        rw [clear_step0 m f i h1 ht']; exact hm1
    · simp
      refine W_no (by simp [e1]; omega) ?_
      have : i = f + n := by omega
      subst this
      simp
      refine W_loop (fun env w' => Kept (· = b) w w' ∧ ∃ i : Nat, env = [.pointer (some ⟨b, 0, none⟩), .int .i64 f, .int .i64 n, undef, undef, undef, undef, .int .i64 i] ∧ f ≤ i ∧ i ≤ f + n ∧ IsMem w' b (marked (clear m f (f + n)) f i))
        (fun env _ => (f + n) - natAt env 7) ?_ ?_
      · exact ⟨hk, f, by simp, by omega, by omega, by rw [marked_self]; exact hm1⟩
      · rintro env w3 ⟨hk3, i, rfl, h3, h4, hm3⟩
        by_cases hi : i < f + n
        · simp
          refine W_yes (by simp [e1]; omega) ?_
          have e2 : IntKind.i64.wrap ((i : Int) + 1) = ((i + 1 : Nat) : Int) := i64w (by omega) (by omega)
          have b5 : (i : Int) < 64 := by omega
          simp
          refine W_store (by simp [b5]) (by simp) (store_written hm3 (i := i) (by omega) true) (stab_nil _ _ _) ?_
          simp
          refine ⟨⟨hk3.put (fun _ => rfl) _, i + 1, by simp [e2], by omega, by omega, ?_⟩, by simp [natAt, e2]; omega⟩
          rw [← marked_step _ _ _ h3]
          exact isMem_put hm3 rfl
        · simp
          refine W_no (by simp [e1]; omega) ?_
          have : i = f + n := by omega
          subst this
          simp
          exact ⟨hk3, hm3⟩
end Go.Proofs.Ythfchnaocbkofaa
