/- Layer 19, part S: a stack and the reference's stack (plain laws). -/
import Derived.Test.YtihaopoehhnbkaaRegR
set_option linter.unusedSimpArgs false
set_option linter.unusedVariables false
set_option maxRecDepth 8000
namespace Go.Proofs.Ytihaopoehhnbkaa
open Go.Eng

theorem readyAt_iff (m : RMem) (j : Nat) : readyAt m j = true ↔ m.written j = true ∧ (m.kept (j / 8)).tag = 0 := by simp [readyAt]

/-- What the two stacks have in common; n values were saved so far. -/
structure Rel (m : RMem) (s : SMem) (n : Nat) : Prop where
  what : ∀ j, j < 64 → (s.what j = 1 ↔ m.written j = true ∧ (m.kept (j / 8)).tag = 0)
  num : ∀ j, j < 64 → s.what j = 1 → s.num j = m.stack j
  zero : ∀ q, q < 8 → (s.kept q = 0 ↔ (m.kept q).tag = 0)
  kept : ∀ q, q < 8 → s.kept q ≠ 0 → ∃ c : Nat, c < n ∧ s.kept q = (c : Int) + 1 ∧ m.kept q = valOf c
  ok : BytesOk m

def SMem.fresh : SMem := ⟨fun _ => 0, fun _ => 0, fun _ => 0⟩
theorem rel_fresh (c : Nat → Int) (maps : Value) (hc : ∀ i, 0 ≤ c i ∧ c i ≤ 255) : Rel (RMem.fresh c maps) SMem.fresh 0 :=
  ⟨fun j _ => by simp [RMem.fresh, SMem.fresh], fun j _ h => by simp [SMem.fresh] at h, fun q _ => by simp [RMem.fresh, SMem.fresh, RVal.zero], fun q _ h => absurd rfl h, bytesOk_fresh _ _ hc⟩

theorem valOf_tag (c : Nat) : (valOf c).tag = 2 ∨ (valOf c).tag = 3 ∨ (valOf c).tag = 4 := by
  simp only [valOf]; omega

theorem rel_clear {m : RMem} {s : SMem} {n : Nat} (h : Rel m s n) (f e : Nat) : Rel (clear m f e) (sclear s f e) n := by
  refine ⟨?_, ?_, ?_, ?_, h.ok⟩
  · intro j hj
    have hz := h.zero (j / 8) (by omega)
    have hw := h.what j hj
    simp only [clear, sclear]
    by_cases ht : touched f e (j / 8)
    · by_cases h0 : s.kept (j / 8) = 0
      · have h1 := hz.1 h0
        rw [if_neg (fun x => x.2 h0), if_neg (fun x => x.2 h1), if_neg (fun x => x.2 h1)]
        exact hw
      · have h1 : (m.kept (j / 8)).tag ≠ 0 := fun x => h0 (hz.2 x)
        rw [if_pos ⟨ht, h0⟩, if_pos ⟨ht, h1⟩, if_pos ⟨ht, h1⟩]
        simp
    · rw [if_neg (fun x => ht x.1), if_neg (fun x => ht x.1), if_neg (fun x => ht x.1)]
      exact hw
  · intro j hj
    simp only [clear, sclear]
    split
    · intro h; simp at h
    · exact h.num j hj
  · intro q hq
    have hz := h.zero q hq
    simp only [clear, sclear]
    by_cases h0 : s.kept q = 0
    · have h1 := hz.1 h0
      rw [if_neg (fun x => x.2 h0), if_neg (fun x => x.2 h1)]
      exact hz
    · have h1 : (m.kept q).tag ≠ 0 := fun x => h0 (hz.2 x)
      by_cases ht : touched f e q
      · rw [if_pos ⟨ht, h0⟩, if_pos ⟨ht, h1⟩]; simp [RVal.zero]
      · rw [if_neg (fun x => ht x.1), if_neg (fun x => ht x.1)]; exact hz
  · intro q hq
    have hz := h.zero q hq
    simp only [clear, sclear]
    by_cases ht : touched f e q ∧ s.kept q ≠ 0
    · rw [if_pos ht]; intro x; exact absurd rfl x
    · rw [if_neg ht]
      intro h0
      have : ¬ (touched f e q ∧ (m.kept q).tag ≠ 0) := fun x => ht ⟨x.1, h0⟩
      rw [if_neg this]
      exact h.kept q hq h0

theorem rel_mono {m : RMem} {s : SMem} {n n' : Nat} (h : Rel m s n) (hn : n ≤ n') : Rel m s n' :=
  ⟨h.what, h.num, h.zero, fun q hq h0 => by obtain ⟨c, h1, h2⟩ := h.kept q hq h0; exact ⟨c, by omega, h2⟩, h.ok⟩

theorem clear_none {m : RMem} {f e q : Nat} (ht : touched f e q) : ((clear m f e).kept q).tag = 0 := by
  simp only [clear]
  split
  · rfl
  · rename_i h
    by_cases h0 : (m.kept q).tag = 0
    · exact h0
    · exact absurd ⟨ht, h0⟩ h
theorem touched_in {f e j : Nat} (h1 : f ≤ j) (h2 : j < e) : touched f e (j / 8) := by unfold touched; omega

/-- A row of bytes is written from f to e. -/
def withRow (m : RMem) (f e : Nat) (x : Nat → Int) : RMem := { m with stack := fun q => if f ≤ q ∧ q < e then x (q - f) else m.stack q }
theorem withBytes_row (m : RMem) (f e : Nat) (n : Int) : withBytes m f e n = withRow m f e (byteN n) := rfl

theorem rel_row {m : RMem} {s : SMem} {n : Nat} (h : Rel m s n) (f k : Nat) (x : Nat → Int) (hx : ∀ j, 0 ≤ x j ∧ x j ≤ 255) :
    Rel (mark (withRow m f (f + k) x) f k) { sclear s f (f + k) with what := fun j => if f ≤ j ∧ j < f + k then 1 else (sclear s f (f + k)).what j, num := fun j => if f ≤ j ∧ j < f + k then x (j - f) else (sclear s f (f + k)).num j } n := by
  have hc := rel_clear h f (f + k)
  have ek : (mark (withRow m f (f + k) x) f k).kept = (clear m f (f + k)).kept := rfl
  have ew : ∀ j, (mark (withRow m f (f + k) x) f k).written j = if f ≤ j ∧ j < f + k then true else (clear m f (f + k)).written j := fun j => rfl
  have es : ∀ j, (mark (withRow m f (f + k) x) f k).stack j = if f ≤ j ∧ j < f + k then x (j - f) else m.stack j := fun j => rfl
  refine ⟨?_, ?_, ?_, ?_, ?_⟩
  · intro j hj
    rw [ek, ew]
    by_cases hr : f ≤ j ∧ j < f + k
    · simp only [hr, and_self, if_true, true_and, true_iff]
      exact clear_none (touched_in hr.1 hr.2)
    · simp only [hr, if_false]
      exact hc.what j hj
  · intro j hj
    rw [es]
    by_cases hr : f ≤ j ∧ j < f + k
    · simp only [hr, and_self, if_true]; intro _; trivial
    · simp only [hr, if_false]
      exact hc.num j hj
  · intro q hq; rw [ek]; exact hc.zero q hq
  · intro q hq; rw [ek]; exact hc.kept q hq
  · refine ⟨fun j => ?_, h.ok.2⟩
    rw [es]
    split
    · exact hx _
    · exact h.ok.1 _

theorem rel_num {m : RMem} {s : SMem} {n : Nat} (h : Rel m s n) (f k : Nat) (x v : Int) (hv : ¬ 0 < v) : Rel (mark (withBytes m f (f + k) x) f k) (ssave s f k x v) n := by
  have := rel_row h f k (byteN x) (byteN_range x)
  unfold ssave
  rw [if_neg hv]
  exact this

theorem rel_val {m : RMem} {s : SMem} {n : Nat} (h : Rel m s n) (f : Nat) (hf : f + 8 ≤ 64) (h8 : f % 8 = 0) (x : Int) :
    Rel { mark m f 8 with kept := fset (mark m f 8).kept (f / 8) (valOf n) } (ssave s f 8 x ((n + 1 : Nat) : Int)) (n + 1) := by
  have hc := rel_clear h f (f + 8)
  have ht := valOf_tag n
  unfold ssave
  rw [if_pos (by omega)]
  have ek : (mark m f 8).kept = (clear m f (f + 8)).kept := rfl
  have ew : ∀ j, (mark m f 8).written j = if f ≤ j ∧ j < f + 8 then true else (clear m f (f + 8)).written j := fun j => rfl
  refine ⟨?_, ?_, ?_, ?_, h.ok⟩
  · intro j hj
    simp only [ek, ew, swith]
    by_cases hr : f ≤ j ∧ j < f + 8
    · have e : j / 8 = f / 8 := by omega
      simp only [hr, and_self, if_true, true_and, e, fset_same]
      constructor
      · intro h; omega
      · intro h; omega
    · have e : j / 8 ≠ f / 8 := by omega
      simp only [hr, if_false, fset_other _ _ e]
      exact hc.what j hj
  · intro j hj
    simp only [swith]
    by_cases hr : f ≤ j ∧ j < f + 8
    · simp only [hr, and_self, if_true]; intro h; omega
    · simp only [hr, if_false]; exact hc.num j hj
  · intro q hq
    simp only [ek]
    by_cases e : q = f / 8
    · subst e; simp only [fset_same]; omega
    · simp only [fset_other _ _ e]; exact hc.zero q hq
  · intro q hq
    simp only [ek]
    by_cases e : q = f / 8
    · subst e; simp only [fset_same]; intro _; exact ⟨n, by omega, by omega, rfl⟩
    · simp only [fset_other _ _ e]; intro h0; obtain ⟨c, h1, h2⟩ := hc.kept q hq h0; exact ⟨c, by omega, h2⟩

theorem rel_ready {m : RMem} {s : SMem} {n : Nat} (h : Rel m s n) (f k : Nat) (hf : f + k ≤ 64) : Ready m f k ↔ ∀ j, j < k → s.what (f + j) = 1 := by
  constructor
  · intro hr j hj
    exact (h.what (f + j) (by omega)).2 ((readyAt_iff _ _).1 (hr (f + j) (by omega) (by omega)))
  · intro hw j h1 h2
    have := hw (j - f) (by omega)
    rw [show f + (j - f) = j from by omega] at this
    exact (readyAt_iff _ _).2 ((h.what j (by omega)).1 this)

theorem rel_load {m : RMem} {s : SMem} {n : Nat} (h : Rel m s n) (f k : Nat) (hf : f + k ≤ 64) (hs : sizeOk k) :
    (∃ c : Nat, c < n ∧ sload s f k = (0, (c : Int) + 1, true) ∧ loadS m ((f : Int) - 64) k = (valOf c, 0)) ∨
    (∃ x, sload s f k = (x, 0, true) ∧ loadS m ((f : Int) - 64) k = (⟨1, x, 0, none⟩, 0)) ∨ (sload s f k = (0, 0, false) ∧ loadS m ((f : Int) - 64) k = (RVal.zero, 14)) := by
  have hff : ((f : Int) - 64 + 64).toNat = f := by omega
  unfold loadS
  rw [hff, if_pos ⟨hs, by omega, by omega⟩]
  have hk0 : k ≠ 0 := by unfold sizeOk at hs; omega
  have hz := h.zero (f / 8) (by omega)
  unfold sload
  by_cases h8 : k = 8 ∧ f % 8 = 0 ∧ s.kept (f / 8) ≠ 0
  · obtain ⟨h9, h10, h11⟩ := h8
    obtain ⟨c, g1, g2, g3⟩ := h.kept (f / 8) (by omega) h11
    left
    refine ⟨c, g1, ?_, ?_⟩
    · rw [if_pos ⟨h9, h10, by omega⟩, g2]
    · rw [if_pos ⟨by omega, h10, fun x => h11 (hz.2 x)⟩, g3]
  · have h8' : ¬ ((k : Int) = 8 ∧ f % 8 = 0 ∧ (m.kept (f / 8)).tag ≠ 0) := fun x => h8 ⟨by omega, x.2.1, fun y => x.2.2 (hz.1 y)⟩
    have h8'' : ¬ (k = 8 ∧ f % 8 = 0 ∧ 0 < s.kept (f / 8)) := fun x => h8 ⟨x.1, x.2.1, by omega⟩
    rw [if_neg h8', if_neg h8'']
    have hr := rel_ready h f k hf
    by_cases hR : Ready m f k
    · have hR' := hr.1 hR
      right; left
      refine ⟨leN (fun j => s.num (f + j)) k, ?_, ?_⟩
      · rw [if_pos hR']
      · rw [if_pos (by simpa using hR), show (k : Int).toNat = k from rfl]
        rw [leN_congr (x := fun j => s.num (f + j)) (y := fun j => m.stack (f + j)) k (fun j hj => h.num (f + j) (by omega) (hR' j hj))]
    · right; right
      refine ⟨?_, ?_⟩
      · rw [if_neg (fun x => hR (hr.2 x))]
      · rw [if_neg (by simpa using hR)]

theorem rel_bytes {m : RMem} {s : SMem} {n : Nat} (h : Rel m s n) (f k : Nat) (hf : f + k ≤ 64) : bytesOkS m ((f : Int) - 64) k = true ↔ ∀ j, j < k → s.what (f + j) = 1 := by
  have hff : ((f : Int) - 64 + 64).toNat = f := by omega
  unfold bytesOkS
  rw [hff, decide_eq_true_eq, show (k : Int).toNat = k from rfl]
  rw [← rel_ready h f k hf]
  constructor
  · intro x; exact x.2.2.2
  · intro x; exact ⟨by omega, by omega, by omega, x⟩

/-- The memory behind a Fill. -/
def fillS (m : RMem) (f k : Nat) (x : Nat → Int) : RMem := mark (withRow m f (f + k) x) f k

theorem fill_zero (m : RMem) (f : Nat) (x : Nat → Int) : fillS m f 0 x = m := by
  unfold fillS mark
  rw [Nat.add_zero, clear_self, marked_self]
  refine rmem_ext rfl ?_ rfl rfl rfl
  funext q
  simp only [withRow]
  rw [if_neg (by omega)]

theorem fill_step (m : RMem) (f i : Nat) (x : Nat → Int) : fillS m f (i + 1) x = mark (withRow (fillS m f i x) (f + i) (f + i + 1) (fun _ => x i)) (f + i) 1 := by
  have key : ∀ k, touched f (f + (i + 1)) k ↔ touched f (f + i) k ∨ k = (f + i) / 8 := by
    intro k; rw [← Nat.add_assoc]; exact touched_succ f (f + i) k (by omega)
  have key2 : ∀ k, touched (f + i) (f + i + 1) k ↔ k = (f + i) / 8 := by intro k; unfold touched; omega
  refine rmem_ext rfl ?_ ?_ ?_ rfl
  · funext q
    simp only [fillS, mark, marked, clear, withRow]
    by_cases h1 : q = f + i
    · subst h1
      rw [if_pos (by omega), if_pos (by omega), show f + i - f = i from by omega]
    · by_cases h2 : f ≤ q ∧ q < f + i
      · rw [if_pos (by omega), if_neg (by omega), if_pos (by omega)]
      · rw [if_neg (by omega), if_neg (by omega), if_neg (by omega)]
  · funext q
    simp only [fillS, mark, marked, clear, withRow]
    by_cases h1 : q = f + i
    · subst h1
      rw [if_pos (by omega), if_pos (by omega)]
    · by_cases h2 : f ≤ q ∧ q < f + i
      · rw [if_pos (show f ≤ q ∧ q < f + (i + 1) by omega), if_neg (show ¬ (f + i ≤ q ∧ q < f + i + 1) by omega)]
        have ht : touched f (f + i) (q / 8) := touched_in h2.1 h2.2
        by_cases h0 : (m.kept (q / 8)).tag = 0
        · simp [h0, h2]
        · simp [h0, h2, ht, RVal.zero]
      · rw [if_neg (show ¬ (f ≤ q ∧ q < f + (i + 1)) by omega), if_neg (show ¬ (f + i ≤ q ∧ q < f + i + 1) by omega)]
        simp only [key, key2]
        by_cases h0 : (m.kept (q / 8)).tag = 0
        · by_cases he : q / 8 = (f + i) / 8
          · have h0' : (m.kept ((f + i) / 8)).tag = 0 := by rw [← he]; exact h0
            simp [h0, h2, he, h0']
          · simp [h0, h2, he]
        · by_cases ht : touched f (f + i) (q / 8)
          · simp [h0, h2, ht, RVal.zero]
          · by_cases he : q / 8 = (f + i) / 8
            · have ht' : ¬ touched f (f + i) ((f + i) / 8) := by rw [← he]; exact ht
              have h0' : (m.kept ((f + i) / 8)).tag ≠ 0 := by rw [← he]; exact h0
              simp [h0, h2, ht, he, ht', h0']
            · simp [h0, h2, ht, he]
  · funext q
    simp only [fillS, mark, marked, clear, withRow]
    simp only [key, key2]
    by_cases h0 : (m.kept q).tag = 0
    · by_cases he : q = (f + i) / 8
      · subst he
        simp [h0]
      · simp [h0, he]
    · by_cases ht : touched f (f + i) q
      · simp [h0, ht, RVal.zero]
      · by_cases he : q = (f + i) / 8
        · have ht' : ¬ touched f (f + i) ((f + i) / 8) := by rw [← he]; exact ht
          have h0' : (m.kept ((f + i) / 8)).tag ≠ 0 := by rw [← he]; exact h0
          subst he
          simp [h0', ht']
        · simp [h0, ht, he]

theorem byteN_0 (x : Int) (h0 : 0 ≤ x) (h1 : x ≤ 255) : byteN x 0 = x := by unfold byteN; simp; omega

theorem rel_fill {m : RMem} {s : SMem} {n : Nat} (f i : Nat) (x : Nat → Int) (hx : ∀ j, 0 ≤ x j ∧ x j ≤ 255) (h : Rel (fillS m f i x) s n) : Rel (fillS m f (i + 1) x) (ssave s (f + i) 1 (x i) 0) n := by
  have h1 := rel_num h (f + i) 1 (x i) 0 (by omega)
  rw [fill_step]
  have : withBytes (fillS m f i x) (f + i) (f + i + 1) (x i) = withRow (fillS m f i x) (f + i) (f + i + 1) (fun _ => x i) := by
    refine rmem_ext rfl ?_ rfl rfl rfl
    funext q
    simp only [withBytes, withRow]
    by_cases hq : f + i ≤ q ∧ q < f + i + 1
    · rw [if_pos hq, if_pos hq, show q - (f + i) = 0 from by omega, byteN_0 _ (hx i).1 (hx i).2]
    · rw [if_neg hq, if_neg hq]
  rw [this] at h1
  exact h1
end Go.Proofs.Ytihaopoehhnbkaa
