/- Layer 11, part E: texts cut at spaces; numbers to the base 16 read. -/
import Derived.Test.YtaaicadjoghbcaaDoorRtD
import Derived.Test.YtaaicadjoghbcaaDoorRtShelf2
import Derived.Lib.SplitLaws
import Derived.Lib.ConvBytes
set_option linter.unusedSimpArgs false
set_option linter.unusedVariables false
set_option maxRecDepth 8000
namespace Go.Proofs.YtaaicadjoghbcaaDoor
open Go.Eng

/-! Cut at each c. -/
def splitG {α : Type} [DecidableEq α] (c : α) : List α → List (List α)
  | [] => [[]]
  | x :: r => if x = c then [] :: splitG c r else (x :: (splitG c r).headD []) :: (splitG c r).tail
theorem splitG_ne {α : Type} [DecidableEq α] (c : α) (l : List α) : splitG c l ≠ [] := by
  cases l with
  | nil => simp [splitG]
  | cons x r => simp only [splitG]; split <;> simp
theorem splitG_head {α : Type} [DecidableEq α] (c : α) (l : List α) : (splitG c l).headD [] :: (splitG c l).tail = splitG c l := by
  cases h : splitG c l with
  | nil => exact absurd h (splitG_ne c l)
  | cons a t => rfl
theorem splitK_eq (c : UInt8) : ∀ s : List UInt8, Lib.splitK [c] 0 (Lib.count s [c]) s = splitG c s
  | [] => by rw [Lib.count_miss (by simp [Lib.index])]; rfl
  | b :: r => by
    have ih := splitK_eq c r
    by_cases h : b = c
    · subst h
      rw [Lib.count_cons_eq, Nat.add_comm]
      have hix : Lib.index (b :: r) [b] = 0 := by rw [Lib.index]; simp [List.isPrefixOf]
      simp only [Lib.splitK, hix, splitG, if_true]
      rw [← ih]
      rfl
    · rw [Lib.count_cons_ne b c r h]
      simp only [splitG, if_neg h]
      have hp : ([c] : List UInt8).isPrefixOf (b :: r) = false := by simp [List.isPrefixOf, Ne.symm h]
      have hix : Lib.index (b :: r) [c] = if Lib.index r [c] == -1 then -1 else Lib.index r [c] + 1 := by rw [Lib.index, hp]; simp
      rw [← ih]
      cases hk : Lib.count r [c] with
      | zero => rfl
      | succ k =>
        have hm : Lib.index r [c] ≠ -1 := fun e => by rw [Lib.count_miss e] at hk; omega
        have hge := Lib.index_ge r [c]
        obtain ⟨j, hj⟩ : ∃ j : Nat, Lib.index r [c] = j := ⟨(Lib.index r [c]).toNat, by omega⟩
        have hb : ¬ ((j : Int) == -1) = true := fun e => by have := beq_iff_eq.1 e; omega
        have hb' : ¬ (((j : Int) + 1) == -1) = true := fun e => by have := beq_iff_eq.1 e; omega
        simp only [Lib.splitK, hix, hj, if_neg hb, if_neg hb']
        simp
theorem splitG_map {α β : Type} [DecidableEq α] [DecidableEq β] (f : α → β) (c : α) : ∀ l : List α, (∀ x ∈ l, f x = f c → x = c) → splitG (f c) (l.map f) = (splitG c l).map (·.map f)
  | [], _ => rfl
  | x :: r, h => by
    have ih := splitG_map f c r (fun y hy => h y (List.mem_cons_of_mem _ hy))
    by_cases hx : x = c
    · subst hx; simp [splitG, ih]
    · have : ¬ f x = f c := fun e => hx (h x (by simp) e)
      simp only [splitG, List.map_cons, if_neg this, if_neg hx, ih]
      rw [← splitG_head c r]
      simp
theorem splitB_bs (l : List Nat) (hl : Oct l) : Lib.splitB ⟨#[32]⟩ 0 (Lib.countB (bs l) ⟨#[32]⟩) (bs l) = (splitG 32 l).map bs := by
  have h := Lib.splitB_data ⟨#[32]⟩ 0 (Lib.countB (bs l) ⟨#[32]⟩) (bs l)
  have hd : (bs l).data.toList = l.map UInt8.ofNat := by simp [bs]
  have h2 : Lib.splitK (⟨#[32]⟩ : ByteArray).data.toList 0 (Lib.countB (bs l) ⟨#[32]⟩) (bs l).data.toList = (splitG 32 l).map (·.map UInt8.ofNat) := by
    rw [hd]
    have := splitK_eq 32 (l.map UInt8.ofNat)
    rw [show Lib.countB (bs l) ⟨#[32]⟩ = Lib.count (l.map UInt8.ofNat) [32] from by rw [← hd]]
    refine this.trans (splitG_map UInt8.ofNat 32 l fun x hx e => ?_)
    have h255 := hl x hx
    have := congrArg UInt8.toNat e
    simpa [Nat.mod_eq_of_lt (show x < 256 by omega)] using this
  rw [h2] at h
  have hinj : ∀ (a b : List ByteArray), a.map (·.data.toList) = b.map (·.data.toList) → a = b := by
    intro a b e
    refine List.map_inj_right (f := fun s : ByteArray => s.data.toList) (fun x y hxy => ?_) |>.1 e
    obtain ⟨⟨x⟩⟩ := x; obtain ⟨⟨y⟩⟩ := y
    simpa using hxy
  refine hinj _ _ (h.trans ?_)
  rw [List.map_map]
  refine List.map_congr_left fun m _ => ?_
  simp [bs]
theorem splitG_oct {l : List Nat} (hl : Oct l) : ∀ m ∈ splitG 32 l, Oct m := by
  induction l with
  | nil => intro m hm x hx; simp [splitG] at hm; subst hm; cases hx
  | cons a r ih =>
    have ihr := ih fun x hx => hl x (List.mem_cons_of_mem _ hx)
    intro m hm
    by_cases h : a = 32
    · simp only [splitG, if_pos h] at hm
      rcases List.mem_cons.1 hm with rfl | hm
      · intro x hx; cases hx
      · exact ihr m hm
    · simp only [splitG, if_neg h] at hm
      rcases List.mem_cons.1 hm with rfl | hm
      · intro x hx
        rcases List.mem_cons.1 hx with rfl | hx
        · exact hl x (by simp)
        · exact ihr _ (by rw [← splitG_head 32 r]; simp) x hx
      · exact ihr m (by rw [← splitG_head 32 r]; simp [hm])
theorem splitG_len (l : List Nat) : (splitG 32 l).length ≤ l.length + 1 := by
  induction l with
  | nil => simp [splitG]
  | cons a r ih => 
    by_cases h : a = 32
    · simp only [splitG, if_pos h]; simp; exact ih
    · simp only [splitG, if_neg h]; simp; omega

/-- What the program's own tables hold, and the library's. -/
structure GlobT (w : World) : Prop extends Glob w where
  max : ∃ m : Int, wcell w 4 0 = some (.int .i64 m)
  syn : ∃ e, wcell w 2 0 = some e ∧ (e = .nilIface ∨ ∃ te pe, e = .iface te pe)
  rng : ∃ e, wcell w 3 0 = some e ∧ (e = .nilIface ∨ ∃ te pe, e = .iface te pe)
theorem GlobT.calm {w w' : World} (h : GlobT w) (hk : Kept none' w w') : GlobT w' :=
  ⟨h.toGlob.calm hk, h.max.imp fun _ e => wcell_calm hk e, h.syn.imp fun _ e => ⟨wcell_calm hk e.1, e.2⟩, h.rng.imp fun _ e => ⟨wcell_calm hk e.1, e.2⟩⟩

theorem split_ret (l : List Nat) (w : World) (hl : Oct l) (hlen : l.length ≤ 1000000) (hg : GlobT w) :
    Ret Tryd.prog 15 [.string (bs l), .string ⟨#[32]⟩] w fun v w' => Kept none' w w' ∧ ∃ b, b = w.heap.size ∧ v = .slice (some ⟨b, 0, none⟩) (splitG 32 l).length (splitG 32 l).length ∧ StrsAt w' b 0 (splitG 32 l) := by
  obtain ⟨m, hm⟩ := hg.max
  have h := Tryd.strings_Split (bs l) ⟨#[32]⟩ m w (by simp; omega) (wcell_cell hm) (by decide)
  rw [splitB_bs l hl] at h
  have hn : Lib.countB (bs l) ⟨#[32]⟩ + 1 = (splitG 32 l).length := by
    have := Lib.splitB_all ⟨#[32]⟩ (by decide) 0 _ (bs l) rfl
    rw [splitB_bs l hl] at this
    simpa using this.symm
  refine ret_of_calls (h.mono fun e w' he => ⟨_, he.1, ?_, w.heap.size, rfl, ?_, ?_⟩)
  · rw [he.2]; exact (Kept.refl _ _).alloc _
  · rw [hn]
  · rw [he.2]
    intro i m hm
    rw [wcell_of (hp_new w _)]
    simp [hm]
end Go.Proofs.YtaaicadjoghbcaaDoor
