/- What every law's row asks behind the walk: true, and each argument reads as it did. -/
import Derived.Test.YtkgpmjjleemdlaaGreatEngL
import Derived.Test.YtkgpmjjleemdlaaGreatRows
import Derived.ProofKit
import Derived.Below
import Derived.ChangeSame
import Derived.Carry
set_option linter.unusedSimpArgs false
set_option linter.unusedVariables false
namespace Go.Proofs.YtkgpmjjleemdlaaGreat
open Go.ChangeShapes Go.WideShapes Go.ChangeAt Go.RowKit

theorem Tryz.own : ownKnob Tryz.prog.godebug = none := by kernel_rfl
theorem Tryz.laidOut : laidOutB Tryz.prog = true := by kernel_rfl

section
variable {H : Type} {enc : TypeId × Value → H} {P : Program}

theorem trodAll_carry (hl : laidOutB P = true) {W W' : World} (hb : Below W.heap.size W W') {sp : Nat → Bool} :
    ∀ {ts : List TypeId} {vs : List Value} {ds : List (DataW H)} {ps : List MemPlace}, (∀ t ∈ ts, P.readableRec t = true ∧ t < P.types.size) → (∀ x ∈ ps, x.block < W.heap.size) → (∀ x ∈ ps, sp x.block = true) →
      DataW.TrodAll enc P W 0 (fun _ => true) true ts vs ds ps → DataW.TrodAll enc P W' 0 sp true ts vs ds ps
  | [], [], [], _, _, _, _, h => h
  | _ :: _, _ :: _, _ :: _, _, hr, hlt, hs, ⟨p, q, h1, h2, e⟩ =>
    ⟨p, q, WideElems.Trod_stays hl (hr _ List.mem_cons_self).1 (hr _ List.mem_cons_self).2 h1 (fun x hx => hb.same (hlt x (by rw [e]; exact List.mem_append_left _ hx))) (fun x hx => hs x (by rw [e]; exact List.mem_append_left _ hx)),
      trodAll_carry hl hb (fun t ht => hr t (List.mem_cons_of_mem _ ht)) (fun x hx => hlt x (by rw [e]; exact List.mem_append_right _ hx)) (fun x hx => hs x (by rw [e]; exact List.mem_append_right _ hx)) h2, e⟩
  | [], [], _ :: _, _, _, _, _, h => h.elim
  | [], _ :: _, _, _, _, _, _, h => h.elim
  | _ :: _, [], _, _, _, _, _, h => h.elim
  | _ :: _, _ :: _, [], _, _, _, _, h => h.elim

theorem law_post {f : Func} {s : ChangeSpec} {tb : TypeId} {W W' : World} {args : Array Value} {ds gs : List (DataW H)} {before : List MemPlace} (hl : laidOutB P = true)
    (hW : DataW.Whole enc P f.params.toList s.vars false W args.toList ds gs before) (hv : s.vars = []) (hr0 : f.params.toList.all (fun t => P.readableRec t && decide (t < P.types.size)) = true) (hb : Below W.heap.size W W')
    (hfn : s.fn H ds = { results := [.lit (.bool true)], args := ds }) (hres : f.resultTypes = #[tb]) (htb : P.underlying tb = some .bool) : s.post enc P f false true false false W args (.bool true) W' := by
  have hr : ∀ t ∈ f.params.toList, P.readableRec t = true ∧ t < P.types.size := fun t ht => by simpa using List.all_eq_true.1 hr0 t ht
  have hlt : ∀ p ∈ before, p.block < W.heap.size := fun p hp => hW.lt p hp
  have hW' := hW
  obtain ⟨p, q, hA, hV, hbe, hz, hn⟩ := hW
  rw [hv] at hV
  obtain ⟨rfl, rfl⟩ := trodVars_none hV
  rw [List.append_nil] at hbe
  subst hbe
  have hold : ∀ p ∈ before, (fun b => decide (b < W.heap.size)) p.block = true := fun p hp => by simpa using hlt p hp
  have hfn' : s.fn H (ds ++ []) = { results := [.lit (.bool true)], args := ds } := by rw [List.append_nil]; exact hfn
  refine ⟨ds, [], before, [], before, [], hW', ?_, ?_, ?_, World.keptBut_mono (fun p hp => ⟨hp, ?_⟩) (hb.frame (· ∈ before)), fun h => by cases h⟩
  · rw [hfn', hres]; exact trodAll_mk1 (shut_bool htb true)
  · rw [hfn']; exact trodAll_carry hl hb hr hlt hold hA
  · rw [hfn', hv]; rfl
  · exact Or.inr (Or.inl hp)

/-- A slice of whole numbers, opened for a walk. -/
theorem open_row {w : World} {spare : Nat → Bool} {base : Nat} {held : Bool} {t e : TypeId} {k : IntKind} {v : Value} {d : DataW H} {ps : List MemPlace} (ht : P.underlying t = some (.slice e)) (he : P.underlying e = some (.int k)) (hc : P.cellsOf e = 1)
    (hs : ∀ b, spare b = true) (h : DataW.Trod enc P w base spare held t v d ps) : ∃ (a : Option Addr) (n c : Nat) (xs : List Int), v.cells.toList = [.slice a n c] ∧ n = xs.length ∧ n ≤ c ∧ c ≤ maxLen ∧ (∀ x ∈ xs, (Lit.int k x).wf = true) ∧
      (n = 0 ∨ ∃ b off, a = some ⟨b, off, none⟩ ∧ ∀ i, i < n → Go.Eng.wcell w b (off + i) = some (.int k (xs.getD i 0))) := by
  obtain ⟨fuel, hf⟩ := h
  rcases open_ints ht he hc hf with ⟨hcs, _⟩ | ⟨a, n, c, zs, hcs, _, hl, hm, hz, _, hcell, hwz⟩
  · exact ⟨none, 0, 0, [], hcs, rfl, by omega, by simp, fun x hx => (by cases hx), .inl rfl⟩
  · rw [hs] at hz
    have hz' : zs.length = c := by simpa using hz
    refine ⟨some a, n, c, zs.take n, hcs, by simp; omega, hl, hm, fun x hx => hwz x (List.mem_of_mem_take hx), ?_⟩
    by_cases h0 : n = 0
    · exact .inl h0
    · right
      obtain ⟨b, off, sp⟩ := a
      have hc0 := hcell 0 (by omega)
      have hsp : sp = none := by
        cases sp with
        | none => rfl
        | some j =>
          unfold World.cell? at hc0
          simp [Addr.add] at hc0
          split at hc0 <;> simp at hc0
      subst hsp
      refine ⟨b, off, rfl, fun i hi => ?_⟩
      have h1 := hcell i (by omega)
      have h2 : (zs.take n).getD i 0 = zs.getD i 0 := by simp [List.getD, List.getElem?_take, hi]
      rw [h2, ← h1]
      simp only [Addr.add_lit]
      unfold World.cell? Go.Eng.wcell
      cases w.heap[b]? with
      | none => rfl
      | some o => cases o <;> rfl
end
end Go.Proofs.YtkgpmjjleemdlaaGreat
