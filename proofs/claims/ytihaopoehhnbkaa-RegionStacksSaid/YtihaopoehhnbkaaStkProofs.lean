/- RegionStacks returns true for every input, and its arguments are as they were; no condition. -/
import Derived.Test.YtihaopoehhnbkaaLawRow
import Derived.Test.YtihaopoehhnbkaaRegStk
set_option linter.unusedSimpArgs false
set_option linter.unusedVariables false
namespace Go.Proofs.Ytihaopoehhnbkaa
open Go.ChangeShapes Go.WideShapes Go.ChangeAt Go.RowKit

/-- The fields of a struct: types and places. -/
def fieldsAt (P : Program) (t : TypeId) : Option (Array (TypeId × Nat)) := match P.underlying t with | some (.struct fs) => some (fs.map fun f => (f.type, f.offset)) | _ => none

theorem struct_fields {H : Type} {enc : TypeId × Value → H} {P : Program} {w : World} {base : Nat} {spare : Nat → Bool} {held : Bool} {fuel : Nat} {t : TypeId} {cs : List Value} {x : DataW H × List MemPlace} {l : Array (TypeId × Nat)}
    (hf : fieldsAt P t = some l) (h : DataW.trod enc P w base spare held fuel t cs = some x) : ∃ n, ∀ (i : Nat) u o, l[i]? = some (u, o) → ∃ y, DataW.trod enc P w base spare held n u ((cs.drop o).take (P.cellsOf u)) = some y := by
  unfold fieldsAt at hf
  split at hf
  · rename_i fs hfs
    simp only [Option.some.injEq] at hf
    subst hf
    obtain ⟨xs, n, _, _, _, hl, hx⟩ := DataW.trod_struct hfs h
    refine ⟨n, fun i u o hi => ?_⟩
    rw [Array.getElem?_map, Option.map_eq_some_iff] at hi
    obtain ⟨f, hf, he⟩ := hi
    simp only [Prod.mk.injEq] at he
    have := hx i f hf
    rw [he.1, he.2] at this
    have hlt : i < xs.length := by
      rw [hl]
      exact (Array.getElem?_eq_some_iff.1 hf).1
    rw [List.getElem?_eq_getElem hlt] at this
    exact ⟨_, this⟩
  · cases hf

theorem Try.cells_i : Try.prog.cellsOf 3 = 1 := by kernel_rfl
theorem Try.cells_u : Try.prog.cellsOf 26 = 1 := by kernel_rfl
theorem Try.cells_b : Try.prog.cellsOf 5 = 1 := by kernel_rfl
theorem Try.cells_bs : Try.prog.cellsOf 38 = 1 := by kernel_rfl
theorem Try.cells_act : Try.prog.cellsOf 56 = 6 := by kernel_rfl
theorem Try.fields_act : fieldsAt Try.prog 56 = some #[(3, 0), (2, 1), (2, 2), (3, 3), (26, 4), (38, 5)] := by kernel_rfl
theorem Try.cells_64 : Try.prog.cellsOf 2 = 1 := by kernel_rfl

theorem bts_of {H : Type} {enc : TypeId × Value → H} {w : World} {base : Nat} {held : Bool} {fuel : Nat} {v : Value} {x : DataW H × List MemPlace} (h : DataW.trod enc Try.prog w base (fun _ => true) held fuel 38 [v] = some x) : Bts w v := by
  rcases open_ints Try.underlying38 Try.underlying5 Try.cells_b h with ⟨hcs, _⟩ | ⟨a, n, c, zs, hcs, _, hl, hm, hz, _, hcell, hwz⟩
  · have : v = .slice none 0 0 := by simpa using hcs
    subst this
    exact ⟨none, 0, 0, fun _ => 0, rfl, by omega, fun _ => ⟨Int.le_refl 0, (by decide : (0 : Int) ≤ 255)⟩, .inl rfl⟩
  · have : v = .slice (some a) n c := by simpa using hcs
    subst this
    have hz' : zs.length = c := by simpa using hz
    refine ⟨some a, n, c, fun j => zs.getD j 0, rfl, hl, ?_, ?_⟩
    · intro j
      by_cases hj : j < zs.length
      · have hmem : zs.getD j 0 ∈ zs := by
          rw [List.getD_eq_getElem?_getD, List.getElem?_eq_getElem hj]; exact List.getElem_mem hj
        have := hwz _ hmem
        have hb : IntKind.u8.min ≤ zs.getD j 0 ∧ zs.getD j 0 ≤ IntKind.u8.max := by simpa [Lit.wf] using this
        exact hb
      · have : zs.getD j 0 = 0 := by rw [List.getD_eq_getElem?_getD, List.getElem?_eq_none (by omega)]; rfl
        simp only [this]; omega
    · by_cases h0 : n = 0
      · exact .inl h0
      · right
        obtain ⟨b, off, sp⟩ := a
        have h1 := hcell 0 (by omega)
        have hsp := (cell_wcell (by simpa [Addr.add] using h1)).1
        subst hsp
        refine ⟨b, off, rfl, fun j hj => ?_⟩
        have h2 := hcell j (by omega)
        simp only [Addr.add_lit] at h2
        exact (cell_wcell h2).2

set_option maxRecDepth 100000 in
theorem acts_of {H : Type} {enc : TypeId × Value → H} {w : World} {base : Nat} {held : Bool} {a : Option Addr} {n c : Nat} {d : DataW H} {ps : List MemPlace} (h : DataW.Trod enc Try.prog w base (fun _ => true) held 42 (.slice a n c) d ps) : Acts w (.slice a n c) := by
  refine ⟨a, n, c, rfl, ?_⟩
  rcases open_any Try.underlying42 Try.cells_act (by omega) h with h0 | ⟨b, off, rfl, hrow⟩
  · exact .inl h0
  · refine .inr ⟨b, off, rfl, fun i hi => ?_⟩
    obtain ⟨r, y, fuel, hl, hw, hf⟩ := hrow i hi
    obtain ⟨m, hx⟩ := struct_fields Try.fields_act hf
    obtain ⟨y0, h0⟩ := hx 0 _ _ rfl
    obtain ⟨y1, h1⟩ := hx 1 _ _ rfl
    obtain ⟨y2, h2⟩ := hx 2 _ _ rfl
    obtain ⟨y3, h3⟩ := hx 3 _ _ rfl
    obtain ⟨y4, h4⟩ := hx 4 _ _ rfl
    obtain ⟨y5, h5⟩ := hx 5 _ _ rfl
    rw [Try.cells_i] at h0 h3
    rw [Try.cells_64] at h1 h2
    rw [Try.cells_u] at h4
    rw [Try.cells_bs] at h5
    obtain ⟨n0, e0, _, w0⟩ := DataW.trod_int Try.underlying3 h0
    obtain ⟨n1, e1, _, w1⟩ := DataW.trod_int Try.underlying2 h1
    obtain ⟨n2, e2, _, w2⟩ := DataW.trod_int Try.underlying2 h2
    obtain ⟨n3, e3, _, w3⟩ := DataW.trod_int Try.underlying3 h3
    obtain ⟨n4, e4, _, w4⟩ := DataW.trod_int Try.underlying26 h4
    have b1 : IntKind.i64.min ≤ n1 ∧ n1 ≤ IntKind.i64.max := by simpa [Lit.wf] using w1
    have b4 : IntKind.u64.min ≤ n4 ∧ n4 ≤ IntKind.u64.max := by simpa [Lit.wf] using w4
    have b1' : -9223372036854775808 ≤ n1 ∧ n1 ≤ 9223372036854775807 := b1
    have b4' : 0 ≤ n4 ∧ n4 ≤ 18446744073709551615 := b4
    obtain ⟨c0, c1, c2, c3, c4, c5, rfl⟩ : ∃ c0 c1 c2 c3 c4 c5, r = [c0, c1, c2, c3, c4, c5] := by
      match r, hl with
      | [c0, c1, c2, c3, c4, c5], _ => exact ⟨c0, c1, c2, c3, c4, c5, rfl⟩
    simp at e0 e1 e2 e3 e4 h5
    subst e0 e1 e2 e3 e4
    exact ⟨n0, n1, n2, n3, n4, c5, hw, b1', b4'.1, bts_of h5⟩

set_option maxRecDepth 100000 in
theorem stacks_lifted (os : Os) (started : os.Started) (H : Type) (enc : TypeId × Value → H) :
    ReturnsInHanded {} Try.checked os 5 .any (Rows.regionStacksSpec.pre6 enc Try.prog Try.f5 Rows.regionStacksRow.domain false)
      (Rows.regionStacksSpec.post enc Try.prog Try.f5 false true false false) := by
  refine returnsInHanded_of_change (C := Try.checked) Try.own started (by kernel_rfl) Try.func5
    (ChangeSpec.witness6 (enc := enc) (C := Try.checked) false ⟨#[], #[.slice none 0 0], []⟩ 8 (by kernel_rfl) (by kernel_rfl) (by kernel_rfl) (by kernel_rfl)) ?_
  intro W base args ds gs before hval0 hW hcnd _
  have hval : ∀ (j : Nat) t v, Try.f5.params[j]? = some t → args[j]? = some v → Value.okWide Try.prog W .any base t v := hval0
  have hW' := hW
  obtain ⟨p, q, hA0, hV, rfl, hfz, hnd⟩ := hW
  have hA : DataW.TrodAll enc Try.prog W 0 (fun _ => true) true Try.f5.params.toList args.toList ds p := hA0
  rw [Try.params5] at hA hval
  obtain ⟨v0, d0, rfl, rfl, h0⟩ := trodAll_one hA
  obtain ⟨rfl, rfl⟩ := trodVars_none hV
  obtain ⟨a0, len, cap, rfl⟩ := okWide_slice Try.underlying42 (hval 0 42 v0 rfl rfl)
  clear hA0 hval0
  refine (stacks_ret _ W (acts_of h0)).calls.mono fun e W' he => ?_
  obtain ⟨v, rfl, rfl, hk⟩ := he
  exact ⟨_, rfl, law_post Try.laidOut hW' rfl (by kernel_rfl) (hk.below fun _ _ h => h) rfl (by kernel_rfl) Try.underlying4⟩

theorem regionStacks_holds : Rows.RegionStacksSaid :=
  OpenClaim.holds_of_wide 5 Try.f5 rfl rfl rfl rfl rfl rfl rfl ⟨rfl, rfl, rfl, rfl, rfl⟩ rfl rfl rfl rfl rfl (by kernel_rfl) Try.func5 (by kernel_rfl)
    (of_decide_eq_true (by kernel_rfl)) (by unfold Func.isWrapper; first | (rw [if_pos (by decide +kernel)]; kernel_rfl) | (rw [if_neg (by decide +kernel)]; exact ⟨rfl, rfl⟩))
    (fun os started H enc _ => stacks_lifted os started H enc)
#print axioms regionStacks_holds
end Go.Proofs.Ytihaopoehhnbkaa
