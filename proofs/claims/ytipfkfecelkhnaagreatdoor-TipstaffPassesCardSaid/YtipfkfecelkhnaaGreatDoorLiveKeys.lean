/- The keys of a map, collected and sorted, by the shelf's contracts laid at this program. -/
import Derived.Test.YtipfkfecelkhnaaGreatDoorLiveShelf
set_option linter.unusedSimpArgs false
set_option linter.unusedVariables false
namespace Go.Proofs
open Go.RowKit Go.Maps Go.Sort Go.Shelf
theorem Tryz.sortsA (m : Nat) : AnyZI.SortsIn Tryz.prog Tryz.sortedA_ren Fence.wide m :=
  ⟨fun blk off cap ss W hH hblk hsz => callsIn_wide.2 (AnyM.slices_Sort_int Tryz.sortA blk off cap ss W hH hblk hsz),
   fun p cap W => callsIn_wide.2 (AnyM.slices_Sort_int_none Tryz.sortA p cap W)⟩
theorem Tryz.keysCall (mb : Option Nat) (W : World) : CallsIn Fence.wide 5 Tryz.prog (Tryz.keysA_ren.f 7) #[.map mb] W fun e w' => e = .returned (.func (.func (Tryz.keysA_ren.f 10)) #[] #[.pointer (some ⟨W.heap.size, 0, none⟩)]) ∧ w' = W.alloc (.cells #[.map mb] (Tryz.keysA_ren.t 23)) := AnyZI.keys_in Tryz.keysA Fence.wide 5 trivial rfl mb W
/-- A map's entries, read for their keys alone. -/
def keysR : Value → Option (DataW Unit × List MemPlace) := fun _ => some (.lit (.bool true), [])
theorem Tryz.keys_own (w : World) (b : Nat) (ents : Array MapEntry) (clock : Nat) (ns : List Int) (hb : w.heap[b]? = some (.map ents clock)) (hst : MapKept.Stamped ents clock) (hk : ents.toList.map (·.key) = ns.map (Value.int .i64))
    (hr : ∀ n ∈ ns, -9223372036854775808 ≤ n ∧ n ≤ 9223372036854775807) (hl : ns.length ≤ 1000000000) :
    w.ownsMap Tryz.prog 3 keysR b ents.size (.map ((ents.toList.map (Go.WideElems.rg Tryz.prog 3 keysR)).foldr DataW.insert [])) ∧ (intKeys (.map ((ents.toList.map (Go.WideElems.rg Tryz.prog 3 keysR)).foldr DataW.insert []))).Perm ns := by
  have hsz : ents.size = ns.length := by have := congrArg List.length hk; simpa using this
  have hkey : ∀ x ∈ ents.toList, ∃ n, x.key = .int .i64 n ∧ -9223372036854775808 ≤ n ∧ n ≤ 9223372036854775807 := fun x hx => by
    have : x.key ∈ ns.map (Value.int .i64) := by rw [← hk]; exact List.mem_map.2 ⟨x, hx, rfl⟩
    obtain ⟨n, hn, e⟩ := List.mem_map.1 this
    exact ⟨n, e.symm, hr n hn⟩
  have hrd : ∀ x ∈ ents.toList, ∀ n, x.key = .int .i64 n → -9223372036854775808 ≤ n → n ≤ 9223372036854775807 → Go.WideElems.rd Tryz.prog 3 keysR x = some (.int .i64 n, .lit (.bool true)) := fun x _ n e h0 h1 => by
    obtain ⟨xk, xv, xb⟩ := x
    obtain rfl : xk = .int .i64 n := e
    exact Go.WideElems.rd_mk (Go.Maps.keyOf_int_mk Tryz.underlying3 (by simp only [Lit.wf, Bool.and_eq_true, decide_eq_true_eq]; exact ⟨h0, h1⟩)) (yv := (.lit (.bool true), [])) (show keysR xv = some _ from rfl)
  refine ⟨⟨ents, clock, hb, ⟨by rw [hsz]; simp only [maxLen]; omega, hst, fun x hx => ?_⟩, Nat.le_refl _, rfl⟩, ?_⟩
  · obtain ⟨n, e, h0, h1⟩ := hkey x hx
    exact ⟨_, hrd x hx n e h0 h1⟩
  · show (((ents.toList.map (Go.WideElems.rg Tryz.prog 3 keysR)).foldr DataW.insert []).map fun p => Go.intOf p.1).Perm ns
    refine ((Go.WideShapes.sorted_perm _).map _).trans ?_
    have : ∀ (l : List MapEntry) (ms : List Int), (∀ x ∈ l, x ∈ ents.toList) → l.map (·.key) = ms.map (Value.int .i64) → (l.map (Go.WideElems.rg Tryz.prog 3 keysR)).map (fun p => Go.intOf p.1) = ms := by
      intro l
      induction l with
      | nil => intro ms _ e; cases ms with | nil => rfl | cons _ _ => cases e
      | cons x r ih =>
        intro ms hm e
        cases ms with
        | nil => cases e
        | cons a ms =>
          simp only [List.map_cons, List.cons.injEq] at e ⊢
          have hx := hm x List.mem_cons_self
          obtain ⟨n, e1, h0, h1⟩ := hkey x hx
          have e2 : n = a := by have := e1.symm.trans e.1; injection this
          subst e2
          refine ⟨?_, ih ms (fun y hy => hm y (List.mem_cons_of_mem _ hy)) e.2⟩
          rw [Go.WideElems.rg_of (hrd x hx n e1 h0 h1)]; rfl
    rw [this _ ns (fun _ h => h) hk]
theorem Tryz.sorted_live (w : World) (b : Nat) (ents : Array MapEntry) (clock : Nat) (ns : List Int) (hb : w.heap[b]? = some (.map ents clock)) (hst : MapKept.Stamped ents clock) (hk : ents.toList.map (·.key) = ns.map (Value.int .i64))
    (hr : ∀ n ∈ ns, -9223372036854775808 ≤ n ∧ n ≤ 9223372036854775807) (hl : ns.length ≤ 1000000000) :
    Calls Tryz.prog 75 #[.func (.func (Tryz.keysA_ren.f 10)) #[] #[.pointer (some ⟨w.heap.size, 0, none⟩)]] (w.alloc (.cells #[.map (some b)] (Tryz.keysA_ren.t 23))) fun e w' => ∃ (v : Value) (ss : List Int), e = .returned v ∧ ss.Perm ns ∧
      w'.ownsRow (w.heap.size + 1) 3 1 v ss.length ((ss.mergeSort (fun x y => decide (x ≤ y))).map encZ) ∧ (v = .slice none 0 0 ↔ ss = []) ∧ Below (w.heap.size + 1) (w.alloc (.cells #[.map (some b)] (Tryz.keysA_ren.t 23))) w' := by
  obtain ⟨hown, hperm⟩ := Tryz.keys_own w b ents clock ns hb hst hk hr hl
  have hsz : ents.size = ns.length := by have := congrArg List.length hk; simpa using this
  have hbl := hown.lt
  have hD : Maps.size (.map ((ents.toList.map (Go.WideElems.rg Tryz.prog 3 keysR)).foldr DataW.insert [])) = ents.size := by
    simp [Maps.size, length_sorted]
  refine (callsIn_wide (n := 5)).1 ?_
  have hseq : SeqGives Fence.wide 2 Tryz.prog (Tryz.keysA_ren.f 10) #[.pointer (some ⟨w.heap.size, 0, none⟩)] encZ (fun ss => ss.Perm (intKeys (.map ((ents.toList.map (Go.WideElems.rg Tryz.prog 3 keysR)).foldr DataW.insert [])))) (Maps.size (.map ((ents.toList.map (Go.WideElems.rg Tryz.prog 3 keysR)).foldr DataW.insert []))) (w.alloc (.cells #[.map (some b)] (Tryz.keysA_ren.t 23))) :=
    AnyZI.keys_gives (ρ := Tryz.keysA_ren) { Tryz.keysA with } Fence.wide _ trivial rfl (by omega) w.heap.size b ents.size _ _ (by simp) (by simp) (by
      obtain ⟨es, clock, hb, Ft, hs, hD⟩ := hown
      exact ⟨es, clock, (Below.heap_alloc _ _ b hbl).trans hb, Ft, hs, hD⟩)
  have cS := AnyZI.sorted_in Tryz.sortedA Fence.wide 5 trivial trivial trivial trivial rfl (by omega) (Tryz.sortsA _) (enters_of Tryz.func127 (by kernel_rfl) rfl) (Tryz.keysA_ren.f 10) #[.pointer (some ⟨w.heap.size, 0, none⟩)] trivial (enters_of Tryz.func128 (by kernel_rfl) rfl) _ _ (by rw [hD, hsz]; simp only [maxLen]; omega) (by rw [hD, hsz]; omega) _ hseq
  refine CallsIn.mono cS fun e w' he => ?_
  obtain ⟨v, ss, rfl, h1, h2, h3, h4⟩ := he
  have e1 : (w.alloc (.cells #[.map (some b)] (Tryz.keysA_ren.t 23))).heap.size = w.heap.size + 1 := by simp
  rw [e1] at h2 h4
  exact ⟨v, ss, rfl, h1.trans hperm, h2, h3, h4⟩
end Go.Proofs
