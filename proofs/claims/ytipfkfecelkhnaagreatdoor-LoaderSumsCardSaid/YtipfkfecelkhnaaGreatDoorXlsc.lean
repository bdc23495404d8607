/- LoaderSums: symbols (mklsu.py). -/
import Derived.Test.YtipfkfecelkhnaaGreatDoorXlst
import Derived.Test.YtipfkfecelkhnaaGreatDoorEngXN
import Derived.Test.YtipfkfecelkhnaaGreatDoorXlztab
set_option maxRecDepth 100000
set_option linter.unusedVariables false
namespace Go.Proofs.YtipfkfecelkhnaaGreatDoor
open Go Go.Eng
namespace lsu
def θe (x0 x1 L : Int) : Nat → Value := fun j => match j with
  | 0 => .int .i32 x0
  | 1 => .int .i32 x1
  | 2 => .int .i32 (IntKind.i32.wrap (BitVec.ofInt 32 x0 ^^^ BitVec.ofInt 32 x1).toNat)
  | 3 => .int .i64 L
  | _ => .bool false
theorem plain (x0 x1 L : Int) : ∀ j, plainV (θe x0 x1 L j) = true := by intro j; unfold θe; split <;> rfl
def e2 : List (U2 × Value × Value × Value) := [((.bin .xor), (.chan (some 0)), (.chan (some 1)), (.chan (some 2))), ((.bin .lss), (.int .i64 0), (.chan (some 3)), (.bool true)), ((.bin .lss), (.int .i64 1), (.chan (some 3)), (.bool true)), ((.bin .lss), (.int .i64 2), (.chan (some 3)), (.bool true)), ((.bin .lss), (.int .i64 3), (.chan (some 3)), (.bool true))]
theorem he2 (t : Tab) (p : Nat → Int) (x0 x1 : Int) {L : Int} (hL : 4 ≤ L) : ∀ x ∈ e2, Rule2 (thTab t p (θe x0 x1 L)) x := by
  intro x hx
  simp only [e2, List.mem_cons, List.not_mem_nil, or_false] at hx
  have key : ∀ i : Int, i < L → Rule2 (thTab t p (θe x0 x1 L)) ((.bin .lss), (.int .i64 i), (.chan (some 3)), (.bool true)) := fun i hi => ⟨rfl, rfl, rfl, congrArg (fun z => some (Value.bool z)) (decide_eq_true hi)⟩
  rcases hx with rfl | rfl | rfl | rfl | rfl
  · exact ⟨rfl, rfl, rfl, rfl⟩
  · exact key 0 (by omega)
  · exact key 1 (by omega)
  · exact key 2 (by omega)
  · exact key 3 (by omega)
noncomputable abbrev sy (t : Tab) (p : Nat → Int) (x0 x1 L : Int) (hL : 4 ≤ L) (s : RowS) (D : List RowD) (hf : Fits (thTab t p (θe x0 x1 L)) [s] D) : Sy :=
  syRowsT t p (θe x0 x1 L) (plain x0 x1 L) [] e2 [] (fun x hx => nomatch hx) rfl (he2 t p x0 x1 hL) rfl (fun x hx => nomatch hx) rfl [s] D hf
def es : List Value := [.chan (some 100000), .chan (some 100001), .chan (some 100002)]
abbrev R (n : Nat) : RowS := (.int .i64 (.ofNat n), es.take n)
abbrev RB : RowS := (.chan (some 3), es)
end lsu
end Go.Proofs.YtipfkfecelkhnaaGreatDoor
