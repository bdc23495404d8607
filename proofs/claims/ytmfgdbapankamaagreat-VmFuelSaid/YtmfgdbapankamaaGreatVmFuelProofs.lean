/- VmFuel returns true for every input, and its arguments are as they were; no condition. -/
import Derived.Test.YtmfgdbapankamaaGreatGr37
set_option linter.unusedSimpArgs false
set_option linter.unusedVariables false
namespace Go.Proofs.YtmfgdbapankamaaGreat
open Go.ChangeShapes Go.WideShapes Go.ChangeAt Go.RowKit

def fuelWit : Array Value := #[.slice none 0 0] ++ Array.replicate 32 (.int .u8 0) ++ #[.slice none 0 0, .slice none 0 0, .int .i64 0, .int .u64 0, .slice none 0 0, .int .i64 0]
set_option maxRecDepth 100000 in
theorem fuel_lifted (os : Os) (started : os.Started) (H : Type) (enc : TypeId × Value → H) :
    ReturnsInHanded {} Tryz.checked os 3 .any (Rows.vmFuelSpec.pre6 enc Tryz.prog Tryz.f3 Rows.vmFuelRow.domain false)
      (Rows.vmFuelSpec.post enc Tryz.prog Tryz.f3 false true false false) := by
  refine returnsInHanded_of_change (C := Tryz.checked) Tryz.own started (by kernel_rfl) Tryz.func3
    (ChangeSpec.witness6 (enc := enc) (C := Tryz.checked) false ⟨#[], #[.agg fuelWit, .int .i64 0], []⟩ 8 (by kernel_rfl) (by kernel_rfl) (by kernel_rfl) (by kernel_rfl)) ?_
  intro W base args ds gs before hval0 hW hcnd _
  have hval : ∀ (j : Nat) t v, Tryz.f3.params[j]? = some t → args[j]? = some v → Value.okWide Tryz.prog W .any base t v := hval0
  have hW' := hW
  obtain ⟨p, q, hA0, hV, rfl, hfz, hnd⟩ := hW
  have hA : DataW.TrodAll enc Tryz.prog W 0 (fun _ => true) true Tryz.f3.params.toList args.toList ds p := hA0
  rw [Tryz.params3] at hA hval
  obtain ⟨v0, v1, d0, d1, p0, p1, rfl, rfl, rfl, h0, h1⟩ := trodAll_two hA
  obtain ⟨rfl, rfl⟩ := trodVars_none hV
  obtain ⟨x1, rfl, rfl, rfl, w1⟩ := open_int Tryz.underlying3 (hval 1 3 v1 rfl rfl) h1
  obtain ⟨cs, xs, ctx, specs, puts, frz, clock, fuel, rfl, hF⟩ := open_case (hval 0 29 v0 rfl rfl) h0
  clear hA0 hval0
  refine (vfuel_ret hF x1).calls.mono fun e W' he => ?_
  obtain ⟨v, rfl, rfl, hk⟩ := he
  exact ⟨_, rfl, law_post Tryz.laidOut hW' rfl (by kernel_rfl) (hk.below fun _ _ h => h) rfl (by kernel_rfl) Tryz.underlying4⟩

theorem vmFuel_holds : Rows.VmFuelSaid :=
  OpenClaim.holds_of_wide 3 Tryz.f3 rfl rfl rfl rfl rfl rfl rfl ⟨rfl, rfl, rfl, rfl, rfl⟩ rfl rfl rfl rfl rfl (by kernel_rfl) Tryz.func3 (by kernel_rfl)
    (of_decide_eq_true (by kernel_rfl)) (by unfold Func.isWrapper; first | (rw [if_pos (by decide +kernel)]; kernel_rfl) | (rw [if_neg (by decide +kernel)]; exact ⟨rfl, rfl⟩))
    (fun os started H enc _ => fuel_lifted os started H enc)
#print axioms vmFuel_holds
end Go.Proofs.YtmfgdbapankamaaGreat
