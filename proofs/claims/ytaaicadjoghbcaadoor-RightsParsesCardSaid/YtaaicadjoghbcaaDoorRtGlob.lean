/- What the listed variables of layer 11's laws give the walks; rights as arguments. -/
import Derived.Test.YtaaicadjoghbcaaDoorLawLaid
import Derived.Test.YtaaicadjoghbcaaDoorRtB
set_option linter.unusedSimpArgs false
set_option linter.unusedVariables false
set_option maxRecDepth 8000
namespace Go.Proofs.YtaaicadjoghbcaaDoor
open Go.ChangeShapes Go.WideShapes Go.ChangeAt Go.RowKit

theorem glob_of {W : World} {laid : List (String × DataW Unit)} (hL : laidMetH Tryd.prog laid W)
    (h1 : (laid.filter fun x => x.1 == "tipstaff/rights.helpers") = [("tipstaff/rights.helpers", Rows.laid_tipstaff_rights_helpers)])
    (h2 : (laid.filter fun x => x.1 == "math/bits.deBruijn64tab") = [("math/bits.deBruijn64tab", Rows.laid_math_bits_deBruijn64tab)]) : Glob W := by
  refine ⟨fun i hi => ?_, ?_⟩
  · have := laid_ints "tipstaff/rights.helpers" 0 70 21 .i32 [1, 2, 3, 5, 7, 87, 88, 89] hL h1 (by kernel_rfl) (by kernel_rfl) Tryd.underlying70 Tryd.underlying21 (by kernel_rfl)
    refine this i _ ?_
    rw [List.getD_eq_getElem?_getD, List.getElem?_eq_getElem (by simpa using hi)]
    rfl
  · have := laid_ints "math/bits.deBruijn64tab" 6 110 5 .u8 [0, 1, 56, 2, 57, 49, 28, 3, 61, 58, 42, 50, 38, 29, 17, 4, 62, 47, 59, 36, 45, 43, 51, 22, 53, 39, 33, 30, 24, 18, 12, 5, 63, 55, 48, 27, 60, 41, 37, 16, 46, 35, 44, 21, 52, 32, 23, 11, 54, 26, 40, 15, 34, 20, 31, 10, 25, 14, 19, 9, 13, 8, 7, 6] hL (by rw [h2]; rfl) (by kernel_rfl) (by kernel_rfl) Tryd.underlying110 Tryd.underlying5 (by kernel_rfl)
    exact this 15 4 rfl

section
variable {H : Type} {enc : TypeId × Value → H}
theorem open_rt {W : World} {sp : Nat → Bool} {base b0 : Nat} {r : Reach} {v : Value} {d : DataW H} {ps : List MemPlace} (hval : Value.okWide Tryd.prog W r b0 24 v)
    (h : DataW.Trod enc Tryd.prog W base sp true 24 v d ps) : ∃ x : Rt, x.wf ∧ v = x.val := by
  obtain ⟨cs, rfl, hs, n, hel⟩ := open_struct Tryd.underlying24 hval h
  have hs6 : cs.size = 6 := hs.trans (by kernel_rfl)
  obtain ⟨c, e0, c0, c1⟩ := field_int Tryd.underlying22 (by kernel_rfl) (hel 0 _ rfl)
  obtain ⟨p, e1, p0, p1⟩ := field_int Tryd.underlying22 (by kernel_rfl) (hel 1 _ rfl)
  obtain ⟨m, e2, m0, m1⟩ := field_int Tryd.underlying22 (by kernel_rfl) (hel 2 _ rfl)
  obtain ⟨q, e3, q0, q1⟩ := field_int Tryd.underlying22 (by kernel_rfl) (hel 3 _ rfl)
  obtain ⟨x, e4⟩ := field_bool Tryd.underlying4 (by kernel_rfl) (hel 4 _ rfl)
  obtain ⟨y, e5⟩ := field_bool Tryd.underlying4 (by kernel_rfl) (hel 5 _ rfl)
  have hmin : IntKind.u16.min = 0 := by decide
  have hmax : IntKind.u16.max = 65535 := by decide
  rw [hmin] at c0 p0 m0 q0
  rw [hmax] at c1 p1 m1 q1
  refine ⟨⟨c.toNat, p.toNat, m.toNat, q.toNat, x, y⟩, ⟨by show c.toNat < 65536; omega, by show p.toNat < 65536; omega, by show m.toNat < 65536; omega, by show q.toNat < 65536; omega⟩, ?_⟩
  simp only [Rt.val, Value.agg.injEq]
  simp only [Array.getElem?_toList] at e0 e1 e2 e3 e4 e5
  apply Array.ext_getElem?
  intro j
  rcases Nat.lt_or_ge j 6 with hj | hj
  · have : j = 0 ∨ j = 1 ∨ j = 2 ∨ j = 3 ∨ j = 4 ∨ j = 5 := by omega
    rcases this with rfl | rfl | rfl | rfl | rfl | rfl
    · rw [rt_0]; rw [show (cs[0]? : Option Value) = _ from e0]; congr 2; simp only; omega
    · rw [rt_1]; rw [show (cs[1]? : Option Value) = _ from e1]; congr 2; simp only; omega
    · rw [rt_2]; rw [show (cs[2]? : Option Value) = _ from e2]; congr 2; simp only; omega
    · rw [rt_3]; rw [show (cs[3]? : Option Value) = _ from e3]; congr 2; simp only; omega
    · rw [rt_4]; exact e4
    · rw [rt_5]; exact e5
  · rw [Array.getElem?_eq_none (by omega), Array.getElem?_eq_none (by rw [rt_size]; omega)]
end
end Go.Proofs.YtaaicadjoghbcaaDoor
