/- Commands of functions, and that they are what the code comes to. -/
import Derived.Test.YtepbpapbkonhnaaEngK
import Derived.Test.YtepbpapbkonhnaaRows
namespace Go.Proofs.Ytepbpapbkonhnaa
open Go.Eng
/- tipstaff/tipstafflaw20.runs -/
def c_tipstafflaw20_runs : Cmd :=
  (.seq
   (.set 0 (.const (.bool false)))
  (.seq
   (.seq
    (.chk [(.upd 0 1 (.const (.agg #[(.int .u8 0), (.int .u8 0), (.int .u8 0), (.int .i16 0), (.int .i32 0)])) (.const (.int .u8 149))), (.upd 4 1 (.upd 0 1 (.const (.agg #[(.int .u8 0), (.int .u8 0), (.int .u8 0), (.int .i16 0), (.int .i32 0)])) (.const (.int .u8 183))) (.const (.int .i32 7)))])
   (.seq
    (.row (some 1) 55 2 (.upd 5 5 (.upd 0 5 (.const (.agg #[(.int .u8 0), (.int .u8 0), (.int .u8 0), (.int .i16 0), (.int .i32 0), (.int .u8 0), (.int .u8 0), (.int .u8 0), (.int .i16 0), (.int .i32 0)])) (.upd 4 1 (.upd 0 1 (.const (.agg #[(.int .u8 0), (.int .u8 0), (.int .u8 0), (.int .i16 0), (.int .i32 0)])) (.const (.int .u8 183))) (.const (.int .i32 7)))) (.upd 0 1 (.const (.agg #[(.int .u8 0), (.int .u8 0), (.int .u8 0), (.int .i16 0), (.int .i32 0)])) (.const (.int .u8 149)))) [])
   (.set 2 (.var 1))))
  (.seq
   (.seq
    (.chk [(.upd 35 1 (.const (.agg #[(.int .u8 0), (.int .u8 0), (.int .u8 0), (.int .u8 0), (.int .u8 0), (.int .u8 0), (.int .u8 0), (.int .u8 0), (.int .u8 0), (.int .u8 0), (.int .u8 0), (.int .u8 0), (.int .u8 0), (.int .u8 0), (.int .u8 0), (.int .u8 0), (.int .u8 0), (.int .u8 0), (.int .u8 0), (.int .u8 0), (.int .u8 0), (.int .u8 0), (.int .u8 0), (.int .u8 0), (.int .u8 0), (.int .u8 0), (.int .u8 0), (.int .u8 0), (.int .u8 0), (.int .u8 0), (.int .u8 0), (.int .u8 0), (.slice none 0 0), (.int .u64 0), (.slice none 0 0), (.int .i64 0)])) (.const (.int .i64 2)))])
   (.seq
    (.call (some 3) 22 [(.var 2), (.upd 35 1 (.const (.agg #[(.int .u8 0), (.int .u8 0), (.int .u8 0), (.int .u8 0), (.int .u8 0), (.int .u8 0), (.int .u8 0), (.int .u8 0), (.int .u8 0), (.int .u8 0), (.int .u8 0), (.int .u8 0), (.int .u8 0), (.int .u8 0), (.int .u8 0), (.int .u8 0), (.int .u8 0), (.int .u8 0), (.int .u8 0), (.int .u8 0), (.int .u8 0), (.int .u8 0), (.int .u8 0), (.int .u8 0), (.int .u8 0), (.int .u8 0), (.int .u8 0), (.int .u8 0), (.int .u8 0), (.int .u8 0), (.int .u8 0), (.int .u8 0), (.slice none 0 0), (.int .u64 0), (.slice none 0 0), (.int .i64 0)])) (.const (.int .i64 2)))] [])
   (.seq
    (.chk [(.upd 35 1 (.const (.agg #[(.int .u8 0), (.int .u8 0), (.int .u8 0), (.int .u8 0), (.int .u8 0), (.int .u8 0), (.int .u8 0), (.int .u8 0), (.int .u8 0), (.int .u8 0), (.int .u8 0), (.int .u8 0), (.int .u8 0), (.int .u8 0), (.int .u8 0), (.int .u8 0), (.int .u8 0), (.int .u8 0), (.int .u8 0), (.int .u8 0), (.int .u8 0), (.int .u8 0), (.int .u8 0), (.int .u8 0), (.int .u8 0), (.int .u8 0), (.int .u8 0), (.int .u8 0), (.int .u8 0), (.int .u8 0), (.int .u8 0), (.int .u8 0), (.slice none 0 0), (.int .u64 0), (.slice none 0 0), (.int .i64 0)])) (.const (.int .i64 1)))])
   (.seq
    (.call (some 4) 22 [(.var 2), (.upd 35 1 (.const (.agg #[(.int .u8 0), (.int .u8 0), (.int .u8 0), (.int .u8 0), (.int .u8 0), (.int .u8 0), (.int .u8 0), (.int .u8 0), (.int .u8 0), (.int .u8 0), (.int .u8 0), (.int .u8 0), (.int .u8 0), (.int .u8 0), (.int .u8 0), (.int .u8 0), (.int .u8 0), (.int .u8 0), (.int .u8 0), (.int .u8 0), (.int .u8 0), (.int .u8 0), (.int .u8 0), (.int .u8 0), (.int .u8 0), (.int .u8 0), (.int .u8 0), (.int .u8 0), (.int .u8 0), (.int .u8 0), (.int .u8 0), (.int .u8 0), (.slice none 0 0), (.int .u64 0), (.slice none 0 0), (.int .i64 0)])) (.const (.int .i64 1)))] [])
   (.seq
    (.new (some 5) 58 (.const (.agg #[(.int .u64 0), (.int .i64 0), (.int .i64 0), (.int .i64 0)])) [])
   (.seq
    (.new (some 6) 58 (.const (.agg #[(.int .u64 0), (.int .i64 0), (.int .i64 0), (.int .i64 0)])) [])
   (.seq
    (.store 4 (.var 5) (.var 3) [])
   (.store 4 (.var 6) (.var 4) []))))))))
  (.seq
   (.seq
    (.chk [(.pick (.eqx false (.cons 0 none .int (.cons 1 none .int (.cons 2 none .int (.cons 3 none .int .nil)))) (.ld (some 4) (.var 5)) (.upd 2 1 (.upd 1 1 (.upd 0 1 (.const (.agg #[(.int .u64 0), (.int .i64 0), (.int .i64 0), (.int .i64 0)])) (.const (.int .u64 7))) (.const (.int .i64 1))) (.const (.int .i64 2)))) (.eqx false (.cons 0 none .int (.cons 1 none .int (.cons 2 none .int (.cons 3 none .int .nil)))) (.ld (some 4) (.var 6)) (.upd 3 1 (.upd 2 1 (.upd 1 1 (.const (.agg #[(.int .u64 0), (.int .i64 0), (.int .i64 0), (.int .i64 0)])) (.const (.int .i64 1))) (.const (.int .i64 1))) (.const (.int .i64 62)))) (.const (.bool false))), (.pick (.eqx false (.cons 0 none .int (.cons 1 none .int (.cons 2 none .int (.cons 3 none .int .nil)))) (.ld (some 4) (.var 5)) (.upd 2 1 (.upd 1 1 (.upd 0 1 (.const (.agg #[(.int .u64 0), (.int .i64 0), (.int .i64 0), (.int .i64 0)])) (.const (.int .u64 7))) (.const (.int .i64 1))) (.const (.int .i64 2)))) (.eqx false (.cons 0 none .int (.cons 1 none .int (.cons 2 none .int (.cons 3 none .int .nil)))) (.ld (some 4) (.var 6)) (.upd 3 1 (.upd 2 1 (.upd 1 1 (.const (.agg #[(.int .u64 0), (.int .i64 0), (.int .i64 0), (.int .i64 0)])) (.const (.int .i64 1))) (.const (.int .i64 1))) (.const (.int .i64 62)))) (.const (.bool false))), (.pick (.eqx false (.cons 0 none .int (.cons 1 none .int (.cons 2 none .int (.cons 3 none .int .nil)))) (.ld (some 4) (.var 5)) (.upd 2 1 (.upd 1 1 (.upd 0 1 (.const (.agg #[(.int .u64 0), (.int .i64 0), (.int .i64 0), (.int .i64 0)])) (.const (.int .u64 7))) (.const (.int .i64 1))) (.const (.int .i64 2)))) (.upd 3 1 (.upd 2 1 (.upd 1 1 (.const (.agg #[(.int .u64 0), (.int .i64 0), (.int .i64 0), (.int .i64 0)])) (.const (.int .i64 1))) (.const (.int .i64 1))) (.const (.int .i64 62))) (.const (.bool false))), (.pick (.eqx false (.cons 0 none .int (.cons 1 none .int (.cons 2 none .int (.cons 3 none .int .nil)))) (.ld (some 4) (.var 5)) (.upd 2 1 (.upd 1 1 (.upd 0 1 (.const (.agg #[(.int .u64 0), (.int .i64 0), (.int .i64 0), (.int .i64 0)])) (.const (.int .u64 7))) (.const (.int .i64 1))) (.const (.int .i64 2)))) (.ld (some 4) (.var 6)) (.const (.bool false))), (.eqx false (.cons 0 none .int (.cons 1 none .int (.cons 2 none .int (.cons 3 none .int .nil)))) (.ld (some 4) (.var 5)) (.upd 2 1 (.upd 1 1 (.upd 0 1 (.const (.agg #[(.int .u64 0), (.int .i64 0), (.int .i64 0), (.int .i64 0)])) (.const (.int .u64 7))) (.const (.int .i64 1))) (.const (.int .i64 2)))), (.eqx false (.cons 0 none .int (.cons 1 none .int (.cons 2 none .int (.cons 3 none .int .nil)))) (.ld (some 4) (.var 5)) (.upd 2 1 (.upd 1 1 (.upd 0 1 (.const (.agg #[(.int .u64 0), (.int .i64 0), (.int .i64 0), (.int .i64 0)])) (.const (.int .u64 7))) (.const (.int .i64 1))) (.const (.int .i64 2)))), (.upd 2 1 (.upd 1 1 (.upd 0 1 (.const (.agg #[(.int .u64 0), (.int .i64 0), (.int .i64 0), (.int .i64 0)])) (.const (.int .u64 7))) (.const (.int .i64 1))) (.const (.int .i64 2)))])
   (.set 0 (.pick (.eqx false (.cons 0 none .int (.cons 1 none .int (.cons 2 none .int (.cons 3 none .int .nil)))) (.ld (some 4) (.var 5)) (.upd 2 1 (.upd 1 1 (.upd 0 1 (.const (.agg #[(.int .u64 0), (.int .i64 0), (.int .i64 0), (.int .i64 0)])) (.const (.int .u64 7))) (.const (.int .i64 1))) (.const (.int .i64 2)))) (.eqx false (.cons 0 none .int (.cons 1 none .int (.cons 2 none .int (.cons 3 none .int .nil)))) (.ld (some 4) (.var 6)) (.upd 3 1 (.upd 2 1 (.upd 1 1 (.const (.agg #[(.int .u64 0), (.int .i64 0), (.int .i64 0), (.int .i64 0)])) (.const (.int .i64 1))) (.const (.int .i64 1))) (.const (.int .i64 62)))) (.const (.bool false)))))
  .ret))))
abbrev v_tipstafflaw20_runs : List Nat := [0, 6, 1, 9, 12, 2, 3]
abbrev k_tipstafflaw20_runs : List (List Nat) := []
abbrev r_tipstafflaw20_runs : List Ex := [(.var 0)]
theorem ok_tipstafflaw20_runs : compile Try.prog Try.f23 v_tipstafflaw20_runs k_tipstafflaw20_runs = some (c_tipstafflaw20_runs, r_tipstafflaw20_runs) := by kernel_rfl

/- tipstaff/tipstafflaw20.VmCounts -/
def c_tipstafflaw20_VmCounts : Cmd :=
  (.seq
   (.set 2 (.const (.bool false)))
  (.seq
   (.set 3 (.conv .i32 (.bin .rem (.conv .u64 (.var 0)) (.const (.int .u64 1000)))))
  (.seq
   (.seq
    (.chk [(.upd 0 1 (.const (.agg #[(.int .u8 0), (.int .u8 0), (.int .u8 0), (.int .i16 0), (.int .i32 0)])) (.const (.int .u8 149))), (.upd 3 1 (.upd 4 1 (.upd 0 1 (.const (.agg #[(.int .u8 0), (.int .u8 0), (.int .u8 0), (.int .i16 0), (.int .i32 0)])) (.const (.int .u8 85))) (.bin .add (.var 3) (.const (.int .i32 1)))) (.const (.int .i16 (-2)))), (.upd 4 1 (.upd 0 1 (.const (.agg #[(.int .u8 0), (.int .u8 0), (.int .u8 0), (.int .i16 0), (.int .i32 0)])) (.const (.int .u8 7))) (.const (.int .i32 1))), (.upd 0 1 (.const (.agg #[(.int .u8 0), (.int .u8 0), (.int .u8 0), (.int .i16 0), (.int .i32 0)])) (.const (.int .u8 183)))])
   (.seq
    (.row (some 4) 55 4 (.upd 15 5 (.upd 10 5 (.upd 5 5 (.upd 0 5 (.const (.agg #[(.int .u8 0), (.int .u8 0), (.int .u8 0), (.int .i16 0), (.int .i32 0), (.int .u8 0), (.int .u8 0), (.int .u8 0), (.int .i16 0), (.int .i32 0), (.int .u8 0), (.int .u8 0), (.int .u8 0), (.int .i16 0), (.int .i32 0), (.int .u8 0), (.int .u8 0), (.int .u8 0), (.int .i16 0), (.int .i32 0)])) (.upd 0 1 (.const (.agg #[(.int .u8 0), (.int .u8 0), (.int .u8 0), (.int .i16 0), (.int .i32 0)])) (.const (.int .u8 183)))) (.upd 4 1 (.upd 0 1 (.const (.agg #[(.int .u8 0), (.int .u8 0), (.int .u8 0), (.int .i16 0), (.int .i32 0)])) (.const (.int .u8 7))) (.const (.int .i32 1)))) (.upd 3 1 (.upd 4 1 (.upd 0 1 (.const (.agg #[(.int .u8 0), (.int .u8 0), (.int .u8 0), (.int .i16 0), (.int .i32 0)])) (.const (.int .u8 85))) (.bin .add (.var 3) (.const (.int .i32 1)))) (.const (.int .i16 (-2))))) (.upd 0 1 (.const (.agg #[(.int .u8 0), (.int .u8 0), (.int .u8 0), (.int .i16 0), (.int .i32 0)])) (.const (.int .u8 149)))) [])
   (.set 5 (.var 4))))
  (.seq
   (.seq
    (.chk [(.upd 35 1 (.const (.agg #[(.int .u8 0), (.int .u8 0), (.int .u8 0), (.int .u8 0), (.int .u8 0), (.int .u8 0), (.int .u8 0), (.int .u8 0), (.int .u8 0), (.int .u8 0), (.int .u8 0), (.int .u8 0), (.int .u8 0), (.int .u8 0), (.int .u8 0), (.int .u8 0), (.int .u8 0), (.int .u8 0), (.int .u8 0), (.int .u8 0), (.int .u8 0), (.int .u8 0), (.int .u8 0), (.int .u8 0), (.int .u8 0), (.int .u8 0), (.int .u8 0), (.int .u8 0), (.int .u8 0), (.int .u8 0), (.int .u8 0), (.int .u8 0), (.slice none 0 0), (.int .u64 0), (.slice none 0 0), (.int .i64 0)])) (.const (.int .i64 4096)))])
   (.seq
    (.call (some 6) 22 [(.var 5), (.upd 35 1 (.const (.agg #[(.int .u8 0), (.int .u8 0), (.int .u8 0), (.int .u8 0), (.int .u8 0), (.int .u8 0), (.int .u8 0), (.int .u8 0), (.int .u8 0), (.int .u8 0), (.int .u8 0), (.int .u8 0), (.int .u8 0), (.int .u8 0), (.int .u8 0), (.int .u8 0), (.int .u8 0), (.int .u8 0), (.int .u8 0), (.int .u8 0), (.int .u8 0), (.int .u8 0), (.int .u8 0), (.int .u8 0), (.int .u8 0), (.int .u8 0), (.int .u8 0), (.int .u8 0), (.int .u8 0), (.int .u8 0), (.int .u8 0), (.int .u8 0), (.slice none 0 0), (.int .u64 0), (.slice none 0 0), (.int .i64 0)])) (.const (.int .i64 4096)))] [])
   (.seq
    (.new (some 7) 58 (.const (.agg #[(.int .u64 0), (.int .i64 0), (.int .i64 0), (.int .i64 0)])) [])
   (.store 4 (.var 7) (.var 6) []))))
  (.seq
   (.seq
    (.chk [(.upd 35 1 (.const (.agg #[(.int .u8 0), (.int .u8 0), (.int .u8 0), (.int .u8 0), (.int .u8 0), (.int .u8 0), (.int .u8 0), (.int .u8 0), (.int .u8 0), (.int .u8 0), (.int .u8 0), (.int .u8 0), (.int .u8 0), (.int .u8 0), (.int .u8 0), (.int .u8 0), (.int .u8 0), (.int .u8 0), (.int .u8 0), (.int .u8 0), (.int .u8 0), (.int .u8 0), (.int .u8 0), (.int .u8 0), (.int .u8 0), (.int .u8 0), (.int .u8 0), (.int .u8 0), (.int .u8 0), (.int .u8 0), (.int .u8 0), (.int .u8 0), (.slice none 0 0), (.int .u64 0), (.slice none 0 0), (.int .i64 0)])) (.bin .add (.bin .mul (.const (.int .i64 2)) (.conv .i64 (.var 3))) (.const (.int .i64 3))))])
   (.seq
    (.call (some 8) 22 [(.var 5), (.upd 35 1 (.const (.agg #[(.int .u8 0), (.int .u8 0), (.int .u8 0), (.int .u8 0), (.int .u8 0), (.int .u8 0), (.int .u8 0), (.int .u8 0), (.int .u8 0), (.int .u8 0), (.int .u8 0), (.int .u8 0), (.int .u8 0), (.int .u8 0), (.int .u8 0), (.int .u8 0), (.int .u8 0), (.int .u8 0), (.int .u8 0), (.int .u8 0), (.int .u8 0), (.int .u8 0), (.int .u8 0), (.int .u8 0), (.int .u8 0), (.int .u8 0), (.int .u8 0), (.int .u8 0), (.int .u8 0), (.int .u8 0), (.int .u8 0), (.int .u8 0), (.slice none 0 0), (.int .u64 0), (.slice none 0 0), (.int .i64 0)])) (.bin .add (.bin .mul (.const (.int .i64 2)) (.conv .i64 (.var 3))) (.const (.int .i64 3))))] [])
   (.seq
    (.new (some 9) 58 (.const (.agg #[(.int .u64 0), (.int .i64 0), (.int .i64 0), (.int .i64 0)])) [])
   (.store 4 (.var 9) (.var 8) []))))
  (.seq
   (.seq
    (.call (some 10) 23 [] [])
   (.seq
    (.chk [(.pick (.pick (.pick (.var 10) (.eqx false (.cons 0 none .int (.cons 1 none .int (.cons 2 none .int (.cons 3 none .int .nil)))) (.ld (some 4) (.var 7)) (.upd 2 1 (.upd 1 1 (.upd 0 1 (.const (.agg #[(.int .u64 0), (.int .i64 0), (.int .i64 0), (.int .i64 0)])) (.bin .add (.conv .u64 (.var 3)) (.const (.int .u64 1)))) (.const (.int .i64 3))) (.bin .add (.bin .mul (.const (.int .i64 2)) (.conv .i64 (.var 3))) (.const (.int .i64 4))))) (.const (.bool false))) (.bin .eql (.ld none (.offp 3 (.var 9))) (.const (.int .i64 62))) (.const (.bool false))) (.bin .eql (.ld none (.offp 2 (.var 9))) (.bin .add (.bin .mul (.const (.int .i64 2)) (.conv .i64 (.var 3))) (.const (.int .i64 3)))) (.const (.bool false))), (.pick (.pick (.pick (.var 10) (.eqx false (.cons 0 none .int (.cons 1 none .int (.cons 2 none .int (.cons 3 none .int .nil)))) (.ld (some 4) (.var 7)) (.upd 2 1 (.upd 1 1 (.upd 0 1 (.const (.agg #[(.int .u64 0), (.int .i64 0), (.int .i64 0), (.int .i64 0)])) (.bin .add (.conv .u64 (.var 3)) (.const (.int .u64 1)))) (.const (.int .i64 3))) (.bin .add (.bin .mul (.const (.int .i64 2)) (.conv .i64 (.var 3))) (.const (.int .i64 4))))) (.const (.bool false))) (.bin .eql (.ld none (.offp 3 (.var 9))) (.const (.int .i64 62))) (.const (.bool false))) (.bin .eql (.ld none (.offp 2 (.var 9))) (.bin .add (.bin .mul (.const (.int .i64 2)) (.conv .i64 (.var 3))) (.const (.int .i64 3)))) (.const (.bool false))), (.pick (.pick (.pick (.var 10) (.eqx false (.cons 0 none .int (.cons 1 none .int (.cons 2 none .int (.cons 3 none .int .nil)))) (.ld (some 4) (.var 7)) (.upd 2 1 (.upd 1 1 (.upd 0 1 (.const (.agg #[(.int .u64 0), (.int .i64 0), (.int .i64 0), (.int .i64 0)])) (.bin .add (.conv .u64 (.var 3)) (.const (.int .u64 1)))) (.const (.int .i64 3))) (.bin .add (.bin .mul (.const (.int .i64 2)) (.conv .i64 (.var 3))) (.const (.int .i64 4))))) (.const (.bool false))) (.bin .eql (.ld none (.offp 3 (.var 9))) (.const (.int .i64 62))) (.const (.bool false))) (.bin .add (.bin .mul (.const (.int .i64 2)) (.conv .i64 (.var 3))) (.const (.int .i64 3))) (.const (.bool false))), (.pick (.pick (.pick (.var 10) (.eqx false (.cons 0 none .int (.cons 1 none .int (.cons 2 none .int (.cons 3 none .int .nil)))) (.ld (some 4) (.var 7)) (.upd 2 1 (.upd 1 1 (.upd 0 1 (.const (.agg #[(.int .u64 0), (.int .i64 0), (.int .i64 0), (.int .i64 0)])) (.bin .add (.conv .u64 (.var 3)) (.const (.int .u64 1)))) (.const (.int .i64 3))) (.bin .add (.bin .mul (.const (.int .i64 2)) (.conv .i64 (.var 3))) (.const (.int .i64 4))))) (.const (.bool false))) (.bin .eql (.ld none (.offp 3 (.var 9))) (.const (.int .i64 62))) (.const (.bool false))) (.bin .mul (.const (.int .i64 2)) (.conv .i64 (.var 3))) (.const (.bool false))), (.pick (.pick (.pick (.var 10) (.eqx false (.cons 0 none .int (.cons 1 none .int (.cons 2 none .int (.cons 3 none .int .nil)))) (.ld (some 4) (.var 7)) (.upd 2 1 (.upd 1 1 (.upd 0 1 (.const (.agg #[(.int .u64 0), (.int .i64 0), (.int .i64 0), (.int .i64 0)])) (.bin .add (.conv .u64 (.var 3)) (.const (.int .u64 1)))) (.const (.int .i64 3))) (.bin .add (.bin .mul (.const (.int .i64 2)) (.conv .i64 (.var 3))) (.const (.int .i64 4))))) (.const (.bool false))) (.bin .eql (.ld none (.offp 3 (.var 9))) (.const (.int .i64 62))) (.const (.bool false))) (.conv .i64 (.var 3)) (.const (.bool false))), (.pick (.pick (.pick (.var 10) (.eqx false (.cons 0 none .int (.cons 1 none .int (.cons 2 none .int (.cons 3 none .int .nil)))) (.ld (some 4) (.var 7)) (.upd 2 1 (.upd 1 1 (.upd 0 1 (.const (.agg #[(.int .u64 0), (.int .i64 0), (.int .i64 0), (.int .i64 0)])) (.bin .add (.conv .u64 (.var 3)) (.const (.int .u64 1)))) (.const (.int .i64 3))) (.bin .add (.bin .mul (.const (.int .i64 2)) (.conv .i64 (.var 3))) (.const (.int .i64 4))))) (.const (.bool false))) (.bin .eql (.ld none (.offp 3 (.var 9))) (.const (.int .i64 62))) (.const (.bool false))) (.var 3) (.const (.bool false))), (.pick (.pick (.pick (.var 10) (.eqx false (.cons 0 none .int (.cons 1 none .int (.cons 2 none .int (.cons 3 none .int .nil)))) (.ld (some 4) (.var 7)) (.upd 2 1 (.upd 1 1 (.upd 0 1 (.const (.agg #[(.int .u64 0), (.int .i64 0), (.int .i64 0), (.int .i64 0)])) (.bin .add (.conv .u64 (.var 3)) (.const (.int .u64 1)))) (.const (.int .i64 3))) (.bin .add (.bin .mul (.const (.int .i64 2)) (.conv .i64 (.var 3))) (.const (.int .i64 4))))) (.const (.bool false))) (.bin .eql (.ld none (.offp 3 (.var 9))) (.const (.int .i64 62))) (.const (.bool false))) (.ld none (.offp 2 (.var 9))) (.const (.bool false))), (.pick (.pick (.pick (.var 10) (.eqx false (.cons 0 none .int (.cons 1 none .int (.cons 2 none .int (.cons 3 none .int .nil)))) (.ld (some 4) (.var 7)) (.upd 2 1 (.upd 1 1 (.upd 0 1 (.const (.agg #[(.int .u64 0), (.int .i64 0), (.int .i64 0), (.int .i64 0)])) (.bin .add (.conv .u64 (.var 3)) (.const (.int .u64 1)))) (.const (.int .i64 3))) (.bin .add (.bin .mul (.const (.int .i64 2)) (.conv .i64 (.var 3))) (.const (.int .i64 4))))) (.const (.bool false))) (.bin .eql (.ld none (.offp 3 (.var 9))) (.const (.int .i64 62))) (.const (.bool false))) (.offp 2 (.var 9)) (.const (.bool false))), (.pick (.pick (.var 10) (.eqx false (.cons 0 none .int (.cons 1 none .int (.cons 2 none .int (.cons 3 none .int .nil)))) (.ld (some 4) (.var 7)) (.upd 2 1 (.upd 1 1 (.upd 0 1 (.const (.agg #[(.int .u64 0), (.int .i64 0), (.int .i64 0), (.int .i64 0)])) (.bin .add (.conv .u64 (.var 3)) (.const (.int .u64 1)))) (.const (.int .i64 3))) (.bin .add (.bin .mul (.const (.int .i64 2)) (.conv .i64 (.var 3))) (.const (.int .i64 4))))) (.const (.bool false))) (.bin .eql (.ld none (.offp 3 (.var 9))) (.const (.int .i64 62))) (.const (.bool false))), (.pick (.pick (.var 10) (.eqx false (.cons 0 none .int (.cons 1 none .int (.cons 2 none .int (.cons 3 none .int .nil)))) (.ld (some 4) (.var 7)) (.upd 2 1 (.upd 1 1 (.upd 0 1 (.const (.agg #[(.int .u64 0), (.int .i64 0), (.int .i64 0), (.int .i64 0)])) (.bin .add (.conv .u64 (.var 3)) (.const (.int .u64 1)))) (.const (.int .i64 3))) (.bin .add (.bin .mul (.const (.int .i64 2)) (.conv .i64 (.var 3))) (.const (.int .i64 4))))) (.const (.bool false))) (.bin .eql (.ld none (.offp 3 (.var 9))) (.const (.int .i64 62))) (.const (.bool false))), (.pick (.pick (.var 10) (.eqx false (.cons 0 none .int (.cons 1 none .int (.cons 2 none .int (.cons 3 none .int .nil)))) (.ld (some 4) (.var 7)) (.upd 2 1 (.upd 1 1 (.upd 0 1 (.const (.agg #[(.int .u64 0), (.int .i64 0), (.int .i64 0), (.int .i64 0)])) (.bin .add (.conv .u64 (.var 3)) (.const (.int .u64 1)))) (.const (.int .i64 3))) (.bin .add (.bin .mul (.const (.int .i64 2)) (.conv .i64 (.var 3))) (.const (.int .i64 4))))) (.const (.bool false))) (.bin .eql (.ld none (.offp 3 (.var 9))) (.const (.int .i64 62))) (.const (.bool false))), (.pick (.pick (.var 10) (.eqx false (.cons 0 none .int (.cons 1 none .int (.cons 2 none .int (.cons 3 none .int .nil)))) (.ld (some 4) (.var 7)) (.upd 2 1 (.upd 1 1 (.upd 0 1 (.const (.agg #[(.int .u64 0), (.int .i64 0), (.int .i64 0), (.int .i64 0)])) (.bin .add (.conv .u64 (.var 3)) (.const (.int .u64 1)))) (.const (.int .i64 3))) (.bin .add (.bin .mul (.const (.int .i64 2)) (.conv .i64 (.var 3))) (.const (.int .i64 4))))) (.const (.bool false))) (.ld none (.offp 3 (.var 9))) (.const (.bool false))), (.pick (.pick (.var 10) (.eqx false (.cons 0 none .int (.cons 1 none .int (.cons 2 none .int (.cons 3 none .int .nil)))) (.ld (some 4) (.var 7)) (.upd 2 1 (.upd 1 1 (.upd 0 1 (.const (.agg #[(.int .u64 0), (.int .i64 0), (.int .i64 0), (.int .i64 0)])) (.bin .add (.conv .u64 (.var 3)) (.const (.int .u64 1)))) (.const (.int .i64 3))) (.bin .add (.bin .mul (.const (.int .i64 2)) (.conv .i64 (.var 3))) (.const (.int .i64 4))))) (.const (.bool false))) (.offp 3 (.var 9)) (.const (.bool false))), (.pick (.var 10) (.eqx false (.cons 0 none .int (.cons 1 none .int (.cons 2 none .int (.cons 3 none .int .nil)))) (.ld (some 4) (.var 7)) (.upd 2 1 (.upd 1 1 (.upd 0 1 (.const (.agg #[(.int .u64 0), (.int .i64 0), (.int .i64 0), (.int .i64 0)])) (.bin .add (.conv .u64 (.var 3)) (.const (.int .u64 1)))) (.const (.int .i64 3))) (.bin .add (.bin .mul (.const (.int .i64 2)) (.conv .i64 (.var 3))) (.const (.int .i64 4))))) (.const (.bool false))), (.pick (.var 10) (.eqx false (.cons 0 none .int (.cons 1 none .int (.cons 2 none .int (.cons 3 none .int .nil)))) (.ld (some 4) (.var 7)) (.upd 2 1 (.upd 1 1 (.upd 0 1 (.const (.agg #[(.int .u64 0), (.int .i64 0), (.int .i64 0), (.int .i64 0)])) (.bin .add (.conv .u64 (.var 3)) (.const (.int .u64 1)))) (.const (.int .i64 3))) (.bin .add (.bin .mul (.const (.int .i64 2)) (.conv .i64 (.var 3))) (.const (.int .i64 4))))) (.const (.bool false))), (.pick (.var 10) (.eqx false (.cons 0 none .int (.cons 1 none .int (.cons 2 none .int (.cons 3 none .int .nil)))) (.ld (some 4) (.var 7)) (.upd 2 1 (.upd 1 1 (.upd 0 1 (.const (.agg #[(.int .u64 0), (.int .i64 0), (.int .i64 0), (.int .i64 0)])) (.bin .add (.conv .u64 (.var 3)) (.const (.int .u64 1)))) (.const (.int .i64 3))) (.bin .add (.bin .mul (.const (.int .i64 2)) (.conv .i64 (.var 3))) (.const (.int .i64 4))))) (.const (.bool false))), (.pick (.var 10) (.upd 2 1 (.upd 1 1 (.upd 0 1 (.const (.agg #[(.int .u64 0), (.int .i64 0), (.int .i64 0), (.int .i64 0)])) (.bin .add (.conv .u64 (.var 3)) (.const (.int .u64 1)))) (.const (.int .i64 3))) (.bin .add (.bin .mul (.const (.int .i64 2)) (.conv .i64 (.var 3))) (.const (.int .i64 4)))) (.const (.bool false)))])
   (.seq
    (.set 12 (.pick (.pick (.pick (.var 10) (.eqx false (.cons 0 none .int (.cons 1 none .int (.cons 2 none .int (.cons 3 none .int .nil)))) (.ld (some 4) (.var 7)) (.upd 2 1 (.upd 1 1 (.upd 0 1 (.const (.agg #[(.int .u64 0), (.int .i64 0), (.int .i64 0), (.int .i64 0)])) (.bin .add (.conv .u64 (.var 3)) (.const (.int .u64 1)))) (.const (.int .i64 3))) (.bin .add (.bin .mul (.const (.int .i64 2)) (.conv .i64 (.var 3))) (.const (.int .i64 4))))) (.const (.bool false))) (.bin .eql (.ld none (.offp 3 (.var 9))) (.const (.int .i64 62))) (.const (.bool false))) (.bin .eql (.ld none (.offp 2 (.var 9))) (.bin .add (.bin .mul (.const (.int .i64 2)) (.conv .i64 (.var 3))) (.const (.int .i64 3)))) (.const (.bool false))))
   (.seq
    (.chk [(.pick (.var 12) (.upd 0 1 (.const (.agg #[(.int .u8 0), (.int .u8 0), (.int .u8 0), (.int .i16 0), (.int .i32 0)])) (.const (.int .u8 149))) (.const (.bool false))), (.pick (.var 12) (.upd 4 1 (.upd 0 1 (.const (.agg #[(.int .u8 0), (.int .u8 0), (.int .u8 0), (.int .i16 0), (.int .i32 0)])) (.const (.int .u8 183))) (.var 1)) (.const (.bool false)))])
   (.seq
    (.cond (.pick (.var 12) (.const (.bool true)) (.const (.bool false)))
      (.row (some 11) 55 2 (.upd 5 5 (.upd 0 5 (.const (.agg #[(.int .u8 0), (.int .u8 0), (.int .u8 0), (.int .i16 0), (.int .i32 0), (.int .u8 0), (.int .u8 0), (.int .u8 0), (.int .i16 0), (.int .i32 0)])) (.upd 4 1 (.upd 0 1 (.const (.agg #[(.int .u8 0), (.int .u8 0), (.int .u8 0), (.int .i16 0), (.int .i32 0)])) (.const (.int .u8 183))) (.var 1))) (.upd 0 1 (.const (.agg #[(.int .u8 0), (.int .u8 0), (.int .u8 0), (.int .i16 0), (.int .i32 0)])) (.const (.int .u8 149)))) [])
      (.clr [11]))
   (.seq
    (.chk [(.pick (.var 12) (.upd 35 1 (.const (.agg #[(.int .u8 0), (.int .u8 0), (.int .u8 0), (.int .u8 0), (.int .u8 0), (.int .u8 0), (.int .u8 0), (.int .u8 0), (.int .u8 0), (.int .u8 0), (.int .u8 0), (.int .u8 0), (.int .u8 0), (.int .u8 0), (.int .u8 0), (.int .u8 0), (.int .u8 0), (.int .u8 0), (.int .u8 0), (.int .u8 0), (.int .u8 0), (.int .u8 0), (.int .u8 0), (.int .u8 0), (.int .u8 0), (.int .u8 0), (.int .u8 0), (.int .u8 0), (.int .u8 0), (.int .u8 0), (.int .u8 0), (.int .u8 0), (.slice none 0 0), (.int .u64 0), (.slice none 0 0), (.int .i64 0)])) (.const (.int .i64 9))) (.const (.bool false)))])
   (.seq
    (.cond (.pick (.var 12) (.const (.bool true)) (.const (.bool false)))
      (.call (some 13) 22 [(.var 11), (.upd 35 1 (.const (.agg #[(.int .u8 0), (.int .u8 0), (.int .u8 0), (.int .u8 0), (.int .u8 0), (.int .u8 0), (.int .u8 0), (.int .u8 0), (.int .u8 0), (.int .u8 0), (.int .u8 0), (.int .u8 0), (.int .u8 0), (.int .u8 0), (.int .u8 0), (.int .u8 0), (.int .u8 0), (.int .u8 0), (.int .u8 0), (.int .u8 0), (.int .u8 0), (.int .u8 0), (.int .u8 0), (.int .u8 0), (.int .u8 0), (.int .u8 0), (.int .u8 0), (.int .u8 0), (.int .u8 0), (.int .u8 0), (.int .u8 0), (.int .u8 0), (.slice none 0 0), (.int .u64 0), (.slice none 0 0), (.int .i64 0)])) (.const (.int .i64 9)))] [])
      (.clr [13]))
   (.set 2 (.pick (.var 12) (.bin .eql (.part none 0 (.var 13)) (.conv .u64 (.conv .i64 (.var 1)))) (.const (.bool false)))))))))))
  .ret))))))
abbrev v_tipstafflaw20_VmCounts : List Nat := [0, 1, 4, 5, 19, 6, 22, 7, 29, 8, 30, 61, 57, 63]
abbrev k_tipstafflaw20_VmCounts : List (List Nat) := []
abbrev r_tipstafflaw20_VmCounts : List Ex := [(.var 2)]
theorem ok_tipstafflaw20_VmCounts : compile Try.prog Try.f4 v_tipstafflaw20_VmCounts k_tipstafflaw20_VmCounts = some (c_tipstafflaw20_VmCounts, r_tipstafflaw20_VmCounts) := by kernel_rfl

/- tipstaff/tipstafflaw20.VmSums -/
def c_tipstafflaw20_VmSums : Cmd :=
  (.seq
   (.seq
    (.new (some 4) 38 (.var 0) [])
   (.seq
    (.new (some 5) 64 (.var 1) [])
   (.set 3 (.const (.bool false)))))
  (.seq
   (.seq
    .draw
   (.seq
    (.chk [(.conv .i16 (.bin .rem (.conv .u64 (.ld none (.ixArr 2 1 (.var 5) (.const (.int .i64 1))))) (.const (.int .u64 25))))])
   (.seq
    (.set 6 (.conv .i16 (.bin .rem (.conv .u64 (.ld none (.ixArr 2 1 (.var 5) (.const (.int .i64 0))))) (.const (.int .u64 25)))))
   (.set 7 (.conv .i16 (.bin .rem (.conv .u64 (.ld none (.ixArr 2 1 (.var 5) (.const (.int .i64 1))))) (.const (.int .u64 25))))))))
  (.seq
   (.seq
    (.row (some 8) 5 6 (.upd 5 1 (.upd 4 1 (.upd 3 1 (.upd 2 1 (.upd 1 1 (.upd 0 1 (.const (.agg (Array.replicate 6 (.int .u8 0)))) (.const (.int .u8 15))) (.const (.int .u8 31))) (.const (.int .u8 47))) (.const (.int .u8 79))) (.const (.int .u8 95))) (.const (.int .u8 175))) [])
   (.set 9 (.ld none (.ixSl 1 (.var 8) (.conv .i64 (.bin .rem (.conv .u64 (.var 2)) (.const (.int .u64 6))))))))
  (.seq
   (.seq
    (.chk [(.upd 0 1 (.const (.agg #[(.int .u8 0), (.int .u8 0), (.int .u8 0), (.int .i16 0), (.int .i32 0)])) (.const (.int .u8 149))), (.upd 2 1 (.upd 1 1 (.upd 0 1 (.const (.agg #[(.int .u8 0), (.int .u8 0), (.int .u8 0), (.int .i16 0), (.int .i32 0)])) (.var 9)) (.const (.int .u8 0))) (.const (.int .u8 6))), (.upd 3 1 (.upd 2 1 (.upd 1 1 (.upd 0 1 (.const (.agg #[(.int .u8 0), (.int .u8 0), (.int .u8 0), (.int .i16 0), (.int .i32 0)])) (.const (.int .u8 121))) (.const (.int .u8 0))) (.const (.int .u8 1))) (.var 7)), (.upd 3 1 (.upd 2 1 (.upd 1 1 (.upd 0 1 (.const (.agg #[(.int .u8 0), (.int .u8 0), (.int .u8 0), (.int .i16 0), (.int .i32 0)])) (.const (.int .u8 121))) (.const (.int .u8 6))) (.const (.int .u8 1))) (.var 6))])
   (.seq
    (.row (some 10) 55 4 (.upd 15 5 (.upd 10 5 (.upd 5 5 (.upd 0 5 (.const (.agg #[(.int .u8 0), (.int .u8 0), (.int .u8 0), (.int .i16 0), (.int .i32 0), (.int .u8 0), (.int .u8 0), (.int .u8 0), (.int .i16 0), (.int .i32 0), (.int .u8 0), (.int .u8 0), (.int .u8 0), (.int .i16 0), (.int .i32 0), (.int .u8 0), (.int .u8 0), (.int .u8 0), (.int .i16 0), (.int .i32 0)])) (.upd 3 1 (.upd 2 1 (.upd 1 1 (.upd 0 1 (.const (.agg #[(.int .u8 0), (.int .u8 0), (.int .u8 0), (.int .i16 0), (.int .i32 0)])) (.const (.int .u8 121))) (.const (.int .u8 6))) (.const (.int .u8 1))) (.var 6))) (.upd 3 1 (.upd 2 1 (.upd 1 1 (.upd 0 1 (.const (.agg #[(.int .u8 0), (.int .u8 0), (.int .u8 0), (.int .i16 0), (.int .i32 0)])) (.const (.int .u8 121))) (.const (.int .u8 0))) (.const (.int .u8 1))) (.var 7))) (.upd 2 1 (.upd 1 1 (.upd 0 1 (.const (.agg #[(.int .u8 0), (.int .u8 0), (.int .u8 0), (.int .i16 0), (.int .i32 0)])) (.var 9)) (.const (.int .u8 0))) (.const (.int .u8 6)))) (.upd 0 1 (.const (.agg #[(.int .u8 0), (.int .u8 0), (.int .u8 0), (.int .i16 0), (.int .i32 0)])) (.const (.int .u8 149)))) [])
   (.set 11 (.var 10))))
  (.seq
   (.seq
    (.chk [(.upd 35 1 (.upd 0 32 (.const (.agg #[(.int .u8 0), (.int .u8 0), (.int .u8 0), (.int .u8 0), (.int .u8 0), (.int .u8 0), (.int .u8 0), (.int .u8 0), (.int .u8 0), (.int .u8 0), (.int .u8 0), (.int .u8 0), (.int .u8 0), (.int .u8 0), (.int .u8 0), (.int .u8 0), (.int .u8 0), (.int .u8 0), (.int .u8 0), (.int .u8 0), (.int .u8 0), (.int .u8 0), (.int .u8 0), (.int .u8 0), (.int .u8 0), (.int .u8 0), (.int .u8 0), (.int .u8 0), (.int .u8 0), (.int .u8 0), (.int .u8 0), (.int .u8 0), (.slice none 0 0), (.int .u64 0), (.slice none 0 0), (.int .i64 0)])) (.ld (some 32) (.var 4))) (.const (.int .i64 4)))])
   (.seq
    (.call (some 12) 22 [(.var 11), (.upd 35 1 (.upd 0 32 (.const (.agg #[(.int .u8 0), (.int .u8 0), (.int .u8 0), (.int .u8 0), (.int .u8 0), (.int .u8 0), (.int .u8 0), (.int .u8 0), (.int .u8 0), (.int .u8 0), (.int .u8 0), (.int .u8 0), (.int .u8 0), (.int .u8 0), (.int .u8 0), (.int .u8 0), (.int .u8 0), (.int .u8 0), (.int .u8 0), (.int .u8 0), (.int .u8 0), (.int .u8 0), (.int .u8 0), (.int .u8 0), (.int .u8 0), (.int .u8 0), (.int .u8 0), (.int .u8 0), (.int .u8 0), (.int .u8 0), (.int .u8 0), (.int .u8 0), (.slice none 0 0), (.int .u64 0), (.slice none 0 0), (.int .i64 0)])) (.ld (some 32) (.var 4))) (.const (.int .i64 4)))] [])
   (.seq
    (.new (some 13) 58 (.const (.agg #[(.int .u64 0), (.int .i64 0), (.int .i64 0), (.int .i64 0)])) [])
   (.store 4 (.var 13) (.var 12) []))))
  (.seq
   (.seq
    (.set 14 (.const (.int .u64 0)))
   (.set 15 (.const (.int .u64 0))))
  (.seq
   (.seq
    (.set 16 (.const (.int .i16 7)))
   (.block 0
     (.loop [2, 4, 6, 7, 13, 14, 15, 16]
       (.seq
        (.cond (.bin .geq (.var 16) (.const (.int .i16 0)))
          .skip
          (.exit 0))
       (.seq
        (.block 1
          (.seq
           .draw
          (.seq
           (.chk [(.bin .or (.bin .shl (.var 15) (.const (.int .u64 8))) (.conv .u64 (.ld none (.ixArr 32 1 (.var 4) (.bin .add (.var 7) (.var 16))))))])
          (.seq
           (.set 14 (.bin .or (.bin .shl (.var 14) (.const (.int .u64 8))) (.conv .u64 (.ld none (.ixArr 32 1 (.var 4) (.bin .add (.var 6) (.var 16)))))))
          (.set 15 (.bin .or (.bin .shl (.var 15) (.const (.int .u64 8))) (.conv .u64 (.ld none (.ixArr 32 1 (.var 4) (.bin .add (.var 7) (.var 16)))))))))))
       (.set 16 (.bin .sub (.var 16) (.const (.int .i16 1)))))))))
  (.seq
   (.seq
    (.row (some 17) 32 6 (.upd 5 1 (.upd 4 1 (.upd 3 1 (.upd 2 1 (.upd 1 1 (.upd 0 1 (.const (.agg (Array.replicate 6 (.int .u64 0)))) (.bin .add (.var 15) (.var 14))) (.bin .sub (.var 15) (.var 14))) (.bin .mul (.var 15) (.var 14))) (.bin .or (.var 15) (.var 14))) (.bin .and (.var 15) (.var 14))) (.bin .xor (.var 15) (.var 14))) [])
   (.set 18 (.ld none (.ixSl 1 (.var 17) (.conv .i64 (.bin .rem (.conv .u64 (.var 2)) (.const (.int .u64 6))))))))
  (.seq
   (.seq
    (.call (some 19) 23 [] [])
   (.seq
    (.chk [(.pick (.var 19) (.eqx false (.cons 0 none .int (.cons 1 none .int (.cons 2 none .int (.cons 3 none .int .nil)))) (.ld (some 4) (.var 13)) (.upd 2 1 (.upd 1 1 (.upd 0 1 (.const (.agg #[(.int .u64 0), (.int .i64 0), (.int .i64 0), (.int .i64 0)])) (.var 18)) (.const (.int .i64 3))) (.const (.int .i64 4)))) (.const (.bool false))), (.pick (.var 19) (.eqx false (.cons 0 none .int (.cons 1 none .int (.cons 2 none .int (.cons 3 none .int .nil)))) (.ld (some 4) (.var 13)) (.upd 2 1 (.upd 1 1 (.upd 0 1 (.const (.agg #[(.int .u64 0), (.int .i64 0), (.int .i64 0), (.int .i64 0)])) (.var 18)) (.const (.int .i64 3))) (.const (.int .i64 4)))) (.const (.bool false))), (.pick (.var 19) (.upd 2 1 (.upd 1 1 (.upd 0 1 (.const (.agg #[(.int .u64 0), (.int .i64 0), (.int .i64 0), (.int .i64 0)])) (.var 18)) (.const (.int .i64 3))) (.const (.int .i64 4))) (.const (.bool false)))])
   (.set 3 (.pick (.var 19) (.eqx false (.cons 0 none .int (.cons 1 none .int (.cons 2 none .int (.cons 3 none .int .nil)))) (.ld (some 4) (.var 13)) (.upd 2 1 (.upd 1 1 (.upd 0 1 (.const (.agg #[(.int .u64 0), (.int .i64 0), (.int .i64 0), (.int .i64 0)])) (.var 18)) (.const (.int .i64 3))) (.const (.int .i64 4)))) (.const (.bool false))))))
  .ret)))))))))
abbrev v_tipstafflaw20_VmSums : List Nat := [0, 1, 2, 6, 3, 4, 7, 8, 26, 9, 40, 10, 44, 11, 12, 13, 14, 85, 15, 92]
abbrev k_tipstafflaw20_VmSums : List (List Nat) := [[2, 4, 6, 7, 13, 14, 15, 16]]
abbrev r_tipstafflaw20_VmSums : List Ex := [(.var 3)]
theorem ok_tipstafflaw20_VmSums : compile Try.prog Try.f5 v_tipstafflaw20_VmSums k_tipstafflaw20_VmSums = some (c_tipstafflaw20_VmSums, r_tipstafflaw20_VmSums) := by kernel_rfl

/- tipstaff/tipstafflaw20.VmLuck -/
def c_tipstafflaw20_VmLuck : Cmd :=
  (.seq
   (.set 3 (.const (.bool false)))
  (.seq
   (.seq
    (.row (some 4) 32 0 (.const (.agg #[])) [])
   (.seq
    (.bi (some 5) .append [60, 60] 60 [(.var 4), (.slSl 1 (.var 1) (.const (.int .i64 0)) (.mn (.len false (.var 1)) (.const (.int .i64 6))))] [])
   (.set 1 (.var 5))))
  (.seq
   (.set 6 (.conv .i64 (.bin .rem (.conv .u64 (.var 2)) (.const (.int .u64 8)))))
  (.seq
   (.seq
    (.chk [(.upd 2 1 (.upd 1 1 (.upd 0 1 (.const (.agg #[(.int .u8 0), (.int .u8 0), (.int .u8 0), (.int .i16 0), (.int .i32 0)])) (.const (.int .u8 191))) (.const (.int .u8 6))) (.const (.int .u8 0))), (.upd 4 1 (.upd 0 1 (.const (.agg #[(.int .u8 0), (.int .u8 0), (.int .u8 0), (.int .i16 0), (.int .i32 0)])) (.const (.int .u8 133))) (.const (.int .i32 5)))])
   (.seq
    (.row (some 7) 55 2 (.upd 5 5 (.upd 0 5 (.const (.agg #[(.int .u8 0), (.int .u8 0), (.int .u8 0), (.int .i16 0), (.int .i32 0), (.int .u8 0), (.int .u8 0), (.int .u8 0), (.int .i16 0), (.int .i32 0)])) (.upd 4 1 (.upd 0 1 (.const (.agg #[(.int .u8 0), (.int .u8 0), (.int .u8 0), (.int .i16 0), (.int .i32 0)])) (.const (.int .u8 133))) (.const (.int .i32 5)))) (.upd 2 1 (.upd 1 1 (.upd 0 1 (.const (.agg #[(.int .u8 0), (.int .u8 0), (.int .u8 0), (.int .i16 0), (.int .i32 0)])) (.const (.int .u8 191))) (.const (.int .u8 6))) (.const (.int .u8 0)))) [])
   (.set 8 (.var 7))))
  (.seq
   (.set 9 (.var 0))
  (.seq
   (.seq
    (.set 10 (.const (.int .i64 0)))
   (.block 0
     (.loop [0, 1, 6, 8, 9, 10]
       (.seq
        (.cond (.bin .lss (.var 10) (.var 6))
          .skip
          (.exit 0))
       (.seq
        (.block 1
          (.seq
           (.seq
            (.chk [(.upd 2 1 (.upd 1 1 (.upd 0 1 (.const (.agg #[(.int .u8 0), (.int .u8 0), (.int .u8 0), (.int .i16 0), (.int .i32 0)])) (.const (.int .u8 15))) (.const (.int .u8 6))) (.const (.int .u8 0))), (.upd 4 1 (.upd 0 1 (.const (.agg #[(.int .u8 0), (.int .u8 0), (.int .u8 0), (.int .i16 0), (.int .i32 0)])) (.const (.int .u8 133))) (.const (.int .i32 7))), (.var 8)])
           (.seq
            (.row (some 11) 55 2 (.upd 5 5 (.upd 0 5 (.const (.agg #[(.int .u8 0), (.int .u8 0), (.int .u8 0), (.int .i16 0), (.int .i32 0), (.int .u8 0), (.int .u8 0), (.int .u8 0), (.int .i16 0), (.int .i32 0)])) (.upd 4 1 (.upd 0 1 (.const (.agg #[(.int .u8 0), (.int .u8 0), (.int .u8 0), (.int .i16 0), (.int .i32 0)])) (.const (.int .u8 133))) (.const (.int .i32 7)))) (.upd 2 1 (.upd 1 1 (.upd 0 1 (.const (.agg #[(.int .u8 0), (.int .u8 0), (.int .u8 0), (.int .i16 0), (.int .i32 0)])) (.const (.int .u8 15))) (.const (.int .u8 6))) (.const (.int .u8 0)))) [])
           (.seq
            (.bi (some 12) .append [56, 56] 56 [(.var 8), (.var 11)] [])
           (.set 8 (.var 12)))))
          (.cond (.bin .lss (.var 10) (.len false (.var 1)))
            (.set 9 (.bin .add (.var 9) (.ld none (.ixSl 1 (.var 1) (.var 10)))))
            .skip)))
       (.set 10 (.bin .add (.var 10) (.const (.int .i64 1)))))))))
  (.seq
   (.seq
    (.chk [(.upd 0 1 (.const (.agg #[(.int .u8 0), (.int .u8 0), (.int .u8 0), (.int .i16 0), (.int .i32 0)])) (.const (.int .u8 149))), (.upd 2 1 (.upd 1 1 (.upd 0 1 (.const (.agg #[(.int .u8 0), (.int .u8 0), (.int .u8 0), (.int .i16 0), (.int .i32 0)])) (.const (.int .u8 191))) (.const (.int .u8 0))) (.const (.int .u8 6))), (.var 8)])
   (.seq
    (.row (some 13) 55 2 (.upd 5 5 (.upd 0 5 (.const (.agg #[(.int .u8 0), (.int .u8 0), (.int .u8 0), (.int .i16 0), (.int .i32 0), (.int .u8 0), (.int .u8 0), (.int .u8 0), (.int .i16 0), (.int .i32 0)])) (.upd 2 1 (.upd 1 1 (.upd 0 1 (.const (.agg #[(.int .u8 0), (.int .u8 0), (.int .u8 0), (.int .i16 0), (.int .i32 0)])) (.const (.int .u8 191))) (.const (.int .u8 0))) (.const (.int .u8 6)))) (.upd 0 1 (.const (.agg #[(.int .u8 0), (.int .u8 0), (.int .u8 0), (.int .i16 0), (.int .i32 0)])) (.const (.int .u8 149)))) [])
   (.seq
    (.bi (some 14) .append [56, 56] 56 [(.var 8), (.var 13)] [])
   (.set 8 (.var 14)))))
  (.seq
   (.seq
    (.chk [(.upd 35 1 (.upd 34 1 (.upd 33 1 (.const (.agg #[(.int .u8 0), (.int .u8 0), (.int .u8 0), (.int .u8 0), (.int .u8 0), (.int .u8 0), (.int .u8 0), (.int .u8 0), (.int .u8 0), (.int .u8 0), (.int .u8 0), (.int .u8 0), (.int .u8 0), (.int .u8 0), (.int .u8 0), (.int .u8 0), (.int .u8 0), (.int .u8 0), (.int .u8 0), (.int .u8 0), (.int .u8 0), (.int .u8 0), (.int .u8 0), (.int .u8 0), (.int .u8 0), (.int .u8 0), (.int .u8 0), (.int .u8 0), (.int .u8 0), (.int .u8 0), (.int .u8 0), (.int .u8 0), (.slice none 0 0), (.int .u64 0), (.slice none 0 0), (.int .i64 0)])) (.var 0)) (.var 1)) (.const (.int .i64 99)))])
   (.seq
    (.call (some 15) 22 [(.var 8), (.upd 35 1 (.upd 34 1 (.upd 33 1 (.const (.agg #[(.int .u8 0), (.int .u8 0), (.int .u8 0), (.int .u8 0), (.int .u8 0), (.int .u8 0), (.int .u8 0), (.int .u8 0), (.int .u8 0), (.int .u8 0), (.int .u8 0), (.int .u8 0), (.int .u8 0), (.int .u8 0), (.int .u8 0), (.int .u8 0), (.int .u8 0), (.int .u8 0), (.int .u8 0), (.int .u8 0), (.int .u8 0), (.int .u8 0), (.int .u8 0), (.int .u8 0), (.int .u8 0), (.int .u8 0), (.int .u8 0), (.int .u8 0), (.int .u8 0), (.int .u8 0), (.int .u8 0), (.int .u8 0), (.slice none 0 0), (.int .u64 0), (.slice none 0 0), (.int .i64 0)])) (.var 0)) (.var 1)) (.const (.int .i64 99)))] [])
   (.seq
    (.new (some 16) 58 (.const (.agg #[(.int .u64 0), (.int .i64 0), (.int .i64 0), (.int .i64 0)])) [])
   (.store 4 (.var 16) (.var 15) []))))
  (.seq
   (.seq
    (.call (some 17) 23 [] [])
   (.set 3 (.pick (.pick (.var 17) (.bin .eql (.ld none (.offp 3 (.var 16))) (.const (.int .i64 0))) (.const (.bool false))) (.bin .eql (.ld none (.offp 0 (.var 16))) (.var 9)) (.const (.bool false)))))
  .ret)))))))))
abbrev v_tipstafflaw20_VmLuck : List Nat := [0, 1, 2, 6, 12, 18, 7, 25, 8, 9, 10, 35, 36, 50, 51, 56, 11, 57]
abbrev k_tipstafflaw20_VmLuck : List (List Nat) := [[0, 1, 6, 8, 9, 10]]
abbrev r_tipstafflaw20_VmLuck : List Ex := [(.var 3)]
theorem ok_tipstafflaw20_VmLuck : compile Try.prog Try.f6 v_tipstafflaw20_VmLuck k_tipstafflaw20_VmLuck = some (c_tipstafflaw20_VmLuck, r_tipstafflaw20_VmLuck) := by kernel_rfl

/- tipstaff/tipstafflaw20.VmAtomic -/
def c_tipstafflaw20_VmAtomic : Cmd :=
  (.seq
   (.seq
    (.new (some 3) 67 (.var 0) [])
   (.set 2 (.const (.bool false))))
  (.seq
   (.set 4 (.conv .i64 (.bin .rem (.conv .u64 (.var 1)) (.const (.int .u64 4)))))
  (.seq
   (.seq
    (.row (some 5) 21 4 (.upd 3 1 (.upd 2 1 (.upd 1 1 (.upd 0 1 (.const (.agg (Array.replicate 4 (.int .i32 0)))) (.const (.int .i32 0))) (.const (.int .i32 64))) (.const (.int .i32 80))) (.const (.int .i32 160))) [])
   (.set 6 (.ld none (.ixSl 1 (.var 5) (.var 4)))))
  (.seq
   (.seq
    (.chk [(.upd 0 1 (.const (.agg #[(.int .u8 0), (.int .u8 0), (.int .u8 0), (.int .i16 0), (.int .i32 0)])) (.const (.int .u8 149))), (.upd 3 1 (.upd 2 1 (.upd 1 1 (.upd 0 1 (.const (.agg #[(.int .u8 0), (.int .u8 0), (.int .u8 0), (.int .i16 0), (.int .i32 0)])) (.const (.int .u8 121))) (.const (.int .u8 0))) (.const (.int .u8 10))) (.const (.int .i16 (-8)))), (.upd 3 1 (.upd 4 1 (.upd 1 1 (.upd 0 1 (.const (.agg #[(.int .u8 0), (.int .u8 0), (.int .u8 0), (.int .i16 0), (.int .i32 0)])) (.const (.int .u8 85))) (.const (.int .u8 0))) (.const (.int .i32 5))) (.const (.int .i16 1))), (.upd 3 1 (.upd 2 1 (.upd 1 1 (.upd 0 1 (.const (.agg #[(.int .u8 0), (.int .u8 0), (.int .u8 0), (.int .i16 0), (.int .i32 0)])) (.const (.int .u8 121))) (.const (.int .u8 0))) (.const (.int .u8 10))) (.const (.int .i16 (-16)))), (.upd 4 1 (.upd 3 1 (.upd 2 1 (.upd 1 1 (.upd 0 1 (.const (.agg #[(.int .u8 0), (.int .u8 0), (.int .u8 0), (.int .i16 0), (.int .i32 0)])) (.const (.int .u8 219))) (.const (.int .u8 10))) (.const (.int .u8 6))) (.const (.int .i16 (-8)))) (.var 6)), (.upd 4 1 (.upd 1 1 (.upd 0 1 (.const (.agg #[(.int .u8 0), (.int .u8 0), (.int .u8 0), (.int .i16 0), (.int .i32 0)])) (.const (.int .u8 183))) (.const (.int .u8 6))) (.ld none (.ixArr 2 1 (.var 3) (.const (.int .i64 1))))), (.upd 4 1 (.upd 3 1 (.upd 1 1 (.upd 0 1 (.const (.agg #[(.int .u8 0), (.int .u8 0), (.int .u8 0), (.int .i16 0), (.int .i32 0)])) (.const (.int .u8 122))) (.const (.int .u8 10))) (.const (.int .i16 (-16)))) (.const (.int .i32 5))), (.upd 4 1 (.upd 3 1 (.upd 1 1 (.upd 0 1 (.const (.agg #[(.int .u8 0), (.int .u8 0), (.int .u8 0), (.int .i16 0), (.int .i32 0)])) (.const (.int .u8 122))) (.const (.int .u8 10))) (.const (.int .i16 (-8)))) (.ld none (.ixArr 2 1 (.var 3) (.const (.int .i64 0)))))])
   (.seq
    (.row (some 7) 55 8 (.upd 35 5 (.upd 30 5 (.upd 25 5 (.upd 20 5 (.upd 15 5 (.upd 10 5 (.upd 5 5 (.upd 0 5 (.const (.agg #[(.int .u8 0), (.int .u8 0), (.int .u8 0), (.int .i16 0), (.int .i32 0), (.int .u8 0), (.int .u8 0), (.int .u8 0), (.int .i16 0), (.int .i32 0), (.int .u8 0), (.int .u8 0), (.int .u8 0), (.int .i16 0), (.int .i32 0), (.int .u8 0), (.int .u8 0), (.int .u8 0), (.int .i16 0), (.int .i32 0), (.int .u8 0), (.int .u8 0), (.int .u8 0), (.int .i16 0), (.int .i32 0), (.int .u8 0), (.int .u8 0), (.int .u8 0), (.int .i16 0), (.int .i32 0), (.int .u8 0), (.int .u8 0), (.int .u8 0), (.int .i16 0), (.int .i32 0), (.int .u8 0), (.int .u8 0), (.int .u8 0), (.int .i16 0), (.int .i32 0)])) (.upd 4 1 (.upd 3 1 (.upd 1 1 (.upd 0 1 (.const (.agg #[(.int .u8 0), (.int .u8 0), (.int .u8 0), (.int .i16 0), (.int .i32 0)])) (.const (.int .u8 122))) (.const (.int .u8 10))) (.const (.int .i16 (-8)))) (.ld none (.ixArr 2 1 (.var 3) (.const (.int .i64 0)))))) (.upd 4 1 (.upd 3 1 (.upd 1 1 (.upd 0 1 (.const (.agg #[(.int .u8 0), (.int .u8 0), (.int .u8 0), (.int .i16 0), (.int .i32 0)])) (.const (.int .u8 122))) (.const (.int .u8 10))) (.const (.int .i16 (-16)))) (.const (.int .i32 5)))) (.upd 4 1 (.upd 1 1 (.upd 0 1 (.const (.agg #[(.int .u8 0), (.int .u8 0), (.int .u8 0), (.int .i16 0), (.int .i32 0)])) (.const (.int .u8 183))) (.const (.int .u8 6))) (.ld none (.ixArr 2 1 (.var 3) (.const (.int .i64 1)))))) (.upd 4 1 (.upd 3 1 (.upd 2 1 (.upd 1 1 (.upd 0 1 (.const (.agg #[(.int .u8 0), (.int .u8 0), (.int .u8 0), (.int .i16 0), (.int .i32 0)])) (.const (.int .u8 219))) (.const (.int .u8 10))) (.const (.int .u8 6))) (.const (.int .i16 (-8)))) (.var 6))) (.upd 3 1 (.upd 2 1 (.upd 1 1 (.upd 0 1 (.const (.agg #[(.int .u8 0), (.int .u8 0), (.int .u8 0), (.int .i16 0), (.int .i32 0)])) (.const (.int .u8 121))) (.const (.int .u8 0))) (.const (.int .u8 10))) (.const (.int .i16 (-16))))) (.upd 3 1 (.upd 4 1 (.upd 1 1 (.upd 0 1 (.const (.agg #[(.int .u8 0), (.int .u8 0), (.int .u8 0), (.int .i16 0), (.int .i32 0)])) (.const (.int .u8 85))) (.const (.int .u8 0))) (.const (.int .i32 5))) (.const (.int .i16 1)))) (.upd 3 1 (.upd 2 1 (.upd 1 1 (.upd 0 1 (.const (.agg #[(.int .u8 0), (.int .u8 0), (.int .u8 0), (.int .i16 0), (.int .i32 0)])) (.const (.int .u8 121))) (.const (.int .u8 0))) (.const (.int .u8 10))) (.const (.int .i16 (-8))))) (.upd 0 1 (.const (.agg #[(.int .u8 0), (.int .u8 0), (.int .u8 0), (.int .i16 0), (.int .i32 0)])) (.const (.int .u8 149)))) [])
   (.set 8 (.var 7))))
  (.seq
   (.seq
    (.chk [(.upd 35 1 (.const (.agg #[(.int .u8 0), (.int .u8 0), (.int .u8 0), (.int .u8 0), (.int .u8 0), (.int .u8 0), (.int .u8 0), (.int .u8 0), (.int .u8 0), (.int .u8 0), (.int .u8 0), (.int .u8 0), (.int .u8 0), (.int .u8 0), (.int .u8 0), (.int .u8 0), (.int .u8 0), (.int .u8 0), (.int .u8 0), (.int .u8 0), (.int .u8 0), (.int .u8 0), (.int .u8 0), (.int .u8 0), (.int .u8 0), (.int .u8 0), (.int .u8 0), (.int .u8 0), (.int .u8 0), (.int .u8 0), (.int .u8 0), (.int .u8 0), (.slice none 0 0), (.int .u64 0), (.slice none 0 0), (.int .i64 0)])) (.const (.int .i64 99)))])
   (.seq
    (.call (some 9) 22 [(.var 8), (.upd 35 1 (.const (.agg #[(.int .u8 0), (.int .u8 0), (.int .u8 0), (.int .u8 0), (.int .u8 0), (.int .u8 0), (.int .u8 0), (.int .u8 0), (.int .u8 0), (.int .u8 0), (.int .u8 0), (.int .u8 0), (.int .u8 0), (.int .u8 0), (.int .u8 0), (.int .u8 0), (.int .u8 0), (.int .u8 0), (.int .u8 0), (.int .u8 0), (.int .u8 0), (.int .u8 0), (.int .u8 0), (.int .u8 0), (.int .u8 0), (.int .u8 0), (.int .u8 0), (.int .u8 0), (.int .u8 0), (.int .u8 0), (.int .u8 0), (.int .u8 0), (.slice none 0 0), (.int .u64 0), (.slice none 0 0), (.int .i64 0)])) (.const (.int .i64 99)))] [])
   (.seq
    (.new (some 10) 58 (.const (.agg #[(.int .u64 0), (.int .i64 0), (.int .i64 0), (.int .i64 0)])) [])
   (.store 4 (.var 10) (.var 9) []))))
  (.seq
   (.seq
    .draw
   (.seq
    (.chk [(.conv .u64 (.conv .i64 (.ld none (.ixArr 2 1 (.var 3) (.const (.int .i64 1))))))])
   (.seq
    (.set 11 (.conv .u64 (.conv .i64 (.ld none (.ixArr 2 1 (.var 3) (.const (.int .i64 0)))))))
   (.set 12 (.conv .u64 (.conv .i64 (.ld none (.ixArr 2 1 (.var 3) (.const (.int .i64 1))))))))))
  (.seq
   (.seq
    .draw
   (.seq
    (.call (some 13) 23 [] [])
   (.seq
    (.set 16 (.pick (.var 13) (.bin .eql (.ld none (.offp 3 (.var 10))) (.const (.int .i64 0))) (.const (.bool false))))
   (.seq
    (.chk [(.pick (.var 16) (.offp 0 (.var 10)) (.const (.bool false)))])
   (.seq
    (.cond (.pick (.var 16) (.const (.bool true)) (.const (.bool false)))
      (.set 17 (.ld none (.offp 0 (.var 10))))
      (.clr [17]))
   (.seq
    (.chk [(.pick (.var 16) (.bin .xor (.var 11) (.var 12)) (.const (.bool false))), (.pick (.var 16) (.bin .and (.var 11) (.var 12)) (.const (.bool false))), (.pick (.var 16) (.bin .or (.var 11) (.var 12)) (.const (.bool false))), (.pick (.var 16) (.bin .add (.var 11) (.var 12)) (.const (.bool false)))])
   (.seq
    (.cond (.pick (.var 16) (.const (.bool true)) (.const (.bool false)))
      (.set 15 (.var 4))
      (.clr [15]))
   (.seq
    (.cond (.pick (.var 16) (.const (.bool true)) (.const (.bool false)))
      (.row (some 14) 32 4 (.upd 3 1 (.upd 2 1 (.upd 1 1 (.upd 0 1 (.const (.agg (Array.replicate 4 (.int .u64 0)))) (.bin .add (.var 11) (.var 12))) (.bin .or (.var 11) (.var 12))) (.bin .and (.var 11) (.var 12))) (.bin .xor (.var 11) (.var 12))) [(.ld none (.offp 0 (.var 10)))])
      (.clr [14]))
   (.set 2 (.pick (.var 16) (.bin .eql (.var 17) (.ld none (.ixSl 1 (.var 14) (.var 15)))) (.const (.bool false))))))))))))
  .ret)))))))
abbrev v_tipstafflaw20_VmAtomic : List Nat := [0, 1, 4, 2, 5, 15, 6, 32, 7, 35, 8, 9, 10, 44, 65, 66, 50, 52]
abbrev k_tipstafflaw20_VmAtomic : List (List Nat) := []
abbrev r_tipstafflaw20_VmAtomic : List Ex := [(.var 2)]
theorem ok_tipstafflaw20_VmAtomic : compile Try.prog Try.f7 v_tipstafflaw20_VmAtomic k_tipstafflaw20_VmAtomic = some (c_tipstafflaw20_VmAtomic, r_tipstafflaw20_VmAtomic) := by kernel_rfl

/- tipstaff/tipstafflaw20.VmPlaces -/
def c_tipstafflaw20_VmPlaces : Cmd :=
  (.seq
   (.seq
    (.new (some 3) 67 (.var 0) [])
   (.set 2 (.const (.bool false))))
  (.seq
   (.seq
    .draw
   (.seq
    (.chk [(.bin .rem (.ld none (.ixArr 2 1 (.var 3) (.const (.int .i64 1)))) (.const (.int .i32 1000)))])
   (.seq
    (.set 4 (.bin .rem (.ld none (.ixArr 2 1 (.var 3) (.const (.int .i64 0)))) (.const (.int .i32 1000))))
   (.set 5 (.bin .rem (.ld none (.ixArr 2 1 (.var 3) (.const (.int .i64 1)))) (.const (.int .i32 1000)))))))
  (.seq
   (.seq
    (.chk [(.upd 3 1 (.upd 0 1 (.const (.agg #[(.int .u8 0), (.int .u8 0), (.int .u8 0), (.int .i16 0), (.int .i32 0)])) (.const (.int .u8 5))) (.const (.int .i16 (-1)))), (.upd 0 1 (.const (.agg #[(.int .u8 0), (.int .u8 0), (.int .u8 0), (.int .i16 0), (.int .i32 0)])) (.const (.int .u8 149))), (.upd 3 1 (.upd 2 1 (.upd 1 1 (.upd 0 1 (.const (.agg #[(.int .u8 0), (.int .u8 0), (.int .u8 0), (.int .i16 0), (.int .i32 0)])) (.const (.int .u8 93))) (.const (.int .u8 0))) (.const (.int .u8 7))) (.const (.int .i16 1))), (.upd 2 1 (.upd 1 1 (.upd 0 1 (.const (.agg #[(.int .u8 0), (.int .u8 0), (.int .u8 0), (.int .i16 0), (.int .i32 0)])) (.const (.int .u8 121))) (.const (.int .u8 7))) (.const (.int .u8 6))), (.upd 3 1 (.upd 2 1 (.upd 1 1 (.upd 0 1 (.const (.agg #[(.int .u8 0), (.int .u8 0), (.int .u8 0), (.int .i16 0), (.int .i32 0)])) (.const (.int .u8 121))) (.const (.int .u8 0))) (.const (.int .u8 10))) (.const (.int .i16 (-8)))), (.upd 4 1 (.upd 1 1 (.upd 0 1 (.const (.agg #[(.int .u8 0), (.int .u8 0), (.int .u8 0), (.int .i16 0), (.int .i32 0)])) (.const (.int .u8 122))) (.const (.int .u8 6))) (.var 1)), (.upd 4 1 (.upd 1 1 (.upd 0 1 (.const (.agg #[(.int .u8 0), (.int .u8 0), (.int .u8 0), (.int .i16 0), (.int .i32 0)])) (.const (.int .u8 7))) (.const (.int .u8 6))) (.bin .sub (.bin .sub (.var 5) (.var 4)) (.const (.int .i32 8)))), (.upd 4 1 (.upd 1 1 (.upd 0 1 (.const (.agg #[(.int .u8 0), (.int .u8 0), (.int .u8 0), (.int .i16 0), (.int .i32 0)])) (.const (.int .u8 23))) (.const (.int .u8 6))) (.var 5)), (.upd 4 1 (.upd 1 1 (.upd 0 1 (.const (.agg #[(.int .u8 0), (.int .u8 0), (.int .u8 0), (.int .i16 0), (.int .i32 0)])) (.const (.int .u8 7))) (.const (.int .u8 6))) (.var 4)), (.upd 2 1 (.upd 1 1 (.upd 0 1 (.const (.agg #[(.int .u8 0), (.int .u8 0), (.int .u8 0), (.int .i16 0), (.int .i32 0)])) (.const (.int .u8 191))) (.const (.int .u8 6))) (.const (.int .u8 10)))])
   (.seq
    (.row (some 6) 55 10 (.upd 45 5 (.upd 40 5 (.upd 35 5 (.upd 30 5 (.upd 25 5 (.upd 20 5 (.upd 15 5 (.upd 10 5 (.upd 5 5 (.upd 0 5 (.const (.agg #[(.int .u8 0), (.int .u8 0), (.int .u8 0), (.int .i16 0), (.int .i32 0), (.int .u8 0), (.int .u8 0), (.int .u8 0), (.int .i16 0), (.int .i32 0), (.int .u8 0), (.int .u8 0), (.int .u8 0), (.int .i16 0), (.int .i32 0), (.int .u8 0), (.int .u8 0), (.int .u8 0), (.int .i16 0), (.int .i32 0), (.int .u8 0), (.int .u8 0), (.int .u8 0), (.int .i16 0), (.int .i32 0), (.int .u8 0), (.int .u8 0), (.int .u8 0), (.int .i16 0), (.int .i32 0), (.int .u8 0), (.int .u8 0), (.int .u8 0), (.int .i16 0), (.int .i32 0), (.int .u8 0), (.int .u8 0), (.int .u8 0), (.int .i16 0), (.int .i32 0), (.int .u8 0), (.int .u8 0), (.int .u8 0), (.int .i16 0), (.int .i32 0), (.int .u8 0), (.int .u8 0), (.int .u8 0), (.int .i16 0), (.int .i32 0)])) (.upd 2 1 (.upd 1 1 (.upd 0 1 (.const (.agg #[(.int .u8 0), (.int .u8 0), (.int .u8 0), (.int .i16 0), (.int .i32 0)])) (.const (.int .u8 191))) (.const (.int .u8 6))) (.const (.int .u8 10)))) (.upd 4 1 (.upd 1 1 (.upd 0 1 (.const (.agg #[(.int .u8 0), (.int .u8 0), (.int .u8 0), (.int .i16 0), (.int .i32 0)])) (.const (.int .u8 7))) (.const (.int .u8 6))) (.var 4))) (.upd 4 1 (.upd 1 1 (.upd 0 1 (.const (.agg #[(.int .u8 0), (.int .u8 0), (.int .u8 0), (.int .i16 0), (.int .i32 0)])) (.const (.int .u8 23))) (.const (.int .u8 6))) (.var 5))) (.upd 4 1 (.upd 1 1 (.upd 0 1 (.const (.agg #[(.int .u8 0), (.int .u8 0), (.int .u8 0), (.int .i16 0), (.int .i32 0)])) (.const (.int .u8 7))) (.const (.int .u8 6))) (.bin .sub (.bin .sub (.var 5) (.var 4)) (.const (.int .i32 8))))) (.upd 4 1 (.upd 1 1 (.upd 0 1 (.const (.agg #[(.int .u8 0), (.int .u8 0), (.int .u8 0), (.int .i16 0), (.int .i32 0)])) (.const (.int .u8 122))) (.const (.int .u8 6))) (.var 1))) (.upd 3 1 (.upd 2 1 (.upd 1 1 (.upd 0 1 (.const (.agg #[(.int .u8 0), (.int .u8 0), (.int .u8 0), (.int .i16 0), (.int .i32 0)])) (.const (.int .u8 121))) (.const (.int .u8 0))) (.const (.int .u8 10))) (.const (.int .i16 (-8))))) (.upd 2 1 (.upd 1 1 (.upd 0 1 (.const (.agg #[(.int .u8 0), (.int .u8 0), (.int .u8 0), (.int .i16 0), (.int .i32 0)])) (.const (.int .u8 121))) (.const (.int .u8 7))) (.const (.int .u8 6)))) (.upd 3 1 (.upd 2 1 (.upd 1 1 (.upd 0 1 (.const (.agg #[(.int .u8 0), (.int .u8 0), (.int .u8 0), (.int .i16 0), (.int .i32 0)])) (.const (.int .u8 93))) (.const (.int .u8 0))) (.const (.int .u8 7))) (.const (.int .i16 1)))) (.upd 0 1 (.const (.agg #[(.int .u8 0), (.int .u8 0), (.int .u8 0), (.int .i16 0), (.int .i32 0)])) (.const (.int .u8 149)))) (.upd 3 1 (.upd 0 1 (.const (.agg #[(.int .u8 0), (.int .u8 0), (.int .u8 0), (.int .i16 0), (.int .i32 0)])) (.const (.int .u8 5))) (.const (.int .i16 (-1))))) [])
   (.set 7 (.var 6))))
  (.seq
   (.seq
    (.chk [(.upd 35 1 (.const (.agg #[(.int .u8 0), (.int .u8 0), (.int .u8 0), (.int .u8 0), (.int .u8 0), (.int .u8 0), (.int .u8 0), (.int .u8 0), (.int .u8 0), (.int .u8 0), (.int .u8 0), (.int .u8 0), (.int .u8 0), (.int .u8 0), (.int .u8 0), (.int .u8 0), (.int .u8 0), (.int .u8 0), (.int .u8 0), (.int .u8 0), (.int .u8 0), (.int .u8 0), (.int .u8 0), (.int .u8 0), (.int .u8 0), (.int .u8 0), (.int .u8 0), (.int .u8 0), (.int .u8 0), (.int .u8 0), (.int .u8 0), (.int .u8 0), (.slice none 0 0), (.int .u64 0), (.slice none 0 0), (.int .i64 0)])) (.const (.int .i64 40)))])
   (.seq
    (.call (some 8) 22 [(.var 7), (.upd 35 1 (.const (.agg #[(.int .u8 0), (.int .u8 0), (.int .u8 0), (.int .u8 0), (.int .u8 0), (.int .u8 0), (.int .u8 0), (.int .u8 0), (.int .u8 0), (.int .u8 0), (.int .u8 0), (.int .u8 0), (.int .u8 0), (.int .u8 0), (.int .u8 0), (.int .u8 0), (.int .u8 0), (.int .u8 0), (.int .u8 0), (.int .u8 0), (.int .u8 0), (.int .u8 0), (.int .u8 0), (.int .u8 0), (.int .u8 0), (.int .u8 0), (.int .u8 0), (.int .u8 0), (.int .u8 0), (.int .u8 0), (.int .u8 0), (.int .u8 0), (.slice none 0 0), (.int .u64 0), (.slice none 0 0), (.int .i64 0)])) (.const (.int .i64 40)))] [])
   (.seq
    (.new (some 9) 58 (.const (.agg #[(.int .u64 0), (.int .i64 0), (.int .i64 0), (.int .i64 0)])) [])
   (.store 4 (.var 9) (.var 8) []))))
  (.seq
   (.seq
    (.call (some 10) 23 [] [])
   (.seq
    (.chk [(.pick (.var 10) (.eqx false (.cons 0 none .int (.cons 1 none .int (.cons 2 none .int (.cons 3 none .int .nil)))) (.ld (some 4) (.var 9)) (.upd 2 1 (.upd 1 1 (.upd 0 1 (.const (.agg #[(.int .u64 0), (.int .i64 0), (.int .i64 0), (.int .i64 0)])) (.conv .u64 (.conv .i64 (.var 1)))) (.const (.int .i64 8))) (.const (.int .i64 9)))) (.const (.bool false))), (.pick (.var 10) (.eqx false (.cons 0 none .int (.cons 1 none .int (.cons 2 none .int (.cons 3 none .int .nil)))) (.ld (some 4) (.var 9)) (.upd 2 1 (.upd 1 1 (.upd 0 1 (.const (.agg #[(.int .u64 0), (.int .i64 0), (.int .i64 0), (.int .i64 0)])) (.conv .u64 (.conv .i64 (.var 1)))) (.const (.int .i64 8))) (.const (.int .i64 9)))) (.const (.bool false))), (.pick (.var 10) (.upd 2 1 (.upd 1 1 (.upd 0 1 (.const (.agg #[(.int .u64 0), (.int .i64 0), (.int .i64 0), (.int .i64 0)])) (.conv .u64 (.conv .i64 (.var 1)))) (.const (.int .i64 8))) (.const (.int .i64 9))) (.const (.bool false)))])
   (.set 2 (.pick (.var 10) (.eqx false (.cons 0 none .int (.cons 1 none .int (.cons 2 none .int (.cons 3 none .int .nil)))) (.ld (some 4) (.var 9)) (.upd 2 1 (.upd 1 1 (.upd 0 1 (.const (.agg #[(.int .u64 0), (.int .i64 0), (.int .i64 0), (.int .i64 0)])) (.conv .u64 (.conv .i64 (.var 1)))) (.const (.int .i64 8))) (.const (.int .i64 9)))) (.const (.bool false))))))
  .ret)))))
abbrev v_tipstafflaw20_VmPlaces : List Nat := [0, 1, 4, 2, 5, 6, 32, 7, 35, 8, 36]
abbrev k_tipstafflaw20_VmPlaces : List (List Nat) := []
abbrev r_tipstafflaw20_VmPlaces : List Ex := [(.var 2)]
theorem ok_tipstafflaw20_VmPlaces : compile Try.prog Try.f8 v_tipstafflaw20_VmPlaces k_tipstafflaw20_VmPlaces = some (c_tipstafflaw20_VmPlaces, r_tipstafflaw20_VmPlaces) := by kernel_rfl

/- tipstaff/tipstafflaw20.VmFaults -/
def c_tipstafflaw20_VmFaults : Cmd :=
  (.seq
   (.set 2 (.const (.bool false)))
  (.seq
   (.set 3 (.conv .i64 (.bin .rem (.conv .u64 (.var 0)) (.const (.int .u64 50)))))
  (.seq
   (.set 4 (.const (.slice none 0 0)))
  (.seq
   (.seq
    (.set 5 (.const (.int .i64 0)))
   (.block 0
     (.loop [1, 3, 4, 5]
       (.seq
        (.cond (.bin .lss (.var 5) (.var 3))
          .skip
          (.exit 0))
       (.seq
        (.block 1
          (.seq
           (.chk [(.upd 1 1 (.upd 0 1 (.const (.agg #[(.int .u8 0), (.int .u8 0), (.int .u8 0), (.int .i16 0), (.int .i32 0)])) (.const (.int .u8 183))) (.const (.int .u8 6))), (.var 4)])
          (.seq
           (.row (some 6) 55 1 (.upd 0 5 (.const (.agg #[(.int .u8 0), (.int .u8 0), (.int .u8 0), (.int .i16 0), (.int .i32 0)])) (.upd 1 1 (.upd 0 1 (.const (.agg #[(.int .u8 0), (.int .u8 0), (.int .u8 0), (.int .i16 0), (.int .i32 0)])) (.const (.int .u8 183))) (.const (.int .u8 6)))) [])
          (.seq
           (.bi (some 7) .append [56, 56] 56 [(.var 4), (.var 6)] [])
          (.set 4 (.var 7))))))
       (.set 5 (.bin .add (.var 5) (.const (.int .i64 1)))))))))
  (.seq
   (.seq
    (.chk [(.upd 2 1 (.upd 1 1 (.upd 0 1 (.const (.agg #[(.int .u8 0), (.int .u8 0), (.int .u8 0), (.int .i16 0), (.int .i32 0)])) (.const (.int .u8 191))) (.const (.int .u8 11))) (.const (.int .u8 6))), (.upd 4 1 (.upd 0 1 (.const (.agg #[(.int .u8 0), (.int .u8 0), (.int .u8 0), (.int .i16 0), (.int .i32 0)])) (.const (.int .u8 133))) (.const (.int .i32 6))), (.upd 4 1 (.upd 2 1 (.upd 1 1 (.upd 0 1 (.const (.agg #[(.int .u8 0), (.int .u8 0), (.int .u8 0), (.int .i16 0), (.int .i32 0)])) (.const (.int .u8 24))) (.const (.int .u8 6))) (.const (.int .u8 1))) (.const (.int .i32 0))), (.upd 3 1 (.upd 2 1 (.upd 1 1 (.upd 0 1 (.const (.agg #[(.int .u8 0), (.int .u8 0), (.int .u8 0), (.int .i16 0), (.int .i32 0)])) (.const (.int .u8 121))) (.const (.int .u8 0))) (.const (.int .u8 10))) (.const (.int .i16 (-8)))), (.upd 2 1 (.upd 1 1 (.upd 0 1 (.const (.agg #[(.int .u8 0), (.int .u8 0), (.int .u8 0), (.int .i16 0), (.int .i32 0)])) (.const (.int .u8 123))) (.const (.int .u8 1))) (.const (.int .u8 6))), (.upd 2 1 (.upd 1 1 (.upd 0 1 (.const (.agg #[(.int .u8 0), (.int .u8 0), (.int .u8 0), (.int .i16 0), (.int .i32 0)])) (.const (.int .u8 15))) (.const (.int .u8 6))) (.const (.int .u8 9))), (.upd 4 1 (.upd 0 1 (.const (.agg #[(.int .u8 0), (.int .u8 0), (.int .u8 0), (.int .i16 0), (.int .i32 0)])) (.const (.int .u8 133))) (.const (.int .i32 1))), (.upd 1 1 (.upd 0 1 (.const (.agg #[(.int .u8 0), (.int .u8 0), (.int .u8 0), (.int .i16 0), (.int .i32 0)])) (.const (.int .u8 183))) (.const (.int .u8 10))), (.upd 0 1 (.const (.agg #[(.int .u8 0), (.int .u8 0), (.int .u8 0), (.int .i16 0), (.int .i32 0)])) (.const (.int .u8 255))), (.upd 2 1 (.upd 1 1 (.upd 0 1 (.const (.agg #[(.int .u8 0), (.int .u8 0), (.int .u8 0), (.int .i16 0), (.int .i32 0)])) (.const (.int .u8 121))) (.const (.int .u8 0))) (.const (.int .u8 6))), (.upd 0 1 (.const (.agg #[(.int .u8 0), (.int .u8 0), (.int .u8 0), (.int .i16 0), (.int .i32 0)])) (.const (.int .u8 149)))])
   (.seq
    (.row (some 8) 55 12 (.upd 55 5 (.upd 50 5 (.upd 45 5 (.upd 40 5 (.upd 35 5 (.upd 30 5 (.upd 25 5 (.upd 20 5 (.upd 15 5 (.upd 10 5 (.upd 5 5 (.upd 0 5 (.const (.agg #[(.int .u8 0), (.int .u8 0), (.int .u8 0), (.int .i16 0), (.int .i32 0), (.int .u8 0), (.int .u8 0), (.int .u8 0), (.int .i16 0), (.int .i32 0), (.int .u8 0), (.int .u8 0), (.int .u8 0), (.int .i16 0), (.int .i32 0), (.int .u8 0), (.int .u8 0), (.int .u8 0), (.int .i16 0), (.int .i32 0), (.int .u8 0), (.int .u8 0), (.int .u8 0), (.int .i16 0), (.int .i32 0), (.int .u8 0), (.int .u8 0), (.int .u8 0), (.int .i16 0), (.int .i32 0), (.int .u8 0), (.int .u8 0), (.int .u8 0), (.int .i16 0), (.int .i32 0), (.int .u8 0), (.int .u8 0), (.int .u8 0), (.int .i16 0), (.int .i32 0), (.int .u8 0), (.int .u8 0), (.int .u8 0), (.int .i16 0), (.int .i32 0), (.int .u8 0), (.int .u8 0), (.int .u8 0), (.int .i16 0), (.int .i32 0), (.int .u8 0), (.int .u8 0), (.int .u8 0), (.int .i16 0), (.int .i32 0), (.int .u8 0), (.int .u8 0), (.int .u8 0), (.int .i16 0), (.int .i32 0)])) (.upd 0 1 (.const (.agg #[(.int .u8 0), (.int .u8 0), (.int .u8 0), (.int .i16 0), (.int .i32 0)])) (.const (.int .u8 149)))) (.upd 2 1 (.upd 1 1 (.upd 0 1 (.const (.agg #[(.int .u8 0), (.int .u8 0), (.int .u8 0), (.int .i16 0), (.int .i32 0)])) (.const (.int .u8 121))) (.const (.int .u8 0))) (.const (.int .u8 6)))) (.upd 0 1 (.const (.agg #[(.int .u8 0), (.int .u8 0), (.int .u8 0), (.int .i16 0), (.int .i32 0)])) (.const (.int .u8 255)))) (.upd 1 1 (.upd 0 1 (.const (.agg #[(.int .u8 0), (.int .u8 0), (.int .u8 0), (.int .i16 0), (.int .i32 0)])) (.const (.int .u8 183))) (.const (.int .u8 10)))) (.upd 4 1 (.upd 0 1 (.const (.agg #[(.int .u8 0), (.int .u8 0), (.int .u8 0), (.int .i16 0), (.int .i32 0)])) (.const (.int .u8 133))) (.const (.int .i32 1)))) (.upd 2 1 (.upd 1 1 (.upd 0 1 (.const (.agg #[(.int .u8 0), (.int .u8 0), (.int .u8 0), (.int .i16 0), (.int .i32 0)])) (.const (.int .u8 15))) (.const (.int .u8 6))) (.const (.int .u8 9)))) (.upd 2 1 (.upd 1 1 (.upd 0 1 (.const (.agg #[(.int .u8 0), (.int .u8 0), (.int .u8 0), (.int .i16 0), (.int .i32 0)])) (.const (.int .u8 123))) (.const (.int .u8 1))) (.const (.int .u8 6)))) (.upd 3 1 (.upd 2 1 (.upd 1 1 (.upd 0 1 (.const (.agg #[(.int .u8 0), (.int .u8 0), (.int .u8 0), (.int .i16 0), (.int .i32 0)])) (.const (.int .u8 121))) (.const (.int .u8 0))) (.const (.int .u8 10))) (.const (.int .i16 (-8))))) (.const (.agg #[(.int .u8 0), (.int .u8 0), (.int .u8 0), (.int .i16 0), (.int .i32 0)]))) (.upd 4 1 (.upd 2 1 (.upd 1 1 (.upd 0 1 (.const (.agg #[(.int .u8 0), (.int .u8 0), (.int .u8 0), (.int .i16 0), (.int .i32 0)])) (.const (.int .u8 24))) (.const (.int .u8 6))) (.const (.int .u8 1))) (.const (.int .i32 0)))) (.upd 4 1 (.upd 0 1 (.const (.agg #[(.int .u8 0), (.int .u8 0), (.int .u8 0), (.int .i16 0), (.int .i32 0)])) (.const (.int .u8 133))) (.const (.int .i32 6)))) (.upd 2 1 (.upd 1 1 (.upd 0 1 (.const (.agg #[(.int .u8 0), (.int .u8 0), (.int .u8 0), (.int .i16 0), (.int .i32 0)])) (.const (.int .u8 191))) (.const (.int .u8 11))) (.const (.int .u8 6)))) [])
   (.set 9 (.var 8))))
  (.seq
   (.seq
    (.chk [(.var 4)])
   (.seq
    (.row (some 10) 55 2 (.upd 5 5 (.upd 0 5 (.const (.agg #[(.int .u8 0), (.int .u8 0), (.int .u8 0), (.int .i16 0), (.int .i32 0), (.int .u8 0), (.int .u8 0), (.int .u8 0), (.int .i16 0), (.int .i32 0)])) (.ld (some 5) (.ixSl 5 (.var 9) (.conv .i64 (.bin .rem (.conv .u64 (.var 1)) (.const (.int .u64 12))))))) (.const (.agg #[(.int .u8 0), (.int .u8 0), (.int .u8 0), (.int .i16 0), (.int .i32 0)]))) [])
   (.seq
    (.bi (some 11) .append [56, 56] 56 [(.var 4), (.var 10)] [])
   (.set 4 (.var 11)))))
  (.seq
   (.seq
    (.chk [(.upd 35 1 (.const (.agg #[(.int .u8 0), (.int .u8 0), (.int .u8 0), (.int .u8 0), (.int .u8 0), (.int .u8 0), (.int .u8 0), (.int .u8 0), (.int .u8 0), (.int .u8 0), (.int .u8 0), (.int .u8 0), (.int .u8 0), (.int .u8 0), (.int .u8 0), (.int .u8 0), (.int .u8 0), (.int .u8 0), (.int .u8 0), (.int .u8 0), (.int .u8 0), (.int .u8 0), (.int .u8 0), (.int .u8 0), (.int .u8 0), (.int .u8 0), (.int .u8 0), (.int .u8 0), (.int .u8 0), (.int .u8 0), (.int .u8 0), (.int .u8 0), (.slice none 0 0), (.int .u64 0), (.slice none 0 0), (.int .i64 0)])) (.const (.int .i64 100)))])
   (.seq
    (.call (some 12) 22 [(.var 4), (.upd 35 1 (.const (.agg #[(.int .u8 0), (.int .u8 0), (.int .u8 0), (.int .u8 0), (.int .u8 0), (.int .u8 0), (.int .u8 0), (.int .u8 0), (.int .u8 0), (.int .u8 0), (.int .u8 0), (.int .u8 0), (.int .u8 0), (.int .u8 0), (.int .u8 0), (.int .u8 0), (.int .u8 0), (.int .u8 0), (.int .u8 0), (.int .u8 0), (.int .u8 0), (.int .u8 0), (.int .u8 0), (.int .u8 0), (.int .u8 0), (.int .u8 0), (.int .u8 0), (.int .u8 0), (.int .u8 0), (.int .u8 0), (.int .u8 0), (.int .u8 0), (.slice none 0 0), (.int .u64 0), (.slice none 0 0), (.int .i64 0)])) (.const (.int .i64 100)))] [])
   (.seq
    (.new (some 13) 58 (.const (.agg #[(.int .u64 0), (.int .i64 0), (.int .i64 0), (.int .i64 0)])) [])
   (.store 4 (.var 13) (.var 12) []))))
  (.seq
   (.seq
    (.call (some 14) 23 [] [])
   (.seq
    (.chk [(.pick (.var 14) (.eqx false (.cons 0 none .int (.cons 1 none .int (.cons 2 none .int (.cons 3 none .int .nil)))) (.ld (some 4) (.var 13)) (.upd 3 1 (.upd 2 1 (.upd 1 1 (.const (.agg #[(.int .u64 0), (.int .i64 0), (.int .i64 0), (.int .i64 0)])) (.var 3)) (.var 3)) (.const (.int .i64 14)))) (.const (.bool false))), (.pick (.var 14) (.eqx false (.cons 0 none .int (.cons 1 none .int (.cons 2 none .int (.cons 3 none .int .nil)))) (.ld (some 4) (.var 13)) (.upd 3 1 (.upd 2 1 (.upd 1 1 (.const (.agg #[(.int .u64 0), (.int .i64 0), (.int .i64 0), (.int .i64 0)])) (.var 3)) (.var 3)) (.const (.int .i64 14)))) (.const (.bool false))), (.pick (.var 14) (.upd 3 1 (.upd 2 1 (.upd 1 1 (.const (.agg #[(.int .u64 0), (.int .i64 0), (.int .i64 0), (.int .i64 0)])) (.var 3)) (.var 3)) (.const (.int .i64 14))) (.const (.bool false)))])
   (.set 2 (.pick (.var 14) (.eqx false (.cons 0 none .int (.cons 1 none .int (.cons 2 none .int (.cons 3 none .int .nil)))) (.ld (some 4) (.var 13)) (.upd 3 1 (.upd 2 1 (.upd 1 1 (.const (.agg #[(.int .u64 0), (.int .i64 0), (.int .i64 0), (.int .i64 0)])) (.var 3)) (.var 3)) (.const (.int .i64 14)))) (.const (.bool false))))))
  .ret))))))))
abbrev v_tipstafflaw20_VmFaults : List Nat := [0, 1, 4, 5, 6, 7, 21, 22, 35, 8, 45, 46, 49, 9, 50]
abbrev k_tipstafflaw20_VmFaults : List (List Nat) := [[1, 3, 4, 5]]
abbrev r_tipstafflaw20_VmFaults : List Ex := [(.var 2)]
theorem ok_tipstafflaw20_VmFaults : compile Try.prog Try.f9 v_tipstafflaw20_VmFaults k_tipstafflaw20_VmFaults = some (c_tipstafflaw20_VmFaults, r_tipstafflaw20_VmFaults) := by kernel_rfl

/- tipstaff/vm.Run -/
def c_vm_Run : Cmd :=
  (.seq
   (.seq
    (.new (some 3) 62 (.var 1) [])
   (.new (some 2) 58 (.const (.agg #[(.int .u64 0), (.int .i64 0), (.int .i64 0), (.int .i64 0)])) []))
  (.seq
   (.seq
    .draw
   (.seq
    (.chk [(.var 0)])
   (.seq
    (.set 5 (.ld (some 36) (.var 3)))
   (.seq
    (.call (some 4) 14 [(.ld (some 32) (.offp 0 (.var 3))), (.ld none (.offp 32 (.var 3)))] [(.ld (some 36) (.var 3))])
   (.seq
    (.chk [(.upd 37 1 (.upd 1 36 (.upd 0 1 (.const (.agg #[(.slice none 0 0), (.int .u8 0), (.int .u8 0), (.int .u8 0), (.int .u8 0), (.int .u8 0), (.int .u8 0), (.int .u8 0), (.int .u8 0), (.int .u8 0), (.int .u8 0), (.int .u8 0), (.int .u8 0), (.int .u8 0), (.int .u8 0), (.int .u8 0), (.int .u8 0), (.int .u8 0), (.int .u8 0), (.int .u8 0), (.int .u8 0), (.int .u8 0), (.int .u8 0), (.int .u8 0), (.int .u8 0), (.int .u8 0), (.int .u8 0), (.int .u8 0), (.int .u8 0), (.int .u8 0), (.int .u8 0), (.int .u8 0), (.int .u8 0), (.slice none 0 0), (.int .u64 0), (.slice none 0 0), (.int .i64 0), (.pointer none), (.int .i64 0), (.int .u64 0), (.int .i64 0), (.pointer none), (.int .i64 0), (.int .u64 0), (.int .i64 0), (.pointer none), (.int .i64 0), (.int .u64 0), (.int .i64 0), (.pointer none), (.int .i64 0), (.int .u64 0), (.int .i64 0), (.pointer none), (.int .i64 0), (.int .u64 0), (.int .i64 0), (.pointer none), (.int .i64 0), (.int .u64 0), (.int .i64 0), (.pointer none), (.int .i64 0), (.int .u64 0), (.int .i64 0), (.pointer none), (.int .i64 0), (.int .u64 0), (.int .i64 0), (.pointer none), (.int .i64 0), (.int .u64 0), (.int .i64 0), (.pointer none), (.int .i64 0), (.int .u64 0), (.int .i64 0), (.pointer none), (.int .i64 0), (.int .u64 0), (.int .i64 0), (.pointer none), (.int .i64 0), (.bool false), (.int .i64 0)])) (.var 0)) (.var 5)) (.var 4))])
   (.seq
    (.new (some 6) 107 (.upd 37 1 (.upd 1 36 (.upd 0 1 (.const (.agg #[(.slice none 0 0), (.int .u8 0), (.int .u8 0), (.int .u8 0), (.int .u8 0), (.int .u8 0), (.int .u8 0), (.int .u8 0), (.int .u8 0), (.int .u8 0), (.int .u8 0), (.int .u8 0), (.int .u8 0), (.int .u8 0), (.int .u8 0), (.int .u8 0), (.int .u8 0), (.int .u8 0), (.int .u8 0), (.int .u8 0), (.int .u8 0), (.int .u8 0), (.int .u8 0), (.int .u8 0), (.int .u8 0), (.int .u8 0), (.int .u8 0), (.int .u8 0), (.int .u8 0), (.int .u8 0), (.int .u8 0), (.int .u8 0), (.int .u8 0), (.slice none 0 0), (.int .u64 0), (.slice none 0 0), (.int .i64 0), (.pointer none), (.int .i64 0), (.int .u64 0), (.int .i64 0), (.pointer none), (.int .i64 0), (.int .u64 0), (.int .i64 0), (.pointer none), (.int .i64 0), (.int .u64 0), (.int .i64 0), (.pointer none), (.int .i64 0), (.int .u64 0), (.int .i64 0), (.pointer none), (.int .i64 0), (.int .u64 0), (.int .i64 0), (.pointer none), (.int .i64 0), (.int .u64 0), (.int .i64 0), (.pointer none), (.int .i64 0), (.int .u64 0), (.int .i64 0), (.pointer none), (.int .i64 0), (.int .u64 0), (.int .i64 0), (.pointer none), (.int .i64 0), (.int .u64 0), (.int .i64 0), (.pointer none), (.int .i64 0), (.int .u64 0), (.int .i64 0), (.pointer none), (.int .i64 0), (.int .u64 0), (.int .i64 0), (.pointer none), (.int .i64 0), (.bool false), (.int .i64 0)])) (.var 0)) (.var 5)) (.var 4)) [])
   (.set 7 (.var 6))))))))
  (.seq
   (.seq
    (.chk [(.upd 0 1 (.const (.agg #[(.int .i64 0), (.int .u64 0), (.int .i64 0), (.pointer none)])) (.const (.int .i64 2)))])
   (.store 4 (.ixArr 11 4 (.offp 38 (.nn (.var 7))) (.const (.int .i64 1))) (.upd 0 1 (.const (.agg #[(.int .i64 0), (.int .u64 0), (.int .i64 0), (.pointer none)])) (.const (.int .i64 2))) []))
  (.seq
   (.seq
    (.chk [(.upd 0 1 (.const (.agg #[(.int .i64 0), (.int .u64 0), (.int .i64 0), (.pointer none)])) (.const (.int .i64 3)))])
   (.store 4 (.ixArr 11 4 (.offp 38 (.nn (.var 7))) (.const (.int .i64 10))) (.upd 0 1 (.const (.agg #[(.int .i64 0), (.int .u64 0), (.int .i64 0), (.pointer none)])) (.const (.int .i64 3))) []))
  (.seq
   (.set 8 (.mn (.mx (.ld none (.offp 35 (.var 3))) (.const (.int .i64 0))) (.const (.int .i64 4096))))
  (.seq
   (.seq
    (.seq
     (.set 10 (.var 8))
    (.set 9 (.const (.int .i64 0))))
   (.block 0
     (.loop [2, 7, 8, 9, 10]
       (.seq
        (.cond (.bin .lss (.var 9) (.var 10))
          .skip
          (.exit 0))
       (.seq
        (.block 1
          (.seq
           (.set 11 (.var 9))
          (.seq
           (.seq
            (.call (some 12) 43 [(.var 7)] [])
           (.cond (.un .not (.var 12))
             (.seq
              (.seq
               (.chk [(.upd 3 1 (.upd 2 1 (.upd 1 1 (.const (.agg #[(.int .u64 0), (.int .i64 0), (.int .i64 0), (.int .i64 0)])) (.ld none (.offp 82 (.nn (.var 7))))) (.var 11)) (.const (.int .i64 14)))])
              (.store 4 (.var 2) (.upd 3 1 (.upd 2 1 (.upd 1 1 (.const (.agg #[(.int .u64 0), (.int .i64 0), (.int .i64 0), (.int .i64 0)])) (.ld none (.offp 82 (.nn (.var 7))))) (.var 11)) (.const (.int .i64 14))) []))
             .ret)
             .skip))
          (.cond (.ld none (.offp 83 (.nn (.var 7))))
            (.seq
             (.seq
              .draw
             (.seq
              (.chk [(.upd 2 1 (.upd 1 1 (.upd 0 1 (.const (.agg #[(.int .u64 0), (.int .i64 0), (.int .i64 0), (.int .i64 0)])) (.ld none (.offp 1 (.ixArr 11 4 (.offp 38 (.nn (.var 7))) (.const (.int .i64 0)))))) (.ld none (.offp 82 (.nn (.var 7))))) (.bin .add (.var 11) (.const (.int .i64 1))))])
             (.store 4 (.var 2) (.upd 2 1 (.upd 1 1 (.upd 0 1 (.const (.agg #[(.int .u64 0), (.int .i64 0), (.int .i64 0), (.int .i64 0)])) (.ld none (.offp 1 (.ixArr 11 4 (.offp 38 (.nn (.var 7))) (.const (.int .i64 0)))))) (.ld none (.offp 82 (.nn (.var 7))))) (.bin .add (.var 11) (.const (.int .i64 1)))) [])))
            .ret)
            .skip))))
       (.set 9 (.bin .add (.var 9) (.const (.int .i64 1)))))))))
  (.seq
   (.seq
    (.chk [(.upd 3 1 (.upd 2 1 (.upd 1 1 (.const (.agg #[(.int .u64 0), (.int .i64 0), (.int .i64 0), (.int .i64 0)])) (.ld none (.offp 82 (.nn (.var 7))))) (.var 8)) (.const (.int .i64 62)))])
   (.store 4 (.var 2) (.upd 3 1 (.upd 2 1 (.upd 1 1 (.const (.agg #[(.int .u64 0), (.int .i64 0), (.int .i64 0), (.int .i64 0)])) (.ld none (.offp 82 (.nn (.var 7))))) (.var 8)) (.const (.int .i64 62))) []))
  .ret)))))))
abbrev v_vm_Run : List Nat := [0, 1, 4, 3, 14, 9, 16, 5, 6, 32, 31, 7, 36]
abbrev k_vm_Run : List (List Nat) := [[2, 7, 8, 9, 10]]
abbrev r_vm_Run : List Ex := [(.ld (some 4) (.var 2))]
theorem ok_vm_Run : compile Try.prog Try.f22 v_vm_Run k_vm_Run = some (c_vm_Run, r_vm_Run) := by kernel_rfl

/- tipstaff/vm.number -/
def c_vm_number : Cmd :=
  (.seq
   (.new (some 1) 43 (.const (.agg #[(.int .i64 0), (.int .u64 0), (.int .i64 0), (.pointer none)])) [])
  (.seq
   (.seq
    (.chk [(.upd 1 1 (.upd 0 1 (.const (.agg #[(.int .i64 0), (.int .u64 0), (.int .i64 0), (.pointer none)])) (.const (.int .i64 1))) (.var 0))])
   (.store 4 (.var 1) (.upd 1 1 (.upd 0 1 (.const (.agg #[(.int .i64 0), (.int .u64 0), (.int .i64 0), (.pointer none)])) (.const (.int .i64 1))) (.var 0)) []))
  .ret))
abbrev v_vm_number : List Nat := [0, 2]
abbrev k_vm_number : List (List Nat) := []
abbrev r_vm_number : List Ex := [(.ld (some 4) (.var 1))]
theorem ok_vm_number : compile Try.prog Try.f75 v_vm_number k_vm_number = some (c_vm_number, r_vm_number) := by kernel_rfl

/- tipstaff/vm.place -/
def c_vm_place : Cmd :=
  (.seq
   (.seq
    (.new (some 2) 43 (.var 0) [])
   (.set 1 (.const (.bool false))))
  (.seq
   (.set 1 (.pick (.pick (.bin .eql (.ld none (.offp 0 (.var 2))) (.const (.int .i64 2))) (.const (.bool true)) (.bin .eql (.ld none (.offp 0 (.var 2))) (.const (.int .i64 3)))) (.const (.bool true)) (.bin .eql (.ld none (.offp 0 (.var 2))) (.const (.int .i64 5)))))
  .ret))
abbrev v_vm_place : List Nat := [0, 2, 1]
abbrev k_vm_place : List (List Nat) := []
abbrev r_vm_place : List Ex := [(.var 1)]
theorem ok_vm_place : compile Try.prog Try.f83 v_vm_place k_vm_place = some (c_vm_place, r_vm_place) := by kernel_rfl

/- tipstaff/vm.further -/
def c_vm_further : Cmd :=
  (.seq
   (.seq
    (.new (some 3) 43 (.var 0) [])
   (.new (some 2) 43 (.const (.agg #[(.int .i64 0), (.int .u64 0), (.int .i64 0), (.pointer none)])) []))
  (.seq
   (.store 1 (.offp 1 (.var 3)) (.bin .add (.ld none (.offp 1 (.var 3))) (.var 1)) [])
  (.seq
   (.store 4 (.var 2) (.ld (some 4) (.var 3)) [])
  .ret)))
abbrev v_vm_further : List Nat := [0, 1, 4, 2]
abbrev k_vm_further : List (List Nat) := []
abbrev r_vm_further : List Ex := [(.ld (some 4) (.var 2))]
theorem ok_vm_further : compile Try.prog Try.f84 v_vm_further k_vm_further = some (c_vm_further, r_vm_further) := by kernel_rfl

/- tipstaff/vm.onPlace -/
def c_vm_onPlace : Cmd :=
  (.seq
   (.seq
    (.new (some 5) 43 (.var 1) [])
   (.seq
    (.new (some 6) 43 (.var 2) [])
   (.seq
    (.new (some 3) 43 (.const (.agg #[(.int .i64 0), (.int .u64 0), (.int .i64 0), (.pointer none)])) [])
   (.set 4 (.const (.bool false))))))
  (.seq
   (.block 0
     (.seq
      (.set 7 (.pick (.bin .eql (.var 0) (.const (.int .i64 11))) (.bin .neq (.ld none (.offp 0 (.var 6))) (.const (.int .i64 0))) (.const (.bool false))))
     (.cond (.var 7)
       (.seq
        (.seq
         (.store 4 (.var 3) (.ld (some 4) (.var 6)) [])
        (.set 4 (.const (.bool true))))
       .ret)
       (.seq
        (.seq
         (.chk [(.pick (.bin .eql (.var 0) (.const (.int .i64 0))) (.ld (some 4) (.var 5)) (.const (.bool false)))])
        (.seq
         (.cond (.pick (.bin .eql (.var 0) (.const (.int .i64 0))) (.const (.bool true)) (.const (.bool false)))
           (.call (some 8) 83 [(.ld (some 4) (.var 5))] [])
           (.clr [8]))
        (.set 9 (.pick (.pick (.bin .eql (.var 0) (.const (.int .i64 0))) (.var 8) (.const (.bool false))) (.bin .eql (.ld none (.offp 0 (.var 6))) (.const (.int .i64 1))) (.const (.bool false))))))
       (.cond (.var 9)
         (.seq
          (.seq
           (.call (some 10) 84 [(.ld (some 4) (.var 5)), (.ld none (.offp 1 (.var 6)))] [])
          (.seq
           (.store 4 (.var 3) (.var 10) [])
          (.set 4 (.const (.bool true)))))
         .ret)
         (.seq
          (.seq
           (.chk [(.pick (.bin .eql (.var 0) (.const (.int .i64 1))) (.ld (some 4) (.var 5)) (.const (.bool false)))])
          (.seq
           (.cond (.pick (.bin .eql (.var 0) (.const (.int .i64 1))) (.const (.bool true)) (.const (.bool false)))
             (.call (some 11) 83 [(.ld (some 4) (.var 5))] [])
             (.clr [11]))
          (.set 12 (.pick (.pick (.bin .eql (.var 0) (.const (.int .i64 1))) (.var 11) (.const (.bool false))) (.bin .eql (.ld none (.offp 0 (.var 6))) (.const (.int .i64 1))) (.const (.bool false))))))
         (.cond (.var 12)
           (.seq
            (.seq
             (.call (some 13) 84 [(.ld (some 4) (.var 5)), (.un .neg (.ld none (.offp 1 (.var 6))))] [])
            (.seq
             (.store 4 (.var 3) (.var 13) [])
            (.set 4 (.const (.bool true)))))
           .ret)
           (.seq
            (.seq
             (.chk [(.pick (.bin .eql (.var 0) (.const (.int .i64 0))) (.ld (some 4) (.var 6)) (.const (.bool false)))])
            (.seq
             (.cond (.pick (.bin .eql (.var 0) (.const (.int .i64 0))) (.const (.bool true)) (.const (.bool false)))
               (.call (some 14) 83 [(.ld (some 4) (.var 6))] [])
               (.clr [14]))
            (.set 15 (.pick (.pick (.bin .eql (.var 0) (.const (.int .i64 0))) (.var 14) (.const (.bool false))) (.bin .eql (.ld none (.offp 0 (.var 5))) (.const (.int .i64 1))) (.const (.bool false))))))
           (.cond (.var 15)
             (.seq
              (.seq
               (.call (some 16) 84 [(.ld (some 4) (.var 6)), (.ld none (.offp 1 (.var 5)))] [])
              (.seq
               (.store 4 (.var 3) (.var 16) [])
              (.set 4 (.const (.bool true)))))
             .ret)
             .skip)))))))))
  (.seq
   (.seq
    (.store 4 (.var 3) (.const (.agg #[(.int .i64 0), (.int .u64 0), (.int .i64 0), (.pointer none)])) [])
   (.set 4 (.const (.bool false))))
  .ret)))
abbrev v_vm_onPlace : List Nat := [0, 1, 2, 6, 7, 4, 5, 8, 22, 17, 32, 38, 33, 49, 55, 50, 65]
abbrev k_vm_onPlace : List (List Nat) := []
abbrev r_vm_onPlace : List Ex := [(.ld (some 4) (.var 3)), (.var 4)]
theorem ok_vm_onPlace : compile Try.prog Try.f78 v_vm_onPlace k_vm_onPlace = some (c_vm_onPlace, r_vm_onPlace) := by kernel_rfl

/- (*tipstaff/vm.machine).second -/
def c_vm_machine_second : Cmd :=
  (.seq
   (.seq
    (.new (some 4) 55 (.var 1) [])
   (.new (some 3) 43 (.const (.agg #[(.int .i64 0), (.int .u64 0), (.int .i64 0), (.pointer none)])) []))
  (.seq
   (.cond (.var 2)
     (.seq
      (.seq
       .draw
      (.store 4 (.var 3) (.ld (some 4) (.ixArr 11 4 (.offp 38 (.nn (.var 0))) (.ld none (.offp 2 (.var 4))))) []))
     .ret)
     .skip)
  (.seq
   (.seq
    (.call (some 5) 75 [(.conv .u64 (.conv .i64 (.ld none (.offp 4 (.var 4)))))] [])
   (.store 4 (.var 3) (.var 5) []))
  .ret)))
abbrev v_vm_machine_second : List Nat := [0, 1, 2, 6, 4, 19]
abbrev k_vm_machine_second : List (List Nat) := []
abbrev r_vm_machine_second : List Ex := [(.ld (some 4) (.var 3))]
theorem ok_vm_machine_second : compile Try.prog Try.f66 v_vm_machine_second k_vm_machine_second = some (c_vm_machine_second, r_vm_machine_second) := by kernel_rfl

/- (*tipstaff/vm.machine).alu -/
def c_vm_machine_alu : Cmd :=
  (.seq
   (.seq
    (.new (some 4) 55 (.var 1) [])
   (.seq
    (.new (some 5) 122 (.var 2) [])
   (.set 3 (.const (.bool false)))))
  (.seq
   (.seq
    .draw
   (.seq
    (.chk [(.var 0)])
   (.seq
    (.set 25 (.ld none (.offp 1 (.var 4))))
   (.seq
    (.set 9 (.ld (some 4) (.ixArr 11 4 (.offp 38 (.nn (.var 0))) (.var 25))))
   (.seq
    (.chk [(.var 0)])
   (.seq
    (.set 10 (.ld (some 5) (.var 4)))
   (.seq
    (.set 11 (.ld none (.offp 4 (.var 5))))
   (.alt
    (.seq
     (.call (some 6) 66 [(.var 0), (.var 10), (.var 11)] [(.ld none (.offp 4 (.var 5))), (.ld (some 5) (.var 4)), (.ld (some 4) (.ixArr 11 4 (.offp 38 (.nn (.var 0))) (.var 25))), (.ld none (.offp 1 (.var 4)))])
    (.alt
     (.seq
      (.new (some 7) 43 (.const (.agg #[(.int .i64 0), (.int .u64 0), (.int .i64 0), (.pointer none)])) [(.ld none (.offp 4 (.var 5))), (.ld (some 5) (.var 4)), (.ld (some 4) (.ixArr 11 4 (.offp 38 (.nn (.var 0))) (.var 25))), (.ld none (.offp 1 (.var 4)))])
     (.seq
      (.new (some 8) 43 (.const (.agg #[(.int .i64 0), (.int .u64 0), (.int .i64 0), (.pointer none)])) [(.ld none (.offp 4 (.var 5))), (.ld (some 5) (.var 4)), (.ld (some 4) (.ixArr 11 4 (.offp 38 (.nn (.var 0))) (.var 25))), (.ld none (.offp 1 (.var 4)))])
     (.seq
      (.store 4 (.var 7) (.var 9) [])
     (.store 4 (.var 8) (.var 6) []))))
    (.seq
     (.new (some 8) 43 (.const (.agg #[(.int .i64 0), (.int .u64 0), (.int .i64 0), (.pointer none)])) [(.ld none (.offp 4 (.var 5))), (.ld (some 5) (.var 4)), (.ld (some 4) (.ixArr 11 4 (.offp 38 (.nn (.var 0))) (.var 25))), (.ld none (.offp 1 (.var 4)))])
    (.seq
     (.new (some 7) 43 (.const (.agg #[(.int .i64 0), (.int .u64 0), (.int .i64 0), (.pointer none)])) [(.ld none (.offp 4 (.var 5))), (.ld (some 5) (.var 4)), (.ld (some 4) (.ixArr 11 4 (.offp 38 (.nn (.var 0))) (.var 25))), (.ld none (.offp 1 (.var 4)))])
    (.seq
     (.store 4 (.var 7) (.var 9) [])
    (.store 4 (.var 8) (.var 6) []))))))
   (.alt
    (.seq
     (.new (some 7) 43 (.const (.agg #[(.int .i64 0), (.int .u64 0), (.int .i64 0), (.pointer none)])) [(.ld none (.offp 4 (.var 5))), (.ld (some 5) (.var 4)), (.ld (some 4) (.ixArr 11 4 (.offp 38 (.nn (.var 0))) (.var 25))), (.ld none (.offp 1 (.var 4)))])
    (.alt
     (.seq
      (.call (some 6) 66 [(.var 0), (.var 10), (.var 11)] [(.ld none (.offp 4 (.var 5))), (.ld (some 5) (.var 4)), (.ld (some 4) (.ixArr 11 4 (.offp 38 (.nn (.var 0))) (.var 25))), (.ld none (.offp 1 (.var 4)))])
     (.seq
      (.new (some 8) 43 (.const (.agg #[(.int .i64 0), (.int .u64 0), (.int .i64 0), (.pointer none)])) [(.ld none (.offp 4 (.var 5))), (.ld (some 5) (.var 4)), (.ld (some 4) (.ixArr 11 4 (.offp 38 (.nn (.var 0))) (.var 25))), (.ld none (.offp 1 (.var 4)))])
     (.seq
      (.store 4 (.var 7) (.var 9) [])
     (.store 4 (.var 8) (.var 6) []))))
    (.seq
     (.new (some 8) 43 (.const (.agg #[(.int .i64 0), (.int .u64 0), (.int .i64 0), (.pointer none)])) [(.ld none (.offp 4 (.var 5))), (.ld (some 5) (.var 4)), (.ld (some 4) (.ixArr 11 4 (.offp 38 (.nn (.var 0))) (.var 25))), (.ld none (.offp 1 (.var 4)))])
    (.seq
     (.call (some 6) 66 [(.var 0), (.var 10), (.var 11)] [(.ld (some 4) (.ixArr 11 4 (.offp 38 (.nn (.var 0))) (.var 25))), (.ld none (.offp 1 (.var 4)))])
    (.seq
     (.store 4 (.var 7) (.var 9) [])
    (.store 4 (.var 8) (.var 6) []))))))
   (.seq
    (.new (some 8) 43 (.const (.agg #[(.int .i64 0), (.int .u64 0), (.int .i64 0), (.pointer none)])) [(.ld none (.offp 4 (.var 5))), (.ld (some 5) (.var 4)), (.ld (some 4) (.ixArr 11 4 (.offp 38 (.nn (.var 0))) (.var 25))), (.ld none (.offp 1 (.var 4)))])
   (.alt
    (.seq
     (.call (some 6) 66 [(.var 0), (.var 10), (.var 11)] [(.ld none (.offp 4 (.var 5))), (.ld (some 5) (.var 4)), (.ld (some 4) (.ixArr 11 4 (.offp 38 (.nn (.var 0))) (.var 25))), (.ld none (.offp 1 (.var 4)))])
    (.seq
     (.new (some 7) 43 (.const (.agg #[(.int .i64 0), (.int .u64 0), (.int .i64 0), (.pointer none)])) [(.ld none (.offp 4 (.var 5))), (.ld (some 5) (.var 4)), (.ld (some 4) (.ixArr 11 4 (.offp 38 (.nn (.var 0))) (.var 25))), (.ld none (.offp 1 (.var 4)))])
    (.seq
     (.store 4 (.var 7) (.var 9) [])
    (.store 4 (.var 8) (.var 6) []))))
   (.seq
    (.new (some 7) 43 (.const (.agg #[(.int .i64 0), (.int .u64 0), (.int .i64 0), (.pointer none)])) [(.ld none (.offp 4 (.var 5))), (.ld (some 5) (.var 4)), (.ld (some 4) (.ixArr 11 4 (.offp 38 (.nn (.var 0))) (.var 25))), (.ld none (.offp 1 (.var 4)))])
   (.seq
    (.call (some 6) 66 [(.var 0), (.var 10), (.var 11)] [(.ld (some 4) (.ixArr 11 4 (.offp 38 (.nn (.var 0))) (.var 25))), (.ld none (.offp 1 (.var 4)))])
   (.seq
    (.store 4 (.var 7) (.var 9) [])
   (.store 4 (.var 8) (.var 6) [])))))))))))))))
  (.seq
   (.block 0
     (.seq
      (.set 12 (.pick (.bin .eql (.ld none (.offp 1 (.var 5))) (.const (.int .i64 11))) (.bin .eql (.ld none (.offp 0 (.var 8))) (.const (.int .i64 1))) (.const (.bool false))))
     (.cond (.var 12)
       (.seq
        (.call (some 13) 75 [(.const (.int .u64 0))] [])
       (.store 4 (.var 7) (.var 13) []))
       (.seq
        (.set 14 (.bin .eql (.ld none (.offp 1 (.var 5))) (.const (.int .i64 8))))
       (.cond (.var 14)
         (.seq
          (.call (some 15) 75 [(.const (.int .u64 0))] [])
         (.store 4 (.var 8) (.var 15) []))
         .skip)))))
  (.seq
   (.cond (.pick (.bin .eql (.ld none (.offp 0 (.var 7))) (.const (.int .i64 1))) (.bin .eql (.ld none (.offp 0 (.var 8))) (.const (.int .i64 1))) (.const (.bool false)))
     (.seq
      (.seq
       .draw
      (.seq
       (.chk [(.var 0)])
      (.seq
       (.set 18 (.ld none (.offp 1 (.var 4))))
      (.seq
       (.call (some 16) 77 [(.ld none (.offp 1 (.var 5))), (.ld none (.offp 3 (.var 5))), (.ld none (.offp 1 (.var 7))), (.ld none (.offp 1 (.var 8)))] [(.ld none (.offp 1 (.var 4)))])
      (.seq
       (.call (some 17) 75 [(.var 16)] [(.ld none (.offp 1 (.var 4)))])
      (.seq
       (.call (some 19) 76 [(.var 0), (.var 18), (.var 17)] [])
      (.set 3 (.var 19))))))))
     .ret)
     .skip)
  (.seq
   (.seq
    (.call (some 20) 78 [(.ld none (.offp 1 (.var 5))), (.ld (some 4) (.var 7)), (.ld (some 4) (.var 8))] [])
   (.seq
    (.chk [(.proj 1 (.var 20)), (.proj 0 (.var 20))])
   (.seq
    (.new (some 21) 43 (.const (.agg #[(.int .i64 0), (.int .u64 0), (.int .i64 0), (.pointer none)])) [])
   (.seq
    (.store 4 (.var 21) (.proj 0 (.var 20)) [])
   (.set 22 (.proj 1 (.var 20)))))))
  (.seq
   (.seq
    (.set 24 (.pick (.pick (.var 22) (.ld none (.offp 3 (.var 5))) (.const (.bool false))) (.bin .neq (.ld none (.offp 1 (.var 5))) (.const (.int .i64 8))) (.const (.bool false))))
   (.seq
    (.chk [(.pick (.var 24) (.ld (some 4) (.var 21)) (.const (.bool false))), (.pick (.var 24) (.ld none (.offp 1 (.var 4))) (.const (.bool false))), (.pick (.var 24) (.var 0) (.const (.bool false)))])
   (.seq
    (.cond (.pick (.var 24) (.const (.bool true)) (.const (.bool false)))
      (.call (some 23) 76 [(.var 0), (.ld none (.offp 1 (.var 4))), (.ld (some 4) (.var 21))] [])
      (.clr [23]))
   (.set 3 (.pick (.var 24) (.var 23) (.const (.bool false)))))))
  .ret))))))
abbrev v_vm_machine_alu : List Nat := [0, 1, 2, 6, 4, 5, 22, 7, 8, 17, 19, 21, 23, 32, 33, 37, 57, 58, 48, 59, 65, 9, 10, 83, 78, 13]
abbrev k_vm_machine_alu : List (List Nat) := []
abbrev r_vm_machine_alu : List Ex := [(.var 3)]
theorem ok_vm_machine_alu : compile Try.prog Try.f60 v_vm_machine_alu k_vm_machine_alu = some (c_vm_machine_alu, r_vm_machine_alu) := by kernel_rfl

/- (*tipstaff/vm.machine).set -/
def c_vm_machine_set : Cmd :=
  (.seq
   (.seq
    (.new (some 4) 43 (.var 2) [])
   (.set 3 (.const (.bool false))))
  (.seq
   (.cond (.bin .eql (.var 1) (.const (.int .u8 10)))
     (.seq
      (.set 3 (.const (.bool false)))
     .ret)
     .skip)
  (.seq
   (.seq
    .draw
   (.store 4 (.ixArr 11 4 (.offp 38 (.nn (.var 0))) (.var 1)) (.ld (some 4) (.var 4)) []))
  (.seq
   (.store 1 (.offp 82 (.nn (.var 0))) (.bin .add (.ld none (.offp 82 (.nn (.var 0)))) (.const (.int .i64 1))) [])
  (.seq
   (.set 3 (.const (.bool true)))
  .ret)))))
abbrev v_vm_machine_set : List Nat := [0, 1, 2, 6, 5]
abbrev k_vm_machine_set : List (List Nat) := []
abbrev r_vm_machine_set : List Ex := [(.var 3)]
theorem ok_vm_machine_set : compile Try.prog Try.f76 v_vm_machine_set k_vm_machine_set = some (c_vm_machine_set, r_vm_machine_set) := by kernel_rfl

/- (*tipstaff/vm.machine).jump -/
def c_vm_machine_jump : Cmd :=
  (.seq
   (.seq
    (.new (some 4) 55 (.var 1) [])
   (.seq
    (.new (some 5) 122 (.var 2) [])
   (.set 3 (.const (.bool false)))))
  (.seq
   (.seq
    .draw
   (.seq
    (.chk [(.var 0)])
   (.seq
    (.set 17 (.ld none (.offp 1 (.var 4))))
   (.seq
    (.set 9 (.ld (some 4) (.ixArr 11 4 (.offp 38 (.nn (.var 0))) (.var 17))))
   (.seq
    (.chk [(.var 0)])
   (.seq
    (.set 10 (.ld (some 5) (.var 4)))
   (.seq
    (.set 11 (.ld none (.offp 4 (.var 5))))
   (.alt
    (.seq
     (.call (some 6) 66 [(.var 0), (.var 10), (.var 11)] [(.ld none (.offp 4 (.var 5))), (.ld (some 5) (.var 4)), (.ld (some 4) (.ixArr 11 4 (.offp 38 (.nn (.var 0))) (.var 17))), (.ld none (.offp 1 (.var 4)))])
    (.alt
     (.seq
      (.new (some 7) 43 (.const (.agg #[(.int .i64 0), (.int .u64 0), (.int .i64 0), (.pointer none)])) [(.ld none (.offp 4 (.var 5))), (.ld (some 5) (.var 4)), (.ld (some 4) (.ixArr 11 4 (.offp 38 (.nn (.var 0))) (.var 17))), (.ld none (.offp 1 (.var 4)))])
     (.seq
      (.new (some 8) 43 (.const (.agg #[(.int .i64 0), (.int .u64 0), (.int .i64 0), (.pointer none)])) [(.ld none (.offp 4 (.var 5))), (.ld (some 5) (.var 4)), (.ld (some 4) (.ixArr 11 4 (.offp 38 (.nn (.var 0))) (.var 17))), (.ld none (.offp 1 (.var 4)))])
     (.seq
      (.store 4 (.var 7) (.var 9) [])
     (.store 4 (.var 8) (.var 6) []))))
    (.seq
     (.new (some 8) 43 (.const (.agg #[(.int .i64 0), (.int .u64 0), (.int .i64 0), (.pointer none)])) [(.ld none (.offp 4 (.var 5))), (.ld (some 5) (.var 4)), (.ld (some 4) (.ixArr 11 4 (.offp 38 (.nn (.var 0))) (.var 17))), (.ld none (.offp 1 (.var 4)))])
    (.seq
     (.new (some 7) 43 (.const (.agg #[(.int .i64 0), (.int .u64 0), (.int .i64 0), (.pointer none)])) [(.ld none (.offp 4 (.var 5))), (.ld (some 5) (.var 4)), (.ld (some 4) (.ixArr 11 4 (.offp 38 (.nn (.var 0))) (.var 17))), (.ld none (.offp 1 (.var 4)))])
    (.seq
     (.store 4 (.var 7) (.var 9) [])
    (.store 4 (.var 8) (.var 6) []))))))
   (.alt
    (.seq
     (.new (some 7) 43 (.const (.agg #[(.int .i64 0), (.int .u64 0), (.int .i64 0), (.pointer none)])) [(.ld none (.offp 4 (.var 5))), (.ld (some 5) (.var 4)), (.ld (some 4) (.ixArr 11 4 (.offp 38 (.nn (.var 0))) (.var 17))), (.ld none (.offp 1 (.var 4)))])
    (.alt
     (.seq
      (.call (some 6) 66 [(.var 0), (.var 10), (.var 11)] [(.ld none (.offp 4 (.var 5))), (.ld (some 5) (.var 4)), (.ld (some 4) (.ixArr 11 4 (.offp 38 (.nn (.var 0))) (.var 17))), (.ld none (.offp 1 (.var 4)))])
     (.seq
      (.new (some 8) 43 (.const (.agg #[(.int .i64 0), (.int .u64 0), (.int .i64 0), (.pointer none)])) [(.ld none (.offp 4 (.var 5))), (.ld (some 5) (.var 4)), (.ld (some 4) (.ixArr 11 4 (.offp 38 (.nn (.var 0))) (.var 17))), (.ld none (.offp 1 (.var 4)))])
     (.seq
      (.store 4 (.var 7) (.var 9) [])
     (.store 4 (.var 8) (.var 6) []))))
    (.seq
     (.new (some 8) 43 (.const (.agg #[(.int .i64 0), (.int .u64 0), (.int .i64 0), (.pointer none)])) [(.ld none (.offp 4 (.var 5))), (.ld (some 5) (.var 4)), (.ld (some 4) (.ixArr 11 4 (.offp 38 (.nn (.var 0))) (.var 17))), (.ld none (.offp 1 (.var 4)))])
    (.seq
     (.call (some 6) 66 [(.var 0), (.var 10), (.var 11)] [(.ld (some 4) (.ixArr 11 4 (.offp 38 (.nn (.var 0))) (.var 17))), (.ld none (.offp 1 (.var 4)))])
    (.seq
     (.store 4 (.var 7) (.var 9) [])
    (.store 4 (.var 8) (.var 6) []))))))
   (.seq
    (.new (some 8) 43 (.const (.agg #[(.int .i64 0), (.int .u64 0), (.int .i64 0), (.pointer none)])) [(.ld none (.offp 4 (.var 5))), (.ld (some 5) (.var 4)), (.ld (some 4) (.ixArr 11 4 (.offp 38 (.nn (.var 0))) (.var 17))), (.ld none (.offp 1 (.var 4)))])
   (.alt
    (.seq
     (.call (some 6) 66 [(.var 0), (.var 10), (.var 11)] [(.ld none (.offp 4 (.var 5))), (.ld (some 5) (.var 4)), (.ld (some 4) (.ixArr 11 4 (.offp 38 (.nn (.var 0))) (.var 17))), (.ld none (.offp 1 (.var 4)))])
    (.seq
     (.new (some 7) 43 (.const (.agg #[(.int .i64 0), (.int .u64 0), (.int .i64 0), (.pointer none)])) [(.ld none (.offp 4 (.var 5))), (.ld (some 5) (.var 4)), (.ld (some 4) (.ixArr 11 4 (.offp 38 (.nn (.var 0))) (.var 17))), (.ld none (.offp 1 (.var 4)))])
    (.seq
     (.store 4 (.var 7) (.var 9) [])
    (.store 4 (.var 8) (.var 6) []))))
   (.seq
    (.new (some 7) 43 (.const (.agg #[(.int .i64 0), (.int .u64 0), (.int .i64 0), (.pointer none)])) [(.ld none (.offp 4 (.var 5))), (.ld (some 5) (.var 4)), (.ld (some 4) (.ixArr 11 4 (.offp 38 (.nn (.var 0))) (.var 17))), (.ld none (.offp 1 (.var 4)))])
   (.seq
    (.call (some 6) 66 [(.var 0), (.var 10), (.var 11)] [(.ld (some 4) (.ixArr 11 4 (.offp 38 (.nn (.var 0))) (.var 17))), (.ld none (.offp 1 (.var 4)))])
   (.seq
    (.store 4 (.var 7) (.var 9) [])
   (.store 4 (.var 8) (.var 6) [])))))))))))))))
  (.seq
   (.set 12 (.const (.bool false)))
  (.seq
   (.block 0
     (.seq
      (.set 13 (.pick (.bin .eql (.ld none (.offp 0 (.var 7))) (.const (.int .i64 1))) (.bin .eql (.ld none (.offp 0 (.var 8))) (.const (.int .i64 1))) (.const (.bool false))))
     (.cond (.var 13)
       (.seq
        (.call (some 14) 79 [(.ld none (.offp 1 (.var 5))), (.ld none (.offp 3 (.var 5))), (.ld none (.offp 1 (.var 7))), (.ld none (.offp 1 (.var 8)))] [])
       (.set 12 (.var 14)))
       (.seq
        (.set 15 (.pick (.pick (.pick (.pick (.pick (.bin .neq (.ld none (.offp 0 (.var 7))) (.const (.int .i64 0))) (.bin .neq (.ld none (.offp 0 (.var 7))) (.const (.int .i64 1))) (.const (.bool false))) (.un .not (.ld none (.offp 4 (.var 5)))) (.const (.bool false))) (.bin .eql (.ld none (.offp 4 (.var 4))) (.const (.int .i32 0))) (.const (.bool false))) (.ld none (.offp 3 (.var 5))) (.const (.bool false))) (.pick (.bin .eql (.ld none (.offp 1 (.var 5))) (.const (.int .i64 1))) (.const (.bool true)) (.bin .eql (.ld none (.offp 1 (.var 5))) (.const (.int .i64 5)))) (.const (.bool false))))
       (.cond (.var 15)
         (.set 12 (.bin .eql (.ld none (.offp 1 (.var 5))) (.const (.int .i64 5))))
         (.seq
          (.set 3 (.const (.bool false)))
         .ret))))))
  (.seq
   (.cond (.var 12)
     (.seq
      .draw
     (.seq
      (.call (some 16) 62 [(.ld none (.offp 82 (.nn (.var 0)))), (.ld (some 5) (.var 4))] [])
     (.store 1 (.offp 82 (.nn (.var 0))) (.var 16) [])))
     (.store 1 (.offp 82 (.nn (.var 0))) (.bin .add (.ld none (.offp 82 (.nn (.var 0)))) (.const (.int .i64 1))) []))
  (.seq
   (.set 3 (.const (.bool true)))
  .ret))))))
abbrev v_vm_machine_jump : List Nat := [0, 1, 2, 6, 4, 5, 21, 7, 8, 16, 18, 20, 9, 22, 39, 40, 83, 12]
abbrev k_vm_machine_jump : List (List Nat) := []
abbrev r_vm_machine_jump : List Ex := [(.var 3)]
theorem ok_vm_machine_jump : compile Try.prog Try.f61 v_vm_machine_jump k_vm_machine_jump = some (c_vm_machine_jump, r_vm_machine_jump) := by kernel_rfl

/- (*tipstaff/vm.machine).load -/
def c_vm_machine_load : Cmd :=
  (.seq
   (.seq
    (.new (some 4) 55 (.var 1) [])
   (.seq
    (.new (some 5) 122 (.var 2) [])
   (.set 3 (.const (.bool false)))))
  (.seq
   (.seq
    .draw
   (.seq
    (.set 9 (.ld none (.offp 37 (.nn (.var 0)))))
   (.seq
    (.chk [(.var 0)])
   (.seq
    (.set 14 (.ld none (.offp 2 (.var 4))))
   (.seq
    (.set 10 (.ld (some 4) (.ixArr 11 4 (.offp 38 (.nn (.var 0))) (.var 14))))
   (.seq
    (.set 11 (.conv .i64 (.ld none (.offp 3 (.var 4)))))
   (.seq
    (.set 12 (.ld none (.offp 2 (.var 5))))
   (.alt
    (.seq
     (.call (some 6) 17 [(.var 9), (.var 10), (.var 11), (.var 12)] [(.ld none (.offp 2 (.var 5))), (.ld none (.offp 3 (.var 4))), (.ld (some 4) (.ixArr 11 4 (.offp 38 (.nn (.var 0))) (.var 14))), (.ld none (.offp 2 (.var 4))), (.ld none (.offp 37 (.nn (.var 0))))])
    (.seq
     (.chk [(.proj 1 (.var 6)), (.proj 0 (.var 6))])
    (.seq
     (.new (some 7) 43 (.const (.agg #[(.int .i64 0), (.int .u64 0), (.int .i64 0), (.pointer none)])) [(.ld none (.offp 2 (.var 5))), (.ld none (.offp 3 (.var 4))), (.ld (some 4) (.ixArr 11 4 (.offp 38 (.nn (.var 0))) (.var 14))), (.ld none (.offp 2 (.var 4))), (.ld none (.offp 37 (.nn (.var 0))))])
    (.seq
     (.store 4 (.var 7) (.proj 0 (.var 6)) [])
    (.set 8 (.proj 1 (.var 6)))))))
   (.seq
    (.new (some 7) 43 (.const (.agg #[(.int .i64 0), (.int .u64 0), (.int .i64 0), (.pointer none)])) [(.ld none (.offp 2 (.var 5))), (.ld none (.offp 3 (.var 4))), (.ld (some 4) (.ixArr 11 4 (.offp 38 (.nn (.var 0))) (.var 14))), (.ld none (.offp 2 (.var 4))), (.ld none (.offp 37 (.nn (.var 0))))])
   (.seq
    (.call (some 6) 17 [(.var 9), (.var 10), (.var 11), (.var 12)] [])
   (.seq
    (.chk [(.proj 1 (.var 6))])
   (.seq
    (.store 4 (.var 7) (.proj 0 (.var 6)) [])
   (.set 8 (.proj 1 (.var 6)))))))))))))))
  (.seq
   (.seq
    (.chk [(.pick (.bin .eql (.var 8) (.const (.int .i64 0))) (.ld (some 4) (.var 7)) (.const (.bool false))), (.pick (.bin .eql (.var 8) (.const (.int .i64 0))) (.ld none (.offp 1 (.var 4))) (.const (.bool false))), (.pick (.bin .eql (.var 8) (.const (.int .i64 0))) (.var 0) (.const (.bool false)))])
   (.seq
    (.cond (.pick (.bin .eql (.var 8) (.const (.int .i64 0))) (.const (.bool true)) (.const (.bool false)))
      (.call (some 13) 76 [(.var 0), (.ld none (.offp 1 (.var 4))), (.ld (some 4) (.var 7))] [])
      (.clr [13]))
   (.set 3 (.pick (.bin .eql (.var 8) (.const (.int .i64 0))) (.var 13) (.const (.bool false))))))
  .ret)))
abbrev v_vm_machine_load : List Nat := [0, 1, 2, 6, 4, 5, 26, 7, 8, 13, 20, 23, 25, 36, 16]
abbrev k_vm_machine_load : List (List Nat) := []
abbrev r_vm_machine_load : List Ex := [(.var 3)]
theorem ok_vm_machine_load : compile Try.prog Try.f64 v_vm_machine_load k_vm_machine_load = some (c_vm_machine_load, r_vm_machine_load) := by kernel_rfl

/- (*tipstaff/vm.machine).save -/
def c_vm_machine_save : Cmd :=
  (.seq
   (.seq
    (.new (some 5) 55 (.var 1) [])
   (.seq
    (.new (some 6) 43 (.var 3) [])
   (.set 4 (.const (.bool false)))))
  (.seq
   (.seq
    (.seq
     .draw
    (.call (some 7) 18 [(.ld none (.offp 37 (.nn (.var 0)))), (.ld (some 4) (.ixArr 11 4 (.offp 38 (.nn (.var 0))) (.ld none (.offp 1 (.var 5))))), (.conv .i64 (.ld none (.offp 3 (.var 5)))), (.var 2), (.ld (some 4) (.var 6))] []))
   (.cond (.bin .neq (.var 7) (.const (.int .i64 0)))
     (.seq
      (.set 4 (.const (.bool false)))
     .ret)
     .skip))
  (.seq
   (.store 1 (.offp 82 (.nn (.var 0))) (.bin .add (.ld none (.offp 82 (.nn (.var 0)))) (.const (.int .i64 1))) [])
  (.seq
   (.set 4 (.const (.bool true)))
  .ret))))
abbrev v_vm_machine_save : List Nat := [0, 1, 2, 3, 8, 5, 7, 25]
abbrev k_vm_machine_save : List (List Nat) := []
abbrev r_vm_machine_save : List Ex := [(.var 4)]
theorem ok_vm_machine_save : compile Try.prog Try.f65 v_vm_machine_save k_vm_machine_save = some (c_vm_machine_save, r_vm_machine_save) := by kernel_rfl

/- (*tipstaff/vm.machine).atomic -/
def c_vm_machine_atomic : Cmd :=
  (.seq
   (.seq
    (.new (some 4) 55 (.var 1) [])
   (.seq
    (.new (some 5) 122 (.var 2) [])
   (.set 3 (.const (.bool false)))))
  (.seq
   (.seq
    .draw
   (.seq
    (.set 9 (.ld none (.offp 37 (.nn (.var 0)))))
   (.seq
    (.chk [(.var 0)])
   (.seq
    (.set 25 (.ld none (.offp 1 (.var 4))))
   (.seq
    (.set 10 (.ld (some 4) (.ixArr 11 4 (.offp 38 (.nn (.var 0))) (.var 25))))
   (.seq
    (.set 11 (.conv .i64 (.ld none (.offp 3 (.var 4)))))
   (.seq
    (.set 12 (.ld none (.offp 2 (.var 5))))
   (.alt
    (.seq
     (.call (some 6) 17 [(.var 9), (.var 10), (.var 11), (.var 12)] [(.ld none (.offp 2 (.var 5))), (.ld none (.offp 3 (.var 4))), (.ld (some 4) (.ixArr 11 4 (.offp 38 (.nn (.var 0))) (.var 25))), (.ld none (.offp 1 (.var 4))), (.ld none (.offp 37 (.nn (.var 0))))])
    (.seq
     (.chk [(.proj 1 (.var 6)), (.proj 0 (.var 6))])
    (.seq
     (.new (some 7) 43 (.const (.agg #[(.int .i64 0), (.int .u64 0), (.int .i64 0), (.pointer none)])) [(.ld none (.offp 2 (.var 5))), (.ld none (.offp 3 (.var 4))), (.ld (some 4) (.ixArr 11 4 (.offp 38 (.nn (.var 0))) (.var 25))), (.ld none (.offp 1 (.var 4))), (.ld none (.offp 37 (.nn (.var 0))))])
    (.seq
     (.store 4 (.var 7) (.proj 0 (.var 6)) [])
    (.set 8 (.proj 1 (.var 6)))))))
   (.seq
    (.new (some 7) 43 (.const (.agg #[(.int .i64 0), (.int .u64 0), (.int .i64 0), (.pointer none)])) [(.ld none (.offp 2 (.var 5))), (.ld none (.offp 3 (.var 4))), (.ld (some 4) (.ixArr 11 4 (.offp 38 (.nn (.var 0))) (.var 25))), (.ld none (.offp 1 (.var 4))), (.ld none (.offp 37 (.nn (.var 0))))])
   (.seq
    (.call (some 6) 17 [(.var 9), (.var 10), (.var 11), (.var 12)] [])
   (.seq
    (.chk [(.proj 1 (.var 6))])
   (.seq
    (.store 4 (.var 7) (.proj 0 (.var 6)) [])
   (.set 8 (.proj 1 (.var 6)))))))))))))))
  (.seq
   (.seq
    .draw
   (.seq
    (.chk [(.var 0)])
   (.seq
    (.set 26 (.ld none (.offp 2 (.var 4))))
   (.seq
    (.set 14 (.ld (some 4) (.ixArr 11 4 (.offp 38 (.nn (.var 0))) (.var 26))))
   (.seq
    (.new (some 13) 43 (.const (.agg #[(.int .i64 0), (.int .u64 0), (.int .i64 0), (.pointer none)])) [(.ld (some 4) (.ixArr 11 4 (.offp 38 (.nn (.var 0))) (.var 26))), (.ld none (.offp 2 (.var 4)))])
   (.store 4 (.var 13) (.var 14) []))))))
  (.seq
   (.cond (.pick (.pick (.bin .neq (.var 8) (.const (.int .i64 0))) (.const (.bool true)) (.bin .neq (.ld none (.offp 0 (.var 7))) (.const (.int .i64 1)))) (.const (.bool true)) (.bin .neq (.ld none (.offp 0 (.var 13))) (.const (.int .i64 1))))
     (.seq
      (.set 3 (.const (.bool false)))
     .ret)
     .skip)
  (.seq
   (.set 15 (.ld none (.offp 1 (.var 7))))
  (.seq
   (.seq
    (.set 16 (.ld none (.offp 4 (.var 4))))
   (.block 0
     (.seq
      (.set 17 (.bin .eql (.var 16) (.const (.int .i32 0))))
     (.cond (.var 17)
       (.set 15 (.bin .add (.var 15) (.ld none (.offp 1 (.var 13)))))
       (.seq
        (.set 18 (.bin .eql (.var 16) (.const (.int .i32 64))))
       (.cond (.var 18)
         (.set 15 (.bin .or (.var 15) (.ld none (.offp 1 (.var 13)))))
         (.seq
          (.set 19 (.bin .eql (.var 16) (.const (.int .i32 80))))
         (.cond (.var 19)
           (.set 15 (.bin .and (.var 15) (.ld none (.offp 1 (.var 13)))))
           (.seq
            (.set 20 (.bin .eql (.var 16) (.const (.int .i32 160))))
           (.cond (.var 20)
             (.set 15 (.bin .xor (.var 15) (.ld none (.offp 1 (.var 13)))))
             (.seq
              (.set 3 (.const (.bool false)))
             .ret)))))))))))
  (.seq
   (.seq
    .draw
   (.seq
    (.chk [(.var 0)])
   (.seq
    (.set 22 (.ld (some 5) (.var 4)))
   (.seq
    (.set 23 (.ld none (.offp 2 (.var 5))))
   (.seq
    (.call (some 21) 75 [(.var 15)] [(.ld none (.offp 2 (.var 5))), (.ld (some 5) (.var 4))])
   (.seq
    (.call (some 24) 65 [(.var 0), (.var 22), (.var 23), (.var 21)] [])
   (.set 3 (.var 24))))))))
  .ret)))))))
abbrev v_vm_machine_atomic : List Nat := [0, 1, 2, 6, 4, 5, 28, 7, 8, 15, 22, 25, 27, 9, 37, 10, 53, 54, 60, 66, 72, 83, 79, 81, 84, 18, 33]
abbrev k_vm_machine_atomic : List (List Nat) := []
abbrev r_vm_machine_atomic : List Ex := [(.var 3)]
theorem ok_vm_machine_atomic : compile Try.prog Try.f67 v_vm_machine_atomic k_vm_machine_atomic = some (c_vm_machine_atomic, r_vm_machine_atomic) := by kernel_rfl

/- (*tipstaff/vm.machine).wide -/
def c_vm_machine_wide : Cmd :=
  (.seq
   (.seq
    (.new (some 3) 55 (.var 1) [])
   (.set 2 (.const (.bool false))))
  (.seq
   (.seq
    (.seq
     .draw
    (.seq
     (.set 14 (.ld none (.offp 82 (.nn (.var 0)))))
    (.seq
     (.chk [(.bin .add (.var 14) (.const (.int .i64 1)))])
    (.seq
     (.set 15 (.ld none (.offp 0 (.nn (.var 0)))))
    (.seq
     (.set 5 (.bin .geq (.bin .add (.var 14) (.const (.int .i64 1))) (.len false (.var 15))))
    (.seq
     (.chk [(.pick (.var 5) (.const (.bool false)) (.offp 0 (.nn (.var 0))))])
    (.seq
     (.cond (.pick (.var 5) (.const (.bool false)) (.const (.bool true)))
       (.set 16 (.ld none (.offp 0 (.nn (.var 0)))))
       (.clr [16]))
    (.seq
     (.chk [(.pick (.var 5) (.const (.bool false)) (.offp 82 (.nn (.var 0))))])
    (.seq
     (.cond (.pick (.var 5) (.const (.bool false)) (.const (.bool true)))
       (.set 17 (.ld none (.offp 82 (.nn (.var 0)))))
       (.clr [17]))
    (.seq
     (.chk [(.pick (.var 5) (.const (.bool false)) (.ld none (.offp 0 (.ixSl 5 (.var 16) (.bin .add (.var 17) (.const (.int .i64 1)))))))])
    (.cond (.pick (.var 5) (.const (.bool false)) (.const (.bool true)))
      (.call (some 4) 59 [(.ld none (.offp 0 (.ixSl 5 (.var 16) (.bin .add (.var 17) (.const (.int .i64 1))))))] [])
      (.clr [4]))))))))))))
   (.cond (.pick (.var 5) (.const (.bool true)) (.bin .neq (.part none 0 (.var 4)) (.const (.int .i64 10))))
     (.seq
      (.set 2 (.const (.bool false)))
     .ret)
     .skip))
  (.seq
   (.seq
    .draw
   (.seq
    (.chk [(.conv .u64 (.conv .u32 (.ld none (.offp 4 (.var 3)))))])
   (.seq
    (.set 18 (.ld none (.offp 0 (.nn (.var 0)))))
   (.seq
    (.set 19 (.ld none (.offp 82 (.nn (.var 0)))))
   (.seq
    (.set 8 (.bin .or (.conv .u64 (.conv .u32 (.ld none (.offp 4 (.var 3))))) (.bin .shl (.conv .u64 (.conv .u32 (.ld none (.offp 4 (.ixSl 5 (.var 18) (.bin .add (.var 19) (.const (.int .i64 1)))))))) (.const (.int .u64 32)))))
   (.alt
    (.seq
     (.call (some 6) 75 [(.var 8)] [(.ld none (.offp 4 (.ixSl 5 (.var 18) (.bin .add (.var 19) (.const (.int .i64 1)))))), (.ld none (.offp 82 (.nn (.var 0)))), (.ld none (.offp 0 (.nn (.var 0)))), (.ld none (.offp 4 (.var 3)))])
    (.seq
     (.new (some 7) 43 (.const (.agg #[(.int .i64 0), (.int .u64 0), (.int .i64 0), (.pointer none)])) [(.ld none (.offp 4 (.ixSl 5 (.var 18) (.bin .add (.var 19) (.const (.int .i64 1)))))), (.ld none (.offp 82 (.nn (.var 0)))), (.ld none (.offp 0 (.nn (.var 0)))), (.ld none (.offp 4 (.var 3)))])
    (.store 4 (.var 7) (.var 6) [])))
   (.seq
    (.new (some 7) 43 (.const (.agg #[(.int .i64 0), (.int .u64 0), (.int .i64 0), (.pointer none)])) [(.ld none (.offp 4 (.ixSl 5 (.var 18) (.bin .add (.var 19) (.const (.int .i64 1)))))), (.ld none (.offp 82 (.nn (.var 0)))), (.ld none (.offp 0 (.nn (.var 0)))), (.ld none (.offp 4 (.var 3)))])
   (.seq
    (.call (some 6) 75 [(.var 8)] [])
   (.store 4 (.var 7) (.var 6) [])))))))))
  (.seq
   (.seq
    (.set 9 (.ld none (.offp 2 (.var 3))))
   (.block 0
     (.seq
      (.set 10 (.bin .eql (.var 9) (.const (.int .u8 0))))
     (.cond (.var 10)
       .skip
       (.seq
        (.set 11 (.bin .eql (.var 9) (.const (.int .u8 1))))
       (.cond (.var 11)
         (.seq
          (.seq
           (.seq
            .draw
           (.call (some 12) 15 [(.ld none (.offp 37 (.nn (.var 0)))), (.conv .i64 (.ld none (.offp 4 (.var 3))))] []))
          (.cond (.isnil 0 false (.var 12))
            (.seq
             (.set 2 (.const (.bool false)))
            .ret)
            .skip))
         (.seq
          (.chk [(.upd 2 1 (.upd 0 1 (.const (.agg #[(.int .i64 0), (.int .u64 0), (.int .i64 0), (.pointer none)])) (.const (.int .i64 4))) (.conv .i64 (.ld none (.offp 4 (.var 3)))))])
         (.store 4 (.var 7) (.upd 2 1 (.upd 0 1 (.const (.agg #[(.int .i64 0), (.int .u64 0), (.int .i64 0), (.pointer none)])) (.const (.int .i64 4))) (.conv .i64 (.ld none (.offp 4 (.var 3))))) [])))
         (.seq
          (.set 2 (.const (.bool false)))
         .ret)))))))
  (.seq
   (.seq
    (.call (some 13) 76 [(.var 0), (.ld none (.offp 1 (.var 3))), (.ld (some 4) (.var 7))] [])
   (.cond (.un .not (.var 13))
     (.seq
      (.set 2 (.const (.bool false)))
     .ret)
     .skip))
  (.seq
   (.store 1 (.offp 82 (.nn (.var 0))) (.bin .add (.ld none (.offp 82 (.nn (.var 0)))) (.const (.int .i64 1))) [])
  (.seq
   (.set 2 (.const (.bool true)))
  .ret)))))))
abbrev v_vm_machine_wide : List Nat := [0, 1, 4, 3, 30, 17, 54, 5, 53, 56, 57, 59, 68, 78, 9, 14, 21, 25, 41, 45]
abbrev k_vm_machine_wide : List (List Nat) := []
abbrev r_vm_machine_wide : List Ex := [(.var 2)]
theorem ok_vm_machine_wide : compile Try.prog Try.f68 v_vm_machine_wide k_vm_machine_wide = some (c_vm_machine_wide, r_vm_machine_wide) := by kernel_rfl

/- (*tipstaff/vm.machine).argMap -/
def c_vm_machine_argMap : Cmd :=
  (.seq
   (.set 1 (.const (.pointer none)))
  (.seq
   (.cond (.bin .neq (.ld none (.offp 0 (.ixArr 11 4 (.offp 38 (.nn (.var 0))) (.const (.int .i64 1))))) (.const (.int .i64 4)))
     (.seq
      (.set 1 (.const (.pointer none)))
     .ret)
     .skip)
  (.seq
   (.seq
    .draw
   (.seq
    (.call (some 2) 15 [(.ld none (.offp 37 (.nn (.var 0)))), (.ld none (.offp 2 (.ixArr 11 4 (.offp 38 (.nn (.var 0))) (.const (.int .i64 1)))))] [])
   (.set 1 (.var 2))))
  .ret)))
abbrev v_vm_machine_argMap : List Nat := [0, 2, 20]
abbrev k_vm_machine_argMap : List (List Nat) := []
abbrev r_vm_machine_argMap : List Ex := [(.var 1)]
theorem ok_vm_machine_argMap : compile Try.prog Try.f87 v_vm_machine_argMap k_vm_machine_argMap = some (c_vm_machine_argMap, r_vm_machine_argMap) := by kernel_rfl

/- (*tipstaff/vm.machine).lucky -/
def c_vm_machine_lucky : Cmd :=
  (.seq
   (.new (some 1) 43 (.const (.agg #[(.int .i64 0), (.int .u64 0), (.int .i64 0), (.pointer none)])) [])
  (.seq
   (.seq
    .draw
   (.cond (.bin .geq (.ld none (.offp 84 (.nn (.var 0)))) (.len false (.ld none (.offp 34 (.offp 1 (.nn (.var 0)))))))
     (.seq
      (.seq
       (.call (some 2) 75 [(.const (.int .u64 0))] [])
      (.store 4 (.var 1) (.var 2) []))
     .ret)
     .skip))
  (.seq
   (.store 1 (.offp 84 (.nn (.var 0))) (.bin .add (.ld none (.offp 84 (.nn (.var 0)))) (.const (.int .i64 1))) [])
  (.seq
   (.seq
    .draw
   (.seq
    (.call (some 3) 75 [(.ld none (.ixSl 1 (.ld none (.offp 34 (.offp 1 (.nn (.var 0))))) (.bin .sub (.ld none (.offp 84 (.nn (.var 0)))) (.const (.int .i64 1)))))] [])
   (.store 4 (.var 1) (.var 3) [])))
  .ret))))
abbrev v_vm_machine_lucky : List Nat := [0, 2, 14, 34]
abbrev k_vm_machine_lucky : List (List Nat) := []
abbrev r_vm_machine_lucky : List Ex := [(.ld (some 4) (.var 1))]
theorem ok_vm_machine_lucky : compile Try.prog Try.f86 v_vm_machine_lucky k_vm_machine_lucky = some (c_vm_machine_lucky, r_vm_machine_lucky) := by kernel_rfl

/- (*tipstaff/vm.machine).help -/
def c_vm_machine_help : Cmd :=
  (.seq
   (.seq
    (.new (some 2) 43 (.const (.agg #[(.int .i64 0), (.int .u64 0), (.int .i64 0), (.pointer none)])) [])
   (.set 3 (.const (.bool false))))
  (.seq
   (.seq
    (.set 4 (.var 1))
   (.block 0
     (.seq
      (.set 5 (.bin .eql (.var 4) (.const (.int .i32 5))))
     (.cond (.var 5)
       (.seq
        (.seq
         (.call (some 6) 75 [(.ld none (.offp 33 (.offp 1 (.nn (.var 0)))))] [])
        (.seq
         (.store 4 (.var 2) (.var 6) [])
        (.set 3 (.const (.bool true)))))
       .ret)
       (.seq
        (.set 7 (.bin .eql (.var 4) (.const (.int .i32 7))))
       (.cond (.var 7)
         (.seq
          (.seq
           (.call (some 8) 86 [(.var 0)] [])
          (.seq
           (.store 4 (.var 2) (.var 8) [])
          (.set 3 (.const (.bool true)))))
         .ret)
         .skip))))))
  (.seq
   (.seq
    (.call (some 9) 87 [(.var 0)] [])
   (.set 10 (.var 9)))
  (.seq
   (.cond (.isnil 0 false (.var 10))
     (.seq
      (.seq
       (.store 4 (.var 2) (.const (.agg #[(.int .i64 0), (.int .u64 0), (.int .i64 0), (.pointer none)])) [])
      (.set 3 (.const (.bool false))))
     .ret)
     .skip)
  (.seq
   (.seq
    (.set 11 (.var 1))
   (.block 1
     (.seq
      (.set 12 (.bin .eql (.var 11) (.const (.int .i32 1))))
     (.cond (.var 12)
       (.seq
        (.seq
         (.call (some 13) 88 [(.var 0), (.var 10)] [])
        (.seq
         (.chk [(.proj 1 (.var 13))])
        (.seq
         (.store 4 (.var 2) (.proj 0 (.var 13)) [])
        (.set 3 (.proj 1 (.var 13))))))
       .ret)
       (.seq
        (.seq
         (.set 14 (.bin .eql (.var 11) (.const (.int .i32 2))))
        (.cond (.var 14)
          .skip
          (.set 14 (.bin .eql (.var 11) (.const (.int .i32 3))))))
       (.cond (.var 14)
         (.seq
          (.seq
           (.call (some 15) 89 [(.var 0), (.var 1), (.var 10)] [])
          (.seq
           (.chk [(.proj 1 (.var 15))])
          (.seq
           (.store 4 (.var 2) (.proj 0 (.var 15)) [])
          (.set 3 (.proj 1 (.var 15))))))
         .ret)
         (.seq
          (.set 16 (.bin .eql (.var 11) (.const (.int .i32 87))))
         (.cond (.var 16)
           (.seq
            (.seq
             (.call (some 17) 90 [(.var 0), (.var 10)] [])
            (.seq
             (.chk [(.proj 1 (.var 17))])
            (.seq
             (.store 4 (.var 2) (.proj 0 (.var 17)) [])
            (.set 3 (.proj 1 (.var 17))))))
           .ret)
           (.seq
            (.seq
             (.set 18 (.bin .eql (.var 11) (.const (.int .i32 88))))
            (.cond (.var 18)
              .skip
              (.set 18 (.bin .eql (.var 11) (.const (.int .i32 89))))))
           (.cond (.var 18)
             (.seq
              (.seq
               (.call (some 19) 91 [(.var 0), (.var 1), (.var 10)] [])
              (.seq
               (.chk [(.proj 1 (.var 19))])
              (.seq
               (.store 4 (.var 2) (.proj 0 (.var 19)) [])
              (.set 3 (.proj 1 (.var 19))))))
             .ret)
             .skip))))))))))
  (.seq
   (.seq
    (.store 4 (.var 2) (.const (.agg #[(.int .i64 0), (.int .u64 0), (.int .i64 0), (.pointer none)])) [])
   (.set 3 (.const (.bool false))))
  .ret))))))
abbrev v_vm_machine_help : List Nat := [0, 1, 4, 5, 7, 8, 15, 16, 19, 21, 6, 25, 26, 30, 33, 39, 42, 46, 49, 55]
abbrev k_vm_machine_help : List (List Nat) := []
abbrev r_vm_machine_help : List Ex := [(.ld (some 4) (.var 2)), (.var 3)]
theorem ok_vm_machine_help : compile Try.prog Try.f80 v_vm_machine_help k_vm_machine_help = some (c_vm_machine_help, r_vm_machine_help) := by kernel_rfl

/- (*tipstaff/vm.machine).call -/
def c_vm_machine_call : Cmd :=
  (.seq
   (.seq
    (.new (some 3) 55 (.var 1) [])
   (.set 2 (.const (.bool false))))
  (.seq
   (.seq
    (.call (some 4) 80 [(.var 0), (.ld none (.offp 4 (.var 3)))] [])
   (.seq
    (.chk [(.proj 1 (.var 4)), (.proj 0 (.var 4))])
   (.seq
    (.new (some 5) 43 (.const (.agg #[(.int .i64 0), (.int .u64 0), (.int .i64 0), (.pointer none)])) [])
   (.seq
    (.store 4 (.var 5) (.proj 0 (.var 4)) [])
   (.set 6 (.proj 1 (.var 4)))))))
  (.seq
   (.cond (.un .not (.var 6))
     (.seq
      (.set 2 (.const (.bool false)))
     .ret)
     .skip)
  (.seq
   (.seq
    (.set 7 (.const (.int .i64 1)))
   (.block 0
     (.loop [0, 5, 7]
       (.seq
        (.cond (.bin .leq (.var 7) (.const (.int .i64 5)))
          .skip
          (.exit 0))
       (.seq
        (.block 1
          (.store 4 (.ixArr 11 4 (.offp 38 (.nn (.var 0))) (.var 7)) (.const (.agg #[(.int .i64 0), (.int .u64 0), (.int .i64 0), (.pointer none)])) []))
       (.set 7 (.bin .add (.var 7) (.const (.int .i64 1)))))))))
  (.seq
   (.seq
    .draw
   (.store 4 (.ixArr 11 4 (.offp 38 (.nn (.var 0))) (.const (.int .i64 0))) (.ld (some 4) (.var 5)) []))
  (.seq
   (.store 1 (.offp 82 (.nn (.var 0))) (.bin .add (.ld none (.offp 82 (.nn (.var 0)))) (.const (.int .i64 1))) [])
  (.seq
   (.set 2 (.const (.bool true)))
  .ret)))))))
abbrev v_vm_machine_call : List Nat := [0, 1, 4, 3, 12, 5, 6, 7]
abbrev k_vm_machine_call : List (List Nat) := [[0, 5, 7]]
abbrev r_vm_machine_call : List Ex := [(.var 2)]
theorem ok_vm_machine_call : compile Try.prog Try.f63 v_vm_machine_call k_vm_machine_call = some (c_vm_machine_call, r_vm_machine_call) := by kernel_rfl

/- (*tipstaff/vm.machine).step -/
def c_vm_machine_step : Cmd :=
  (.seq
   (.set 1 (.const (.bool false)))
  (.seq
   (.seq
    (.seq
     .draw
    (.set 27 (.ld none (.offp 82 (.nn (.var 0))))))
   (.cond (.pick (.bin .lss (.var 27) (.const (.int .i64 0))) (.const (.bool true)) (.bin .geq (.ld none (.offp 82 (.nn (.var 0)))) (.len false (.ld none (.offp 0 (.nn (.var 0)))))))
     (.seq
      (.set 1 (.const (.bool false)))
     .ret)
     .skip))
  (.seq
   (.seq
    .draw
   (.seq
    (.set 28 (.ld none (.offp 0 (.nn (.var 0)))))
   (.seq
    (.set 29 (.ld none (.offp 82 (.nn (.var 0)))))
   (.seq
    (.set 3 (.ld (some 5) (.ixSl 5 (.var 28) (.var 29))))
   (.seq
    (.new (some 2) 55 (.const (.agg #[(.int .u8 0), (.int .u8 0), (.int .u8 0), (.int .i16 0), (.int .i32 0)])) [(.ld (some 5) (.ixSl 5 (.var 28) (.var 29))), (.ld none (.offp 82 (.nn (.var 0)))), (.ld none (.offp 0 (.nn (.var 0))))])
   (.store 5 (.var 2) (.var 3) []))))))
  (.seq
   (.cond (.pick (.bin .geq (.ld none (.offp 1 (.var 2))) (.const (.int .u8 11))) (.const (.bool true)) (.bin .geq (.ld none (.offp 2 (.var 2))) (.const (.int .u8 11))))
     (.seq
      (.set 1 (.const (.bool false)))
     .ret)
     .skip)
  (.seq
   (.seq
    (.call (some 4) 59 [(.ld none (.offp 0 (.var 2)))] [])
   (.seq
    (.new (some 5) 122 (.const (.agg #[(.int .i64 0), (.int .i64 0), (.int .i64 0), (.bool false), (.bool false)])) [])
   (.store 5 (.var 5) (.var 4) [])))
  (.seq
   (.seq
    (.set 6 (.ld none (.offp 0 (.var 5))))
   (.block 0
     (.seq
      (.set 7 (.bin .eql (.var 6) (.const (.int .i64 1))))
     (.cond (.var 7)
       (.seq
        (.seq
         (.call (some 8) 60 [(.var 0), (.ld (some 5) (.var 2)), (.ld (some 5) (.var 5))] [])
        (.set 1 (.var 8)))
       .ret)
       (.seq
        (.set 9 (.bin .eql (.var 6) (.const (.int .i64 2))))
       (.cond (.var 9)
         (.seq
          (.seq
           (.call (some 10) 61 [(.var 0), (.ld (some 5) (.var 2)), (.ld (some 5) (.var 5))] [])
          (.set 1 (.var 10)))
         .ret)
         (.seq
          (.set 11 (.bin .eql (.var 6) (.const (.int .i64 3))))
         (.cond (.var 11)
           (.seq
            (.seq
             .draw
            (.seq
             (.call (some 12) 62 [(.ld none (.offp 82 (.nn (.var 0)))), (.ld (some 5) (.var 2))] [])
            (.store 1 (.offp 82 (.nn (.var 0))) (.var 12) [])))
           (.seq
            (.set 1 (.const (.bool true)))
           .ret))
           (.seq
            (.set 13 (.bin .eql (.var 6) (.const (.int .i64 4))))
           (.cond (.var 13)
             (.seq
              (.seq
               (.call (some 14) 63 [(.var 0), (.ld (some 5) (.var 2))] [])
              (.set 1 (.var 14)))
             .ret)
             (.seq
              (.set 15 (.bin .eql (.var 6) (.const (.int .i64 5))))
             (.cond (.var 15)
               (.seq
                (.store 1 (.offp 83 (.nn (.var 0))) (.bin .eql (.ld none (.offp 0 (.ixArr 11 4 (.offp 38 (.nn (.var 0))) (.const (.int .i64 0))))) (.const (.int .i64 1))) [])
               (.seq
                (.set 1 (.ld none (.offp 83 (.nn (.var 0)))))
               .ret))
               (.seq
                (.set 16 (.bin .eql (.var 6) (.const (.int .i64 6))))
               (.cond (.var 16)
                 (.seq
                  (.seq
                   (.call (some 17) 64 [(.var 0), (.ld (some 5) (.var 2)), (.ld (some 5) (.var 5))] [])
                  (.set 1 (.var 17)))
                 .ret)
                 (.seq
                  (.set 18 (.bin .eql (.var 6) (.const (.int .i64 7))))
                 (.cond (.var 18)
                   (.seq
                    (.seq
                     .draw
                    (.seq
                     (.chk [(.var 0)])
                    (.seq
                     (.set 20 (.ld (some 5) (.var 2)))
                    (.seq
                     (.set 21 (.ld none (.offp 2 (.var 5))))
                    (.seq
                     (.call (some 19) 66 [(.var 0), (.ld (some 5) (.var 2)), (.ld none (.offp 4 (.var 5)))] [(.ld none (.offp 2 (.var 5))), (.ld (some 5) (.var 2))])
                    (.seq
                     (.call (some 22) 65 [(.var 0), (.var 20), (.var 21), (.var 19)] [])
                    (.set 1 (.var 22))))))))
                   .ret)
                   (.seq
                    (.set 23 (.bin .eql (.var 6) (.const (.int .i64 8))))
                   (.cond (.var 23)
                     (.seq
                      (.seq
                       (.call (some 24) 67 [(.var 0), (.ld (some 5) (.var 2)), (.ld (some 5) (.var 5))] [])
                      (.set 1 (.var 24)))
                     .ret)
                     (.seq
                      (.set 25 (.bin .eql (.var 6) (.const (.int .i64 9))))
                     (.cond (.var 25)
                       (.seq
                        (.seq
                         (.call (some 26) 68 [(.var 0), (.ld (some 5) (.var 2))] [])
                        (.set 1 (.var 26)))
                       .ret)
                       .skip))))))))))))))))))))
  (.seq
   (.set 1 (.const (.bool false)))
  .ret)))))))
abbrev v_vm_machine_step : List Nat := [0, 2, 3, 31, 42, 4, 44, 45, 50, 51, 56, 57, 65, 68, 72, 73, 89, 94, 95, 105, 98, 100, 106, 107, 112, 113, 117, 8, 25, 29]
abbrev k_vm_machine_step : List (List Nat) := []
abbrev r_vm_machine_step : List Ex := [(.var 1)]
theorem ok_vm_machine_step : compile Try.prog Try.f43 v_vm_machine_step k_vm_machine_step = some (c_vm_machine_step, r_vm_machine_step) := by kernel_rfl

/- tipstaff/insn.Of -/
def c_insn_Of : Cmd :=
  (.seq
   (.new (some 1) 122 (.const (.agg #[(.int .i64 0), (.int .i64 0), (.int .i64 0), (.bool false), (.bool false)])) [])
  (.seq
   (.seq
    (.set 2 (.bin .and (.var 0) (.const (.int .u8 7))))
   (.block 0
     (.seq
      (.seq
       (.set 3 (.bin .eql (.var 2) (.const (.int .u8 4))))
      (.cond (.var 3)
        .skip
        (.set 3 (.bin .eql (.var 2) (.const (.int .u8 7))))))
     (.cond (.var 3)
       (.seq
        (.seq
         (.call (some 4) 72 [(.var 0)] [])
        (.store 5 (.var 1) (.var 4) []))
       .ret)
       (.seq
        (.seq
         (.set 5 (.bin .eql (.var 2) (.const (.int .u8 5))))
        (.cond (.var 5)
          .skip
          (.set 5 (.bin .eql (.var 2) (.const (.int .u8 6))))))
       (.cond (.var 5)
         (.seq
          (.seq
           (.call (some 6) 73 [(.var 0)] [])
          (.store 5 (.var 1) (.var 6) []))
         .ret)
         (.seq
          (.seq
           (.set 7 (.bin .eql (.var 2) (.const (.int .u8 1))))
          (.cond (.var 7)
            .skip
            (.seq
             (.set 7 (.bin .eql (.var 2) (.const (.int .u8 2))))
            (.cond (.var 7)
              .skip
              (.set 7 (.bin .eql (.var 2) (.const (.int .u8 3))))))))
         (.cond (.var 7)
           (.seq
            (.seq
             (.call (some 8) 74 [(.var 0)] [])
            (.store 5 (.var 1) (.var 8) []))
           .ret)
           .skip))))))))
  (.seq
   (.seq
    (.set 9 (.var 0))
   (.block 1
     (.seq
      (.set 10 (.bin .eql (.var 9) (.const (.int .u8 24))))
     (.cond (.var 10)
       (.seq
        (.seq
         (.chk [(.upd 2 1 (.upd 0 1 (.const (.agg #[(.int .i64 0), (.int .i64 0), (.int .i64 0), (.bool false), (.bool false)])) (.const (.int .i64 9))) (.const (.int .i64 8)))])
        (.store 5 (.var 1) (.upd 2 1 (.upd 0 1 (.const (.agg #[(.int .i64 0), (.int .i64 0), (.int .i64 0), (.bool false), (.bool false)])) (.const (.int .i64 9))) (.const (.int .i64 8))) []))
       .ret)
       (.seq
        (.set 11 (.bin .eql (.var 9) (.const (.int .u8 0))))
       (.cond (.var 11)
         (.seq
          (.seq
           (.chk [(.upd 0 1 (.const (.agg #[(.int .i64 0), (.int .i64 0), (.int .i64 0), (.bool false), (.bool false)])) (.const (.int .i64 10)))])
          (.store 5 (.var 1) (.upd 0 1 (.const (.agg #[(.int .i64 0), (.int .i64 0), (.int .i64 0), (.bool false), (.bool false)])) (.const (.int .i64 10))) []))
         .ret)
         .skip))))))
  (.seq
   (.store 5 (.var 1) (.const (.agg #[(.int .i64 0), (.int .i64 0), (.int .i64 0), (.bool false), (.bool false)])) [])
  .ret))))
abbrev v_insn_Of : List Nat := [0, 2, 4, 5, 9, 10, 14, 15, 20, 21, 22, 25]
abbrev k_insn_Of : List (List Nat) := []
abbrev r_insn_Of : List Ex := [(.ld (some 5) (.var 1))]
theorem ok_insn_Of : compile Try.prog Try.f59 v_insn_Of k_insn_Of = some (c_insn_Of, r_insn_Of) := by kernel_rfl

/- tipstaff/insn.alu -/
def c_insn_alu : Cmd :=
  (.seq
   (.new (some 1) 122 (.const (.agg #[(.int .i64 0), (.int .i64 0), (.int .i64 0), (.bool false), (.bool false)])) [])
  (.seq
   (.seq
    (.set 3 (.upd 4 1 (.upd 3 1 (.upd 2 1 (.upd 1 1 (.upd 0 1 (.const (.agg #[(.int .i64 0), (.int .i64 0), (.int .i64 0), (.bool false), (.bool false)])) (.const (.int .i64 1))) (.conv .i64 (.bin .shr (.var 0) (.const (.int .u64 4))))) (.const (.int .i64 0))) (.bin .eql (.bin .and (.var 0) (.const (.int .u8 7))) (.const (.int .u8 7)))) (.bin .neq (.bin .and (.var 0) (.const (.int .u8 8))) (.const (.int .u8 0)))))
   (.seq
    (.new (some 2) 122 (.const (.agg #[(.int .i64 0), (.int .i64 0), (.int .i64 0), (.bool false), (.bool false)])) [])
   (.store 5 (.var 2) (.var 3) [])))
  (.seq
   (.cond (.pick (.bin .gtr (.ld none (.offp 1 (.var 2))) (.const (.int .i64 12))) (.const (.bool true)) (.pick (.bin .eql (.ld none (.offp 1 (.var 2))) (.const (.int .i64 8))) (.ld none (.offp 4 (.var 2))) (.const (.bool false))))
     (.seq
      (.store 5 (.var 1) (.const (.agg #[(.int .i64 0), (.int .i64 0), (.int .i64 0), (.bool false), (.bool false)])) [])
     .ret)
     .skip)
  (.seq
   (.store 5 (.var 1) (.ld (some 5) (.var 2)) [])
  .ret))))
abbrev v_insn_alu : List Nat := [0, 2, 3, 13]
abbrev k_insn_alu : List (List Nat) := []
abbrev r_insn_alu : List Ex := [(.ld (some 5) (.var 1))]
theorem ok_insn_alu : compile Try.prog Try.f72 v_insn_alu k_insn_alu = some (c_insn_alu, r_insn_alu) := by kernel_rfl

/- tipstaff/insn.jump -/
def c_insn_jump : Cmd :=
  (.seq
   (.new (some 1) 122 (.const (.agg #[(.int .i64 0), (.int .i64 0), (.int .i64 0), (.bool false), (.bool false)])) [])
  (.seq
   (.seq
    (.set 3 (.upd 4 1 (.upd 3 1 (.upd 2 1 (.upd 1 1 (.upd 0 1 (.const (.agg #[(.int .i64 0), (.int .i64 0), (.int .i64 0), (.bool false), (.bool false)])) (.const (.int .i64 2))) (.conv .i64 (.bin .shr (.var 0) (.const (.int .u64 4))))) (.const (.int .i64 0))) (.bin .eql (.bin .and (.var 0) (.const (.int .u8 7))) (.const (.int .u8 5)))) (.bin .neq (.bin .and (.var 0) (.const (.int .u8 8))) (.const (.int .u8 0)))))
   (.seq
    (.new (some 2) 122 (.const (.agg #[(.int .i64 0), (.int .i64 0), (.int .i64 0), (.bool false), (.bool false)])) [])
   (.store 5 (.var 2) (.var 3) [])))
  (.seq
   (.set 4 (.pick (.ld none (.offp 3 (.var 2))) (.un .not (.ld none (.offp 4 (.var 2)))) (.const (.bool false))))
  (.seq
   (.seq
    (.set 5 (.ld none (.offp 1 (.var 2))))
   (.block 0
     (.seq
      (.set 6 (.bin .eql (.var 5) (.const (.int .i64 0))))
     (.cond (.var 6)
       (.seq
        (.chk [(.upd 0 1 (.const (.agg #[(.int .i64 0), (.int .i64 0), (.int .i64 0), (.bool false), (.bool false)])) (.const (.int .i64 3)))])
       (.store 5 (.var 2) (.upd 0 1 (.const (.agg #[(.int .i64 0), (.int .i64 0), (.int .i64 0), (.bool false), (.bool false)])) (.const (.int .i64 3))) []))
       (.seq
        (.set 7 (.bin .eql (.var 5) (.const (.int .i64 8))))
       (.cond (.var 7)
         (.seq
          (.chk [(.upd 0 1 (.const (.agg #[(.int .i64 0), (.int .i64 0), (.int .i64 0), (.bool false), (.bool false)])) (.const (.int .i64 4)))])
         (.store 5 (.var 2) (.upd 0 1 (.const (.agg #[(.int .i64 0), (.int .i64 0), (.int .i64 0), (.bool false), (.bool false)])) (.const (.int .i64 4))) []))
         (.seq
          (.set 8 (.bin .eql (.var 5) (.const (.int .i64 9))))
         (.cond (.var 8)
           (.seq
            (.chk [(.upd 0 1 (.const (.agg #[(.int .i64 0), (.int .i64 0), (.int .i64 0), (.bool false), (.bool false)])) (.const (.int .i64 5)))])
           (.store 5 (.var 2) (.upd 0 1 (.const (.agg #[(.int .i64 0), (.int .i64 0), (.int .i64 0), (.bool false), (.bool false)])) (.const (.int .i64 5))) []))
           (.seq
            (.cond (.bin .gtr (.ld none (.offp 1 (.var 2))) (.const (.int .i64 13)))
              (.seq
               (.store 5 (.var 1) (.const (.agg #[(.int .i64 0), (.int .i64 0), (.int .i64 0), (.bool false), (.bool false)])) [])
              .ret)
              .skip)
           (.seq
            (.store 5 (.var 1) (.ld (some 5) (.var 2)) [])
           .ret))))))))))
  (.seq
   (.cond (.un .not (.var 4))
     (.seq
      (.store 5 (.var 1) (.const (.agg #[(.int .i64 0), (.int .i64 0), (.int .i64 0), (.bool false), (.bool false)])) [])
     .ret)
     .skip)
  (.seq
   (.store 5 (.var 1) (.ld (some 5) (.var 2)) [])
  .ret))))))
abbrev v_insn_jump : List Nat := [0, 2, 3, 14, 4, 23, 29, 32, 35]
abbrev k_insn_jump : List (List Nat) := []
abbrev r_insn_jump : List Ex := [(.ld (some 5) (.var 1))]
theorem ok_insn_jump : compile Try.prog Try.f73 v_insn_jump k_insn_jump = some (c_insn_jump, r_insn_jump) := by kernel_rfl

/- tipstaff/insn.memory -/
def c_insn_memory : Cmd :=
  (.seq
   (.new (some 1) 122 (.const (.agg #[(.int .i64 0), (.int .i64 0), (.int .i64 0), (.bool false), (.bool false)])) [])
  (.seq
   (.seq
    (.row (some 2) 3 4 (.upd 3 1 (.upd 2 1 (.upd 1 1 (.upd 0 1 (.const (.agg (Array.replicate 4 (.int .i64 0)))) (.const (.int .i64 4))) (.const (.int .i64 2))) (.const (.int .i64 1))) (.const (.int .i64 8))) [])
   (.seq
    (.set 4 (.upd 4 1 (.upd 2 1 (.upd 0 1 (.const (.agg #[(.int .i64 0), (.int .i64 0), (.int .i64 0), (.bool false), (.bool false)])) (.const (.int .i64 7))) (.ld none (.ixSl 1 (.var 2) (.bin .and (.bin .shr (.var 0) (.const (.int .u64 3))) (.const (.int .u8 3)))))) (.bin .eql (.bin .and (.var 0) (.const (.int .u8 7))) (.const (.int .u8 3)))))
   (.seq
    (.new (some 3) 122 (.const (.agg #[(.int .i64 0), (.int .i64 0), (.int .i64 0), (.bool false), (.bool false)])) [])
   (.store 5 (.var 3) (.var 4) []))))
  (.seq
   (.set 5 (.bin .shr (.var 0) (.const (.int .u64 5))))
  (.seq
   (.block 0
     (.seq
      (.block 3
        (.seq
         (.block 2
           (.seq
            (.block 1
              (.seq
               (.seq
                (.seq
                 (.set 6 (.pick (.bin .eql (.var 5) (.const (.int .u8 3))) (.bin .eql (.bin .and (.var 0) (.const (.int .u8 7))) (.const (.int .u8 1))) (.const (.bool false))))
                (.cond (.var 6)
                  (.exit 1)
                  .skip))
               (.seq
                (.seq
                 (.set 7 (.bin .eql (.var 5) (.const (.int .u8 3))))
                (.cond (.var 7)
                  (.exit 2)
                  .skip))
               (.seq
                (.set 8 (.pick (.pick (.bin .eql (.var 5) (.const (.int .u8 6))) (.ld none (.offp 4 (.var 3))) (.const (.bool false))) (.bin .geq (.ld none (.offp 2 (.var 3))) (.const (.int .i64 4))) (.const (.bool false))))
               (.cond (.var 8)
                 (.exit 3)
                 .skip))))
              (.exit 0)))
           (.store 1 (.offp 0 (.var 3)) (.const (.int .i64 6)) [])))
        (.seq
         (.seq
          (.store 5 (.var 1) (.ld (some 5) (.var 3)) [])
         .ret)
        (.exit 0))))
     (.seq
      (.seq
       (.store 1 (.offp 0 (.var 3)) (.const (.int .i64 8)) [])
      (.seq
       (.store 5 (.var 1) (.ld (some 5) (.var 3)) [])
      .ret))
     (.exit 0))))
  (.seq
   (.store 5 (.var 1) (.const (.agg #[(.int .i64 0), (.int .i64 0), (.int .i64 0), (.bool false), (.bool false)])) [])
  .ret)))))
abbrev v_insn_memory : List Nat := [0, 2, 5, 3, 14, 4, 17, 25, 28]
abbrev k_insn_memory : List (List Nat) := []
abbrev r_insn_memory : List Ex := [(.ld (some 5) (.var 1))]
theorem ok_insn_memory : compile Try.prog Try.f74 v_insn_memory k_insn_memory = some (c_insn_memory, r_insn_memory) := by kernel_rfl

/- tipstaff/scalar.Eval -/
def c_scalar_Eval : Cmd :=
  (.seq
   (.set 4 (.const (.int .u64 0)))
  (.seq
   (.cond (.un .not (.var 1))
     (.seq
      (.chk [(.conv .u64 (.conv .u32 (.var 3)))])
     (.seq
      (.set 2 (.conv .u64 (.conv .u32 (.var 2))))
     (.set 3 (.conv .u64 (.conv .u32 (.var 3))))))
     .skip)
  (.seq
   (.set 5 (.const (.int .u64 0)))
  (.seq
   (.seq
    (.set 6 (.var 0))
   (.block 0
     (.seq
      (.seq
       (.set 7 (.bin .eql (.var 6) (.const (.int .i64 6))))
      (.cond (.var 7)
        .skip
        (.seq
         (.set 7 (.bin .eql (.var 6) (.const (.int .i64 7))))
        (.cond (.var 7)
          .skip
          (.set 7 (.bin .eql (.var 6) (.const (.int .i64 12))))))))
     (.cond (.var 7)
       (.seq
        (.call (some 8) 81 [(.var 0), (.var 1), (.var 2), (.var 3)] [])
       (.set 5 (.var 8)))
       (.seq
        (.call (some 9) 82 [(.var 0), (.var 2), (.var 3)] [])
       (.set 5 (.var 9)))))))
  (.seq
   (.cond (.un .not (.var 1))
     (.set 5 (.conv .u64 (.conv .u32 (.var 5))))
     .skip)
  (.seq
   (.set 4 (.var 5))
  .ret))))))
abbrev v_scalar_Eval : List Nat := [0, 1, 2, 3, 8, 9, 18, 23, 31, 22]
abbrev k_scalar_Eval : List (List Nat) := []
abbrev r_scalar_Eval : List Ex := [(.var 4)]
theorem ok_scalar_Eval : compile Try.prog Try.f77 v_scalar_Eval k_scalar_Eval = some (c_scalar_Eval, r_scalar_Eval) := by kernel_rfl

/- tipstaff/scalar.plain -/
def c_scalar_plain : Cmd :=
  (.seq
   (.set 3 (.const (.int .u64 0)))
  (.seq
   (.seq
    (.set 4 (.var 0))
   (.block 0
     (.seq
      (.set 5 (.bin .eql (.var 4) (.const (.int .i64 0))))
     (.cond (.var 5)
       (.seq
        (.set 3 (.bin .add (.var 1) (.var 2)))
       .ret)
       (.seq
        (.set 6 (.bin .eql (.var 4) (.const (.int .i64 1))))
       (.cond (.var 6)
         (.seq
          (.set 3 (.bin .sub (.var 1) (.var 2)))
         .ret)
         (.seq
          (.set 7 (.bin .eql (.var 4) (.const (.int .i64 2))))
         (.cond (.var 7)
           (.seq
            (.set 3 (.bin .mul (.var 1) (.var 2)))
           .ret)
           (.seq
            (.set 8 (.bin .eql (.var 4) (.const (.int .i64 4))))
           (.cond (.var 8)
             (.seq
              (.set 3 (.bin .or (.var 1) (.var 2)))
             .ret)
             (.seq
              (.set 9 (.bin .eql (.var 4) (.const (.int .i64 5))))
             (.cond (.var 9)
               (.seq
                (.set 3 (.bin .and (.var 1) (.var 2)))
               .ret)
               (.seq
                (.set 10 (.bin .eql (.var 4) (.const (.int .i64 8))))
               (.cond (.var 10)
                 (.seq
                  (.set 3 (.un .neg (.var 1)))
                 .ret)
                 (.seq
                  (.set 11 (.bin .eql (.var 4) (.const (.int .i64 10))))
                 (.cond (.var 11)
                   (.seq
                    (.set 3 (.bin .xor (.var 1) (.var 2)))
                   .ret)
                   (.seq
                    (.set 12 (.bin .eql (.var 4) (.const (.int .i64 11))))
                   (.cond (.var 12)
                     (.seq
                      (.set 3 (.var 2))
                     .ret)
                     (.seq
                      (.set 13 (.bin .eql (.var 4) (.const (.int .i64 3))))
                     (.cond (.var 13)
                       (.cond (.bin .neq (.var 2) (.const (.int .u64 0)))
                         (.seq
                          (.set 3 (.bin .quo (.var 1) (.var 2)))
                         .ret)
                         .skip)
                       (.seq
                        (.set 14 (.bin .eql (.var 4) (.const (.int .i64 9))))
                       (.cond (.var 14)
                         (.seq
                          (.cond (.bin .neq (.var 2) (.const (.int .u64 0)))
                            (.seq
                             (.set 3 (.bin .rem (.var 1) (.var 2)))
                            .ret)
                            .skip)
                         (.seq
                          (.set 3 (.var 1))
                         .ret))
                         .skip))))))))))))))))))))))
  (.seq
   (.set 3 (.const (.int .u64 0)))
  .ret)))
abbrev v_scalar_plain : List Nat := [0, 1, 2, 6, 7, 8, 13, 18, 23, 28, 33, 37, 42, 45, 52]
abbrev k_scalar_plain : List (List Nat) := []
abbrev r_scalar_plain : List Ex := [(.var 3)]
theorem ok_scalar_plain : compile Try.prog Try.f82 v_scalar_plain k_scalar_plain = some (c_scalar_plain, r_scalar_plain) := by kernel_rfl

/- tipstaff/scalar.shift -/
def c_scalar_shift : Cmd :=
  (.seq
   (.set 4 (.const (.int .u64 0)))
  (.seq
   (.set 5 (.bin .rem (.var 3) (.const (.int .u64 64))))
  (.seq
   (.cond (.un .not (.var 1))
     (.set 5 (.bin .rem (.var 3) (.const (.int .u64 32))))
     .skip)
  (.seq
   (.block 0
     (.seq
      (.set 6 (.bin .eql (.var 0) (.const (.int .i64 6))))
     (.cond (.var 6)
       (.seq
        (.set 4 (.bin .shl (.var 2) (.var 5)))
       .ret)
       (.seq
        (.set 7 (.bin .eql (.var 0) (.const (.int .i64 7))))
       (.cond (.var 7)
         (.seq
          (.set 4 (.bin .shr (.var 2) (.var 5)))
         .ret)
         (.seq
          (.set 8 (.var 1))
         (.cond (.var 8)
           (.seq
            (.set 4 (.conv .u64 (.bin .shr (.conv .i64 (.var 2)) (.var 5))))
           .ret)
           .skip)))))))
  (.seq
   (.set 4 (.conv .u64 (.bin .shr (.conv .i32 (.var 2)) (.var 5))))
  .ret)))))
abbrev v_scalar_shift : List Nat := [0, 1, 2, 3, 8, 9, 16, 22, 28]
abbrev k_scalar_shift : List (List Nat) := []
abbrev r_scalar_shift : List Ex := [(.var 4)]
theorem ok_scalar_shift : compile Try.prog Try.f81 v_scalar_shift k_scalar_shift = some (c_scalar_shift, r_scalar_shift) := by kernel_rfl

/- tipstaff/branch.Holds -/
def c_branch_Holds : Cmd :=
  (.seq
   (.set 4 (.const (.bool false)))
  (.seq
   (.seq
    (.chk [(.conv .i64 (.var 3))])
   (.seq
    (.set 5 (.conv .i64 (.var 2)))
   (.set 6 (.conv .i64 (.var 3)))))
  (.seq
   (.cond (.un .not (.var 1))
     (.seq
      (.seq
       (.chk [(.conv .i64 (.conv .i32 (.var 3)))])
      (.seq
       (.set 5 (.conv .i64 (.conv .i32 (.var 2))))
      (.set 6 (.conv .i64 (.conv .i32 (.var 3))))))
     (.seq
      (.chk [(.conv .u64 (.conv .u32 (.var 3)))])
     (.seq
      (.set 2 (.conv .u64 (.conv .u32 (.var 2))))
     (.set 3 (.conv .u64 (.conv .u32 (.var 3)))))))
     .skip)
  (.seq
   (.seq
    (.set 7 (.var 0))
   (.block 0
     (.seq
      (.set 8 (.bin .eql (.var 7) (.const (.int .i64 6))))
     (.cond (.var 8)
       (.seq
        (.set 4 (.bin .gtr (.var 5) (.var 6)))
       .ret)
       (.seq
        (.set 9 (.bin .eql (.var 7) (.const (.int .i64 7))))
       (.cond (.var 9)
         (.seq
          (.set 4 (.bin .geq (.var 5) (.var 6)))
         .ret)
         (.seq
          (.set 10 (.bin .eql (.var 7) (.const (.int .i64 12))))
         (.cond (.var 10)
           (.seq
            (.set 4 (.bin .lss (.var 5) (.var 6)))
           .ret)
           (.seq
            (.set 11 (.bin .eql (.var 7) (.const (.int .i64 13))))
           (.cond (.var 11)
             (.seq
              (.set 4 (.bin .leq (.var 5) (.var 6)))
             .ret)
             .skip))))))))))
  (.seq
   (.seq
    (.call (some 12) 85 [(.var 0), (.var 2), (.var 3)] [])
   (.set 4 (.var 12)))
  .ret)))))
abbrev v_branch_Holds : List Nat := [0, 1, 2, 3, 8, 9, 10, 29, 30, 35, 40, 45, 53]
abbrev k_branch_Holds : List (List Nat) := []
abbrev r_branch_Holds : List Ex := [(.var 4)]
theorem ok_branch_Holds : compile Try.prog Try.f79 v_branch_Holds k_branch_Holds = some (c_branch_Holds, r_branch_Holds) := by kernel_rfl

/- tipstaff/branch.unsigned -/
def c_branch_unsigned : Cmd :=
  (.seq
   (.set 3 (.const (.bool false)))
  (.seq
   (.seq
    (.set 4 (.var 0))
   (.block 0
     (.seq
      (.set 5 (.bin .eql (.var 4) (.const (.int .i64 1))))
     (.cond (.var 5)
       (.seq
        (.set 3 (.bin .eql (.var 1) (.var 2)))
       .ret)
       (.seq
        (.set 6 (.bin .eql (.var 4) (.const (.int .i64 2))))
       (.cond (.var 6)
         (.seq
          (.set 3 (.bin .gtr (.var 1) (.var 2)))
         .ret)
         (.seq
          (.set 7 (.bin .eql (.var 4) (.const (.int .i64 3))))
         (.cond (.var 7)
           (.seq
            (.set 3 (.bin .geq (.var 1) (.var 2)))
           .ret)
           (.seq
            (.set 8 (.bin .eql (.var 4) (.const (.int .i64 4))))
           (.cond (.var 8)
             (.seq
              (.set 3 (.bin .neq (.bin .and (.var 1) (.var 2)) (.const (.int .u64 0))))
             .ret)
             (.seq
              (.set 9 (.bin .eql (.var 4) (.const (.int .i64 5))))
             (.cond (.var 9)
               (.seq
                (.set 3 (.bin .neq (.var 1) (.var 2)))
               .ret)
               (.seq
                (.set 10 (.bin .eql (.var 4) (.const (.int .i64 10))))
               (.cond (.var 10)
                 (.seq
                  (.set 3 (.bin .lss (.var 1) (.var 2)))
                 .ret)
                 (.seq
                  (.set 11 (.bin .eql (.var 4) (.const (.int .i64 11))))
                 (.cond (.var 11)
                   (.seq
                    (.set 3 (.bin .leq (.var 1) (.var 2)))
                   .ret)
                   .skip))))))))))))))))
  (.seq
   (.set 3 (.const (.bool false)))
  .ret)))
abbrev v_branch_unsigned : List Nat := [0, 1, 2, 6, 7, 8, 13, 18, 23, 29, 34, 39]
abbrev k_branch_unsigned : List (List Nat) := []
abbrev r_branch_unsigned : List Ex := [(.var 3)]
theorem ok_branch_unsigned : compile Try.prog Try.f85 v_branch_unsigned k_branch_unsigned = some (c_branch_unsigned, r_branch_unsigned) := by kernel_rfl

/- tipstaff/shape.Target -/
def c_shape_Target : Cmd :=
  (.seq
   (.seq
    (.new (some 3) 55 (.var 1) [])
   (.set 2 (.const (.int .i64 0))))
  (.seq
   (.set 2 (.bin .add (.bin .add (.var 0) (.conv .i64 (.ld none (.offp 3 (.var 3))))) (.const (.int .i64 1))))
  .ret))
abbrev v_shape_Target : List Nat := [0, 1, 4, 3]
abbrev k_shape_Target : List (List Nat) := []
abbrev r_shape_Target : List Ex := [(.var 2)]
theorem ok_shape_Target : compile Try.prog Try.f62 v_shape_Target k_shape_Target = some (c_shape_Target, r_shape_Target) := by kernel_rfl
end Go.Proofs.Ytepbpapbkonhnaa
