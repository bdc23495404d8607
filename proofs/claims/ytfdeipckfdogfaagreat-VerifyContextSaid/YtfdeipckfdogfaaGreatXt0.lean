/- The interpreter's functions, part 0: made by program (geny.py). -/
import Derived.Test.YtfdeipckfdogfaaGreatXz
import Derived.Test.YtfdeipckfdogfaaGreatProg
set_option maxRecDepth 100000
set_option linter.unusedVariables false
namespace Go.Proofs.YtfdeipckfdogfaaGreat
open Go.Eng
def cm3 : Cmd :=
  (.seq
 (.seq
 (.new (some 4) 22 (.var 0) [])
 (.set 3 (.const (.bool false))))
 (.seq
 (.seq
 .draw
 (.seq
 (.chk [(.conv .i32 (.bin .sub (.conv .i64 (.bin .rem (.conv .u64 (.ld none (.ixArr 3 1 (.var 4) (.const (.int .i64 2))))) (.const (.int .u64 129)))) (.const (.int .i64 64)))), (.conv .i64 (.bin .rem (.conv .u64 (.ld none (.ixArr 3 1 (.var 4) (.const (.int .i64 1))))) (.const (.int .u64 8))))])
 (.seq
 (.set 5 (.bin .add (.const (.int .i64 1)) (.conv .i64 (.bin .rem (.conv .u64 (.ld none (.ixArr 3 1 (.var 4) (.const (.int .i64 0))))) (.const (.int .u64 64))))))
 (.seq
 (.set 6 (.conv .i64 (.bin .rem (.conv .u64 (.ld none (.ixArr 3 1 (.var 4) (.const (.int .i64 1))))) (.const (.int .u64 8)))))
 (.set 7 (.conv .i32 (.bin .sub (.conv .i64 (.bin .rem (.conv .u64 (.ld none (.ixArr 3 1 (.var 4) (.const (.int .i64 2))))) (.const (.int .u64 129)))) (.const (.int .i64 64)))))))))
 (.seq
 (.seq
 (.row (some 8) 3 4 (.upd 3 1 (.upd 2 1 (.upd 1 1 (.upd 0 1 (.const (.agg (Array.replicate 4 (.int .i64 0)))) (.const (.int .i64 4))) (.const (.int .i64 2))) (.const (.int .i64 1))) (.const (.int .i64 8))) [])
 (.set 9 (.ld none (.ixSl 1 (.var 8) (.bin .rem (.var 6) (.const (.int .i64 4)))))))
 (.seq
 (.set 10 (.conv .u8 (.bin .add (.const (.int .i64 97)) (.bin .mul (.const (.int .i64 8)) (.bin .rem (.var 6) (.const (.int .i64 4)))))))
 (.seq
 (.seq
 (.chk [(.upd 3 1 (.upd 2 1 (.upd 1 1 (.upd 0 1 (.const zA0) (.var 10)) (.const (.int .u8 6))) (.const (.int .u8 0))) (.var 1))])
 (.seq
 (.new (some 11) 27 (.const zA0) [])
 (.store 5 (.var 11) (.upd 3 1 (.upd 2 1 (.upd 1 1 (.upd 0 1 (.const zA0) (.var 10)) (.const (.int .u8 6))) (.const (.int .u8 0))) (.var 1)) [])))
 (.seq
 (.cond (.bin .geq (.var 6) (.const (.int .i64 4)))
 (.seq
 (.chk [(.upd 4 1 (.upd 3 1 (.upd 1 1 (.upd 0 1 (.const zA0) (.bin .add (.var 10) (.const (.int .u8 1)))) (.const (.int .u8 0))) (.var 1)) (.const (.int .i32 9)))])
 (.store 5 (.var 11) (.upd 4 1 (.upd 3 1 (.upd 1 1 (.upd 0 1 (.const zA0) (.bin .add (.var 10) (.const (.int .u8 1)))) (.const (.int .u8 0))) (.var 1)) (.const (.int .i32 9))) []))
 .skip)
 (.seq
 (.seq
 .draw
 (.seq
 (.chk [(.upd 4 1 (.upd 1 1 (.upd 0 1 (.const zA0) (.const (.int .u8 7))) (.const (.int .u8 0))) (.var 7))])
 (.seq
 (.set 13 (.ld (some 5) (.var 11)))
 (.alt
 (.seq
 (.call (some 12) 13 [(.const (.int .i32 0)), (.const (.int .i32 1))] [(.ld (some 5) (.var 11))])
 (.seq
 (.row (some 14) 27 2 (.upd 5 5 (.upd 0 5 (.const zA3) (.upd 4 1 (.upd 1 1 (.upd 0 1 (.const zA0) (.const (.int .u8 7))) (.const (.int .u8 0))) (.var 7))) (.var 13)) [])
 (.seq
 (.call (some 15) 14 [(.var 14)] [])
 (.seq
 (.call (some 16) 15 [(.const (.int .i32 1))] [])
 (.seq
 (.bi (some 17) .append [28, 28] 28 [(.var 15), (.var 16)] [])
 (.seq
 (.bi (some 18) .append [28, 28] 28 [(.var 12), (.var 17)] [])
 (.set 19 (.var 18))))))))
 (.seq
 (.row (some 14) 27 2 (.upd 5 5 (.upd 0 5 (.const zA3) (.upd 4 1 (.upd 1 1 (.upd 0 1 (.const zA0) (.const (.int .u8 7))) (.const (.int .u8 0))) (.var 7))) (.var 13)) [(.ld (some 5) (.var 11))])
 (.seq
 (.call (some 12) 13 [(.const (.int .i32 0)), (.const (.int .i32 1))] [(.ld (some 5) (.var 11))])
 (.seq
 (.call (some 15) 14 [(.var 14)] [])
 (.seq
 (.call (some 16) 15 [(.const (.int .i32 1))] [])
 (.seq
 (.bi (some 17) .append [28, 28] 28 [(.var 15), (.var 16)] [])
 (.seq
 (.bi (some 18) .append [28, 28] 28 [(.var 12), (.var 17)] [])
 (.set 19 (.var 18))))))))))))
 (.seq
 (.set 20 (.bin .add (.conv .i64 (.var 7)) (.conv .i64 (.var 1))))
 (.seq
 (.set 21 (.pick (.pick (.bin .geq (.var 20) (.const (.int .i64 0))) (.bin .leq (.bin .add (.var 20) (.var 9)) (.var 5)) (.const (.bool false))) (.pick (.bin .lss (.var 6) (.const (.int .i64 4))) (.const (.bool true)) (.un .not (.var 2))) (.const (.bool false))))
 (.seq
 (.seq
 (.chk [(.var 19)])
 (.seq
 (.call (some 22) 17 [(.var 5), (.var 2), (.const (.bool false))] [])
 (.seq
 (.call (some 23) 16 [(.var 19), (.var 22)] [])
 (.seq
 (.chk [(.proj 1 (.var 23)), (.proj 0 (.var 23))])
 (.seq
 (.new (some 24) 33 (.const (.agg #[(.int .i64 0), (.int .i64 0)])) [])
 (.seq
 (.store 2 (.var 24) (.proj 0 (.var 23)) [])
 (.set 25 (.proj 1 (.var 23)))))))))
 (.seq
 (.seq
 (.chk [(.var 19)])
 (.seq
 (.call (some 26) 17 [(.var 5), (.var 2), (.const (.bool true))] [])
 (.seq
 (.call (some 27) 16 [(.var 19), (.var 26)] [])
 (.seq
 (.chk [(.proj 1 (.var 27)), (.proj 0 (.var 27))])
 (.seq
 (.new (some 28) 33 (.const (.agg #[(.int .i64 0), (.int .i64 0)])) [])
 (.seq
 (.store 2 (.var 28) (.proj 0 (.var 27)) [])
 (.set 29 (.proj 1 (.var 27)))))))))
 (.seq
 (.seq
 (.call (some 30) 18 [] [])
 (.set 3 (.pick (.pick (.pick (.var 30) (.eqx false .bool (.bin .eql (.var 25) (.const (.int .i64 0))) (.var 21)) (.const (.bool false))) (.eqx false .bool (.bin .eql (.var 29) (.const (.int .i64 0))) (.var 21)) (.const (.bool false))) (.pick (.bin .eql (.var 25) (.const (.int .i64 0))) (.const (.bool true)) (.pick (.pick (.bin .eql (.var 25) (.const (.int .i64 13))) (.bin .eql (.var 29) (.const (.int .i64 13))) (.const (.bool false))) (.bin .eql (.ld none (.offp 0 (.var 24))) (.const (.int .i64 10))) (.const (.bool false)))) (.const (.bool false)))))
 .ret))))))))))))
def xf3 : XF := ⟨3, [0, 1, 2, 6, 3, 7, 8, 9, 38, 10, 11, 12, 57, 60, 61, 62, 63, 64, 65, 13, 14, 15, 92, 93, 16, 17, 100, 101, 18, 19, 104],
  (.seq
 (.seq
 (.new (some 4) 22 (.var 0))
 (.set 3 (.const (.bool false))))
 (.seq
 (.seq
 .skip
 (.seq
 (.chk [(.conv .i32 (.bin .sub (.conv .i64 (.bin .rem (.conv .u64 (.ld none (.ixArr 3 1 (.var 4) (.const (.int .i64 2))))) (.const (.int .u64 129)))) (.const (.int .i64 64)))), (.conv .i64 (.bin .rem (.conv .u64 (.ld none (.ixArr 3 1 (.var 4) (.const (.int .i64 1))))) (.const (.int .u64 8))))])
 (.seq
 (.set 5 (.bin .add (.const (.int .i64 1)) (.conv .i64 (.bin .rem (.conv .u64 (.ld none (.ixArr 3 1 (.var 4) (.const (.int .i64 0))))) (.const (.int .u64 64))))))
 (.seq
 (.set 6 (.conv .i64 (.bin .rem (.conv .u64 (.ld none (.ixArr 3 1 (.var 4) (.const (.int .i64 1))))) (.const (.int .u64 8)))))
 (.set 7 (.conv .i32 (.bin .sub (.conv .i64 (.bin .rem (.conv .u64 (.ld none (.ixArr 3 1 (.var 4) (.const (.int .i64 2))))) (.const (.int .u64 129)))) (.const (.int .i64 64)))))))))
 (.seq
 (.seq
 (.row (some 8) 3 4 (.upd 3 1 (.upd 2 1 (.upd 1 1 (.upd 0 1 (.const (.agg (Array.replicate 4 (.int .i64 0)))) (.const (.int .i64 4))) (.const (.int .i64 2))) (.const (.int .i64 1))) (.const (.int .i64 8))))
 (.set 9 (.ld none (.ixSl 1 (.var 8) (.bin .rem (.var 6) (.const (.int .i64 4)))))))
 (.seq
 (.set 10 (.conv .u8 (.bin .add (.const (.int .i64 97)) (.bin .mul (.const (.int .i64 8)) (.bin .rem (.var 6) (.const (.int .i64 4)))))))
 (.seq
 (.seq
 (.chk [(.upd 3 1 (.upd 2 1 (.upd 1 1 (.upd 0 1 (.const zA0) (.var 10)) (.const (.int .u8 6))) (.const (.int .u8 0))) (.var 1))])
 (.seq
 (.new (some 11) 27 (.const zA0))
 (.store 5 (.var 11) (.upd 3 1 (.upd 2 1 (.upd 1 1 (.upd 0 1 (.const zA0) (.var 10)) (.const (.int .u8 6))) (.const (.int .u8 0))) (.var 1)) [])))
 (.seq
 (.cond (.bin .geq (.var 6) (.const (.int .i64 4)))
 (.seq
 (.chk [(.upd 4 1 (.upd 3 1 (.upd 1 1 (.upd 0 1 (.const zA0) (.bin .add (.var 10) (.const (.int .u8 1)))) (.const (.int .u8 0))) (.var 1)) (.const (.int .i32 9)))])
 (.store 5 (.var 11) (.upd 4 1 (.upd 3 1 (.upd 1 1 (.upd 0 1 (.const zA0) (.bin .add (.var 10) (.const (.int .u8 1)))) (.const (.int .u8 0))) (.var 1)) (.const (.int .i32 9))) []))
 .skip)
 (.seq
 (.seq
 .skip
 (.seq
 (.chk [(.upd 4 1 (.upd 1 1 (.upd 0 1 (.const zA0) (.const (.int .u8 7))) (.const (.int .u8 0))) (.var 7))])
 (.seq
 (.set 13 (.ld (some 5) (.var 11)))
 (.seq
 (.resv 1)
 (.seq
 (.clr [14])
 (.seq
 (.chk [(.upd 5 5 (.upd 0 5 (.const zA3) (.upd 4 1 (.upd 1 1 (.upd 0 1 (.const zA0) (.const (.int .u8 7))) (.const (.int .u8 0))) (.var 7))) (.var 13))])
 (.seq
 (.call (some 12) 13 [(.const (.int .i32 0)), (.const (.int .i32 1))] [(.ld (some 5) (.var 11))])
 (.seq
 (.rowR 0 14 27 2 (.upd 5 5 (.upd 0 5 (.const zA3) (.upd 4 1 (.upd 1 1 (.upd 0 1 (.const zA0) (.const (.int .u8 7))) (.const (.int .u8 0))) (.var 7))) (.var 13)))
 (.seq
 (.call (some 15) 14 [(.var 14)] [])
 (.seq
 (.call (some 16) 15 [(.const (.int .i32 1))] [])
 (.seq
 (.app (some 17) 27 5 (.var 15) (.var 16) [])
 (.seq
 (.app (some 18) 27 5 (.var 12) (.var 17) [])
 (.seq
 (.set 19 (.var 18))
 .skip)))))))))))))
 (.seq
 (.set 20 (.bin .add (.conv .i64 (.var 7)) (.conv .i64 (.var 1))))
 (.seq
 (.set 21 (.pick (.pick (.bin .geq (.var 20) (.const (.int .i64 0))) (.bin .leq (.bin .add (.var 20) (.var 9)) (.var 5)) (.const (.bool false))) (.pick (.bin .lss (.var 6) (.const (.int .i64 4))) (.const (.bool true)) (.un .not (.var 2))) (.const (.bool false))))
 (.seq
 (.seq
 (.chk [(.var 19)])
 (.seq
 (.call (some 22) 17 [(.var 5), (.var 2), (.const (.bool false))] [])
 (.seq
 (.call (some 23) 16 [(.var 19), (.var 22)] [])
 (.seq
 (.chk [(.proj 1 (.var 23)), (.proj 0 (.var 23))])
 (.seq
 (.new (some 24) 33 (.const (.agg #[(.int .i64 0), (.int .i64 0)])))
 (.seq
 (.store 2 (.var 24) (.proj 0 (.var 23)) [])
 (.set 25 (.proj 1 (.var 23)))))))))
 (.seq
 (.seq
 (.chk [(.var 19)])
 (.seq
 (.call (some 26) 17 [(.var 5), (.var 2), (.const (.bool true))] [])
 (.seq
 (.call (some 27) 16 [(.var 19), (.var 26)] [])
 (.seq
 (.chk [(.proj 1 (.var 27)), (.proj 0 (.var 27))])
 (.seq
 (.new (some 28) 33 (.const (.agg #[(.int .i64 0), (.int .i64 0)])))
 (.seq
 (.store 2 (.var 28) (.proj 0 (.var 27)) [])
 (.set 29 (.proj 1 (.var 27)))))))))
 (.seq
 (.seq
 (.call (some 30) 18 [] [])
 (.set 3 (.pick (.pick (.pick (.var 30) (.eqx false .bool (.bin .eql (.var 25) (.const (.int .i64 0))) (.var 21)) (.const (.bool false))) (.eqx false .bool (.bin .eql (.var 29) (.const (.int .i64 0))) (.var 21)) (.const (.bool false))) (.pick (.bin .eql (.var 25) (.const (.int .i64 0))) (.const (.bool true)) (.pick (.pick (.bin .eql (.var 25) (.const (.int .i64 13))) (.bin .eql (.var 29) (.const (.int .i64 13))) (.const (.bool false))) (.bin .eql (.ld none (.offp 0 (.var 24))) (.const (.int .i64 10))) (.const (.bool false)))) (.const (.bool false)))))
 .ret)))))))))))),
  [(.var 3)]⟩
theorem cmp_3 : compile Tryz.prog Tryz.f3 [0, 1, 2, 6, 3, 7, 8, 9, 38, 10, 11, 12, 57, 60, 61, 62, 63, 64, 65, 13, 14, 15, 92, 93, 16, 17, 100, 101, 18, 19, 104] [] = some (cm3, [(.var 3)]) := by kernel_rfl
theorem tox_3 : toX Tryz.prog 0 125 cm3 = some xf3.c := by kernel_rfl
theorem okx_3 : FnOk Tryz.prog 0 125 3 xf3 := fnOk_parts Tryz.func3 (by kernel_rfl) (by kernel_rfl) cmp_3 tox_3 (by kernel_rfl)

/- tipstaff/tipstafflaw18.VerifyLoops -/
def xf5 : XF := ⟨1, [0, 2, 3, 21, 4, 25, 5, 6, 31, 7, 8, 9, 40, 54],
  (.seq
 (.set 1 (.const (.bool false)))
 (.seq
 (.set 2 (.conv .i32 (.bin .add (.const (.int .i64 1)) (.conv .i64 (.bin .rem (.conv .u64 (.var 0)) (.const (.int .u64 1500)))))))
 (.seq
 (.seq
 (.chk [(.upd 0 1 (.const zA0) (.const (.int .u8 149))), (.upd 3 1 (.upd 4 1 (.upd 0 1 (.const zA0) (.const (.int .u8 85))) (.var 2)) (.const (.int .i16 (-2)))), (.upd 4 1 (.upd 0 1 (.const zA0) (.const (.int .u8 7))) (.const (.int .i32 1))), (.upd 0 1 (.const zA0) (.const (.int .u8 183)))])
 (.seq
 (.row (some 3) 27 4 (.upd 15 5 (.upd 10 5 (.upd 5 5 (.upd 0 5 (.const (.agg #[(.int .u8 0), (.int .u8 0), (.int .u8 0), (.int .i16 0), (.int .i32 0), (.int .u8 0), (.int .u8 0), (.int .u8 0), (.int .i16 0), (.int .i32 0), (.int .u8 0), (.int .u8 0), (.int .u8 0), (.int .i16 0), (.int .i32 0), (.int .u8 0), (.int .u8 0), (.int .u8 0), (.int .i16 0), (.int .i32 0)])) (.upd 0 1 (.const zA0) (.const (.int .u8 183)))) (.upd 4 1 (.upd 0 1 (.const zA0) (.const (.int .u8 7))) (.const (.int .i32 1)))) (.upd 3 1 (.upd 4 1 (.upd 0 1 (.const zA0) (.const (.int .u8 85))) (.var 2)) (.const (.int .i16 (-2))))) (.upd 0 1 (.const zA0) (.const (.int .u8 149)))))
 (.set 4 (.var 3))))
 (.seq
 (.seq
 (.chk [(.upd 2 1 (.const (.agg #[(.slice none 0 0), (.slice none 0 0), (.bool false)])) (.const (.bool true)))])
 (.seq
 (.call (some 5) 16 [(.var 4), (.upd 2 1 (.const (.agg #[(.slice none 0 0), (.slice none 0 0), (.bool false)])) (.const (.bool true)))] [])
 (.seq
 (.chk [(.proj 1 (.var 5)), (.proj 0 (.var 5))])
 (.seq
 (.new (some 6) 33 (.const (.agg #[(.int .i64 0), (.int .i64 0)])))
 (.seq
 (.store 2 (.var 6) (.proj 0 (.var 5)) [])
 (.set 7 (.proj 1 (.var 5))))))))
 (.seq
 (.seq
 (.call (some 8) 16 [(.var 4), (.const (.agg #[(.slice none 0 0), (.slice none 0 0), (.bool false)]))] [])
 (.seq
 (.chk [(.proj 1 (.var 8)), (.proj 0 (.var 8))])
 (.seq
 (.new (some 9) 33 (.const (.agg #[(.int .i64 0), (.int .i64 0)])))
 (.seq
 (.store 2 (.var 9) (.proj 0 (.var 8)) [])
 (.set 10 (.proj 1 (.var 8)))))))
 (.seq
 (.set 11 (.bin .add (.bin .mul (.const (.int .i64 2)) (.conv .i64 (.var 2))) (.const (.int .i64 2))))
 (.seq
 (.cond (.bin .gtr (.var 11) (.const (.int .i64 2048)))
 (.seq
 (.seq
 (.call (some 12) 18 [] [])
 (.set 1 (.pick (.pick (.pick (.var 12) (.bin .eql (.var 7) (.const (.int .i64 7))) (.const (.bool false))) (.bin .eql (.ld none (.offp 1 (.var 6))) (.const (.int .i64 2048))) (.const (.bool false))) (.bin .eql (.var 10) (.const (.int .i64 22))) (.const (.bool false)))))
 .ret)
 .skip)
 (.seq
 (.seq
 (.call (some 13) 18 [] [])
 (.set 1 (.pick (.pick (.pick (.var 13) (.bin .eql (.var 7) (.const (.int .i64 0))) (.const (.bool false))) (.bin .leq (.ld none (.offp 1 (.var 6))) (.var 11)) (.const (.bool false))) (.bin .eql (.var 10) (.const (.int .i64 22))) (.const (.bool false)))))
 .ret)))))))),
  [(.var 1)]⟩
theorem okx_5 : FnOk Tryz.prog 0 125 5 xf5 := fnOk_of Tryz.func5 (np := 1) (V := [0, 2, 3, 21, 4, 25, 5, 6, 31, 7, 8, 9, 40, 54]) (ks := []) (by kernel_rfl)

def cm6 : Cmd :=
  (.seq
 (.set 3 (.const (.bool false)))
 (.seq
 (.seq
 (.call (some 4) 13 [(.const (.int .i32 0)), (.const (.int .i32 1))] [])
 (.set 5 (.var 4)))
 (.seq
 (.cond (.var 1)
 (.seq
 (.chk [(.upd 3 1 (.upd 2 1 (.upd 1 1 (.upd 0 1 (.const zA0) (.const (.int .u8 123))) (.const (.int .u8 10))) (.const (.int .u8 0))) (.const (.int .i16 (-16)))), (.var 5)])
 (.seq
 (.row (some 6) 27 1 (.upd 0 5 (.const zA0) (.upd 3 1 (.upd 2 1 (.upd 1 1 (.upd 0 1 (.const zA0) (.const (.int .u8 123))) (.const (.int .u8 10))) (.const (.int .u8 0))) (.const (.int .i16 (-16))))) [])
 (.seq
 (.bi (some 7) .append [28, 28] 28 [(.var 5), (.var 6)] [])
 (.set 5 (.var 7)))))
 (.seq
 (.chk [(.upd 2 1 (.upd 1 1 (.upd 0 1 (.const zA0) (.const (.int .u8 191))) (.const (.int .u8 6))) (.const (.int .u8 0))), (.var 5)])
 (.seq
 (.row (some 8) 27 1 (.upd 0 5 (.const zA0) (.upd 2 1 (.upd 1 1 (.upd 0 1 (.const zA0) (.const (.int .u8 191))) (.const (.int .u8 6))) (.const (.int .u8 0)))) [])
 (.seq
 (.bi (some 9) .append [28, 28] 28 [(.var 5), (.var 8)] [])
 (.set 5 (.var 9))))))
 (.seq
 (.seq
 (.set 10 (.const (.int .u8 85)))
 (.set 11 (.const (.int .i16 2))))
 (.seq
 (.cond (.var 2)
 (.set 10 (.const (.int .u8 21)))
 .skip)
 (.seq
 (.seq
 (.chk [(.upd 0 1 (.const zA0) (.const (.int .u8 149))), (.upd 0 1 (.const zA0) (.const (.int .u8 183))), (.upd 3 1 (.upd 1 1 (.upd 0 1 (.const zA0) (.var 10)) (.const (.int .u8 0))) (.var 11)), (.var 5)])
 (.seq
 (.row (some 12) 27 3 (.upd 10 5 (.upd 5 5 (.upd 0 5 (.const zA6) (.upd 3 1 (.upd 1 1 (.upd 0 1 (.const zA0) (.var 10)) (.const (.int .u8 0))) (.var 11))) (.upd 0 1 (.const zA0) (.const (.int .u8 183)))) (.upd 0 1 (.const zA0) (.const (.int .u8 149)))) [])
 (.seq
 (.bi (some 13) .append [28, 28] 28 [(.var 5), (.var 12)] [])
 (.set 5 (.var 13)))))
 (.seq
 (.cond (.var 1)
 (.seq
 (.chk [(.upd 3 1 (.upd 2 1 (.upd 1 1 (.upd 0 1 (.const zA0) (.const (.int .u8 121))) (.const (.int .u8 6))) (.const (.int .u8 10))) (.const (.int .i16 (-16)))), (.var 5)])
 (.seq
 (.row (some 14) 27 1 (.upd 0 5 (.const zA0) (.upd 3 1 (.upd 2 1 (.upd 1 1 (.upd 0 1 (.const zA0) (.const (.int .u8 121))) (.const (.int .u8 6))) (.const (.int .u8 10))) (.const (.int .i16 (-16))))) [])
 (.seq
 (.bi (some 15) .append [28, 28] 28 [(.var 5), (.var 14)] [])
 (.set 5 (.var 15)))))
 .skip)
 (.seq
 (.set 16 (.conv .i64 (.bin .rem (.conv .u64 (.var 0)) (.const (.int .u64 3)))))
 (.seq
 (.seq
 (.row (some 17) 5 3 (.upd 2 1 (.upd 1 1 (.upd 0 1 (.const (.agg #[(.int .u8 0), (.int .u8 0), (.int .u8 0)])) (.const (.int .u8 113))) (.const (.int .u8 114))) (.const (.int .u8 121))) [])
 (.set 18 (.ld none (.ixSl 1 (.var 17) (.var 16)))))
 (.seq
 (.seq
 (.chk [(.upd 2 1 (.upd 1 1 (.upd 0 1 (.const zA0) (.var 18)) (.const (.int .u8 7))) (.const (.int .u8 6)))])
 (.seq
 (.new (some 19) 27 (.const zA0) [])
 (.store 5 (.var 19) (.upd 2 1 (.upd 1 1 (.upd 0 1 (.const zA0) (.var 18)) (.const (.int .u8 7))) (.const (.int .u8 6))) [])))
 (.seq
 (.cond (.bin .eql (.var 16) (.const (.int .i64 1)))
 (.seq
 (.chk [(.upd 4 1 (.upd 1 1 (.upd 0 1 (.const zA0) (.var 18)) (.const (.int .u8 6))) (.const (.int .i32 3)))])
 (.store 5 (.var 19) (.upd 4 1 (.upd 1 1 (.upd 0 1 (.const zA0) (.var 18)) (.const (.int .u8 6))) (.const (.int .i32 3))) []))
 .skip)
 (.seq
 (.seq
 (.chk [(.var 5)])
 (.seq
 (.row (some 20) 27 1 (.upd 0 5 (.const zA0) (.ld (some 5) (.var 19))) [])
 (.seq
 (.bi (some 21) .append [28, 28] 28 [(.var 5), (.var 20)] [])
 (.seq
 (.call (some 22) 15 [(.const (.int .i32 0))] [])
 (.seq
 (.bi (some 23) .append [28, 28] 28 [(.var 21), (.var 22)] [])
 (.set 5 (.var 23)))))))
 (.seq
 (.seq
 (.chk [(.var 5)])
 (.seq
 (.call (some 24) 17 [(.const (.int .i64 8)), (.const (.bool false)), (.const (.bool false))] [])
 (.seq
 (.call (some 25) 16 [(.var 5), (.var 24)] [])
 (.seq
 (.chk [(.proj 1 (.var 25)), (.proj 0 (.var 25))])
 (.seq
 (.new (some 26) 33 (.const (.agg #[(.int .i64 0), (.int .i64 0)])) [])
 (.seq
 (.store 2 (.var 26) (.proj 0 (.var 25)) [])
 (.set 27 (.proj 1 (.var 25)))))))))
 (.seq
 (.seq
 (.call (some 28) 18 [] [])
 (.set 3 (.pick (.pick (.var 28) (.eqx false .bool (.bin .eql (.var 27) (.const (.int .i64 0))) (.un .not (.var 2))) (.const (.bool false))) (.pick (.bin .eql (.var 27) (.const (.int .i64 0))) (.const (.bool true)) (.bin .eql (.var 27) (.const (.int .i64 13)))) (.const (.bool false)))))
 .ret))))))))))))))
def xf6 : XF := ⟨3, [0, 1, 2, 6, 15, 7, 19, 20, 23, 24, 8, 9, 32, 33, 37, 38, 10, 43, 11, 12, 55, 56, 57, 58, 61, 62, 13, 14, 65],
  (.seq
 (.set 3 (.const (.bool false)))
 (.seq
 (.seq
 (.call (some 4) 13 [(.const (.int .i32 0)), (.const (.int .i32 1))] [])
 (.set 5 (.var 4)))
 (.seq
 (.cond (.var 1)
 (.seq
 (.chk [(.upd 3 1 (.upd 2 1 (.upd 1 1 (.upd 0 1 (.const zA0) (.const (.int .u8 123))) (.const (.int .u8 10))) (.const (.int .u8 0))) (.const (.int .i16 (-16)))), (.var 5)])
 (.seq
 (.row (some 6) 27 1 (.upd 0 5 (.const zA0) (.upd 3 1 (.upd 2 1 (.upd 1 1 (.upd 0 1 (.const zA0) (.const (.int .u8 123))) (.const (.int .u8 10))) (.const (.int .u8 0))) (.const (.int .i16 (-16))))))
 (.seq
 (.app (some 7) 27 5 (.var 5) (.var 6) [])
 (.set 5 (.var 7)))))
 (.seq
 (.chk [(.upd 2 1 (.upd 1 1 (.upd 0 1 (.const zA0) (.const (.int .u8 191))) (.const (.int .u8 6))) (.const (.int .u8 0))), (.var 5)])
 (.seq
 (.row (some 8) 27 1 (.upd 0 5 (.const zA0) (.upd 2 1 (.upd 1 1 (.upd 0 1 (.const zA0) (.const (.int .u8 191))) (.const (.int .u8 6))) (.const (.int .u8 0)))))
 (.seq
 (.app (some 9) 27 5 (.var 5) (.var 8) [])
 (.set 5 (.var 9))))))
 (.seq
 (.seq
 (.set 10 (.const (.int .u8 85)))
 (.set 11 (.const (.int .i16 2))))
 (.seq
 (.cond (.var 2)
 (.set 10 (.const (.int .u8 21)))
 .skip)
 (.seq
 (.seq
 (.chk [(.upd 0 1 (.const zA0) (.const (.int .u8 149))), (.upd 0 1 (.const zA0) (.const (.int .u8 183))), (.upd 3 1 (.upd 1 1 (.upd 0 1 (.const zA0) (.var 10)) (.const (.int .u8 0))) (.var 11)), (.var 5)])
 (.seq
 (.row (some 12) 27 3 (.upd 10 5 (.upd 5 5 (.upd 0 5 (.const zA6) (.upd 3 1 (.upd 1 1 (.upd 0 1 (.const zA0) (.var 10)) (.const (.int .u8 0))) (.var 11))) (.upd 0 1 (.const zA0) (.const (.int .u8 183)))) (.upd 0 1 (.const zA0) (.const (.int .u8 149)))))
 (.seq
 (.app (some 13) 27 5 (.var 5) (.var 12) [])
 (.set 5 (.var 13)))))
 (.seq
 (.cond (.var 1)
 (.seq
 (.chk [(.upd 3 1 (.upd 2 1 (.upd 1 1 (.upd 0 1 (.const zA0) (.const (.int .u8 121))) (.const (.int .u8 6))) (.const (.int .u8 10))) (.const (.int .i16 (-16)))), (.var 5)])
 (.seq
 (.row (some 14) 27 1 (.upd 0 5 (.const zA0) (.upd 3 1 (.upd 2 1 (.upd 1 1 (.upd 0 1 (.const zA0) (.const (.int .u8 121))) (.const (.int .u8 6))) (.const (.int .u8 10))) (.const (.int .i16 (-16))))))
 (.seq
 (.app (some 15) 27 5 (.var 5) (.var 14) [])
 (.set 5 (.var 15)))))
 .skip)
 (.seq
 (.set 16 (.conv .i64 (.bin .rem (.conv .u64 (.var 0)) (.const (.int .u64 3)))))
 (.seq
 (.seq
 (.row (some 17) 5 3 (.upd 2 1 (.upd 1 1 (.upd 0 1 (.const (.agg #[(.int .u8 0), (.int .u8 0), (.int .u8 0)])) (.const (.int .u8 113))) (.const (.int .u8 114))) (.const (.int .u8 121))))
 (.set 18 (.ld none (.ixSl 1 (.var 17) (.var 16)))))
 (.seq
 (.seq
 (.chk [(.upd 2 1 (.upd 1 1 (.upd 0 1 (.const zA0) (.var 18)) (.const (.int .u8 7))) (.const (.int .u8 6)))])
 (.seq
 (.new (some 19) 27 (.const zA0))
 (.store 5 (.var 19) (.upd 2 1 (.upd 1 1 (.upd 0 1 (.const zA0) (.var 18)) (.const (.int .u8 7))) (.const (.int .u8 6))) [])))
 (.seq
 (.cond (.bin .eql (.var 16) (.const (.int .i64 1)))
 (.seq
 (.chk [(.upd 4 1 (.upd 1 1 (.upd 0 1 (.const zA0) (.var 18)) (.const (.int .u8 6))) (.const (.int .i32 3)))])
 (.store 5 (.var 19) (.upd 4 1 (.upd 1 1 (.upd 0 1 (.const zA0) (.var 18)) (.const (.int .u8 6))) (.const (.int .i32 3))) []))
 .skip)
 (.seq
 (.seq
 (.chk [(.var 5)])
 (.seq
 (.row (some 20) 27 1 (.upd 0 5 (.const zA0) (.ld (some 5) (.var 19))))
 (.seq
 (.app (some 21) 27 5 (.var 5) (.var 20) [])
 (.seq
 (.call (some 22) 15 [(.const (.int .i32 0))] [])
 (.seq
 (.app (some 23) 27 5 (.var 21) (.var 22) [])
 (.set 5 (.var 23)))))))
 (.seq
 (.seq
 (.chk [(.var 5)])
 (.seq
 (.call (some 24) 17 [(.const (.int .i64 8)), (.const (.bool false)), (.const (.bool false))] [])
 (.seq
 (.call (some 25) 16 [(.var 5), (.var 24)] [])
 (.seq
 (.chk [(.proj 1 (.var 25)), (.proj 0 (.var 25))])
 (.seq
 (.new (some 26) 33 (.const (.agg #[(.int .i64 0), (.int .i64 0)])))
 (.seq
 (.store 2 (.var 26) (.proj 0 (.var 25)) [])
 (.set 27 (.proj 1 (.var 25)))))))))
 (.seq
 (.seq
 (.call (some 28) 18 [] [])
 (.set 3 (.pick (.pick (.var 28) (.eqx false .bool (.bin .eql (.var 27) (.const (.int .i64 0))) (.un .not (.var 2))) (.const (.bool false))) (.pick (.bin .eql (.var 27) (.const (.int .i64 0))) (.const (.bool true)) (.bin .eql (.var 27) (.const (.int .i64 13)))) (.const (.bool false)))))
 .ret)))))))))))))),
  [(.var 3)]⟩
theorem cmp_6 : compile Tryz.prog Tryz.f6 [0, 1, 2, 6, 15, 7, 19, 20, 23, 24, 8, 9, 32, 33, 37, 38, 10, 43, 11, 12, 55, 56, 57, 58, 61, 62, 13, 14, 65] [] = some (cm6, [(.var 3)]) := by kernel_rfl
theorem tox_6 : toX Tryz.prog 0 125 cm6 = some xf6.c := by kernel_rfl
theorem okx_6 : FnOk Tryz.prog 0 125 6 xf6 := fnOk_parts Tryz.func6 (by kernel_rfl) (by kernel_rfl) cmp_6 tox_6 (by kernel_rfl)

def cm7 : Cmd :=
  (.seq
 (.set 2 (.const (.bool false)))
 (.seq
 (.set 3 (.bin .rem (.var 0) (.const (.int .u8 11))))
 (.seq
 (.set 4 (.const (.slice none 0 0)))
 (.seq
 (.cond (.var 1)
 (.seq
 (.seq
 (.set 5 (.const (.int .u8 1)))
 (.block 0
 (.loop [0, 1, 3, 4, 5]
 (.seq
 (.cond (.bin .lss (.var 5) (.const (.int .u8 6)))
 .skip
 (.exit 0))
 (.seq
 (.block 1
 (.seq
 (.chk [(.upd 1 1 (.upd 0 1 (.const zA0) (.const (.int .u8 183))) (.var 5)), (.var 4)])
 (.seq
 (.row (some 6) 27 1 (.upd 0 5 (.const zA0) (.upd 1 1 (.upd 0 1 (.const zA0) (.const (.int .u8 183))) (.var 5))) [])
 (.seq
 (.bi (some 7) .append [28, 28] 28 [(.var 4), (.var 6)] [])
 (.set 4 (.var 7))))))
 (.set 5 (.bin .add (.var 5) (.const (.int .u8 1)))))))))
 (.seq
 (.chk [(.upd 4 1 (.upd 0 1 (.const zA0) (.const (.int .u8 133))) (.const (.int .i32 7))), (.var 4)])
 (.seq
 (.row (some 8) 27 1 (.upd 0 5 (.const zA0) (.upd 4 1 (.upd 0 1 (.const zA0) (.const (.int .u8 133))) (.const (.int .i32 7)))) [])
 (.seq
 (.bi (some 9) .append [28, 28] 28 [(.var 4), (.var 8)] [])
 (.set 4 (.var 9))))))
 .skip)
 (.seq
 (.seq
 (.chk [(.upd 3 1 (.upd 2 1 (.upd 1 1 (.upd 0 1 (.const zA0) (.const (.int .u8 123))) (.const (.int .u8 10))) (.var 3)) (.const (.int .i16 (-8)))), (.var 4)])
 (.seq
 (.row (some 10) 27 1 (.upd 0 5 (.const zA0) (.upd 3 1 (.upd 2 1 (.upd 1 1 (.upd 0 1 (.const zA0) (.const (.int .u8 123))) (.const (.int .u8 10))) (.var 3)) (.const (.int .i16 (-8))))) [])
 (.seq
 (.bi (some 11) .append [28, 28] 28 [(.var 4), (.var 10)] [])
 (.set 4 (.var 11)))))
 (.seq
 (.seq
 (.chk [(.var 4)])
 (.seq
 (.call (some 12) 15 [(.const (.int .i32 0))] [])
 (.seq
 (.bi (some 13) .append [28, 28] 28 [(.var 4), (.var 12)] [])
 (.set 4 (.var 13)))))
 (.seq
 (.seq
 (.call (some 14) 16 [(.var 4), (.const (.agg #[(.slice none 0 0), (.slice none 0 0), (.bool false)]))] [])
 (.seq
 (.chk [(.proj 1 (.var 14)), (.proj 0 (.var 14))])
 (.seq
 (.new (some 15) 33 (.const (.agg #[(.int .i64 0), (.int .i64 0)])) [])
 (.seq
 (.store 2 (.var 15) (.proj 0 (.var 14)) [])
 (.set 16 (.proj 1 (.var 14)))))))
 (.seq
 (.set 17 (.pick (.pick (.bin .eql (.var 3) (.const (.int .u8 10))) (.const (.bool true)) (.pick (.bin .eql (.var 3) (.const (.int .u8 1))) (.un .not (.var 1)) (.const (.bool false)))) (.const (.bool true)) (.pick (.bin .eql (.var 3) (.const (.int .u8 0))) (.var 1) (.const (.bool false)))))
 (.seq
 (.seq
 (.call (some 18) 18 [] [])
 (.set 2 (.pick (.pick (.var 18) (.eqx false .bool (.bin .eql (.var 16) (.const (.int .i64 0))) (.var 17)) (.const (.bool false))) (.pick (.bin .eql (.var 16) (.const (.int .i64 0))) (.const (.bool true)) (.bin .eql (.var 16) (.const (.int .i64 13)))) (.const (.bool false)))))
 .ret)))))))))
def xf7 : XF := ⟨2, [0, 1, 4, 5, 6, 7, 21, 22, 25, 26, 30, 31, 33, 34, 38, 8, 9, 10, 58],
  (.seq
 (.set 2 (.const (.bool false)))
 (.seq
 (.set 3 (.bin .rem (.var 0) (.const (.int .u8 11))))
 (.seq
 (.set 4 (.const (.slice none 0 0)))
 (.seq
 (.cond (.var 1)
 (.seq
 (.seq
 (.set 5 (.const (.int .u8 1)))
 (.block 0
 (.loop [0, 1, 3, 4, 5]
 (.seq
 (.cond (.bin .lss (.var 5) (.const (.int .u8 6)))
 .skip
 (.exit 0))
 (.seq
 (.block 1
 (.seq
 (.chk [(.upd 1 1 (.upd 0 1 (.const zA0) (.const (.int .u8 183))) (.var 5)), (.var 4)])
 (.seq
 (.row (some 6) 27 1 (.upd 0 5 (.const zA0) (.upd 1 1 (.upd 0 1 (.const zA0) (.const (.int .u8 183))) (.var 5))))
 (.seq
 (.app (some 7) 27 5 (.var 4) (.var 6) [])
 (.set 4 (.var 7))))))
 (.set 5 (.bin .add (.var 5) (.const (.int .u8 1)))))))))
 (.seq
 (.chk [(.upd 4 1 (.upd 0 1 (.const zA0) (.const (.int .u8 133))) (.const (.int .i32 7))), (.var 4)])
 (.seq
 (.row (some 8) 27 1 (.upd 0 5 (.const zA0) (.upd 4 1 (.upd 0 1 (.const zA0) (.const (.int .u8 133))) (.const (.int .i32 7)))))
 (.seq
 (.app (some 9) 27 5 (.var 4) (.var 8) [])
 (.set 4 (.var 9))))))
 .skip)
 (.seq
 (.seq
 (.chk [(.upd 3 1 (.upd 2 1 (.upd 1 1 (.upd 0 1 (.const zA0) (.const (.int .u8 123))) (.const (.int .u8 10))) (.var 3)) (.const (.int .i16 (-8)))), (.var 4)])
 (.seq
 (.row (some 10) 27 1 (.upd 0 5 (.const zA0) (.upd 3 1 (.upd 2 1 (.upd 1 1 (.upd 0 1 (.const zA0) (.const (.int .u8 123))) (.const (.int .u8 10))) (.var 3)) (.const (.int .i16 (-8))))))
 (.seq
 (.app (some 11) 27 5 (.var 4) (.var 10) [])
 (.set 4 (.var 11)))))
 (.seq
 (.seq
 (.chk [(.var 4)])
 (.seq
 (.call (some 12) 15 [(.const (.int .i32 0))] [])
 (.seq
 (.app (some 13) 27 5 (.var 4) (.var 12) [])
 (.set 4 (.var 13)))))
 (.seq
 (.seq
 (.call (some 14) 16 [(.var 4), (.const (.agg #[(.slice none 0 0), (.slice none 0 0), (.bool false)]))] [])
 (.seq
 (.chk [(.proj 1 (.var 14)), (.proj 0 (.var 14))])
 (.seq
 (.new (some 15) 33 (.const (.agg #[(.int .i64 0), (.int .i64 0)])))
 (.seq
 (.store 2 (.var 15) (.proj 0 (.var 14)) [])
 (.set 16 (.proj 1 (.var 14)))))))
 (.seq
 (.set 17 (.pick (.pick (.bin .eql (.var 3) (.const (.int .u8 10))) (.const (.bool true)) (.pick (.bin .eql (.var 3) (.const (.int .u8 1))) (.un .not (.var 1)) (.const (.bool false)))) (.const (.bool true)) (.pick (.bin .eql (.var 3) (.const (.int .u8 0))) (.var 1) (.const (.bool false)))))
 (.seq
 (.seq
 (.call (some 18) 18 [] [])
 (.set 2 (.pick (.pick (.var 18) (.eqx false .bool (.bin .eql (.var 16) (.const (.int .i64 0))) (.var 17)) (.const (.bool false))) (.pick (.bin .eql (.var 16) (.const (.int .i64 0))) (.const (.bool true)) (.bin .eql (.var 16) (.const (.int .i64 13)))) (.const (.bool false)))))
 .ret))))))))),
  [(.var 2)]⟩
theorem cmp_7 : compile Tryz.prog Tryz.f7 [0, 1, 4, 5, 6, 7, 21, 22, 25, 26, 30, 31, 33, 34, 38, 8, 9, 10, 58] [[0, 1, 3, 4, 5]] = some (cm7, [(.var 2)]) := by kernel_rfl
theorem tox_7 : toX Tryz.prog 0 125 cm7 = some xf7.c := by kernel_rfl
theorem okx_7 : FnOk Tryz.prog 0 125 7 xf7 := fnOk_parts Tryz.func7 (by kernel_rfl) (by kernel_rfl) cmp_7 tox_7 (by kernel_rfl)

def cm8 : Cmd :=
  (.seq
 (.set 3 (.const (.bool false)))
 (.seq
 (.seq
 (.row (some 4) 21 6 (.upd 5 1 (.upd 4 1 (.upd 3 1 (.upd 2 1 (.upd 1 1 (.upd 0 1 (.const (.agg (Array.replicate 6 (.int .i32 0)))) (.const (.int .i32 1))) (.const (.int .i32 2))) (.const (.int .i32 3))) (.const (.int .i32 87))) (.const (.int .i32 88))) (.const (.int .i32 89))) [])
 (.set 5 (.ld none (.ixSl 1 (.var 4) (.conv .i64 (.bin .rem (.conv .u64 (.var 0)) (.const (.int .u64 6))))))))
 (.seq
 (.set 6 (.conv .i64 (.bin .rem (.conv .u64 (.var 1)) (.const (.int .u64 6)))))
 (.seq
 (.seq
 (.chk [(.var 6)])
 (.seq
 (.row (some 7) 3 6 (.upd 5 1 (.upd 4 1 (.upd 3 1 (.upd 2 1 (.upd 1 1 (.upd 0 1 (.const (.agg (Array.replicate 6 (.int .i64 0)))) (.const (.int .i64 4))) (.const (.int .i64 4))) (.const (.int .i64 4))) (.const (.int .i64 0))) (.const (.int .i64 0))) (.const (.int .i64 8))) [])
 (.seq
 (.set 9 (.upd 3 1 (.upd 2 1 (.upd 1 1 (.upd 0 1 (.const (.agg (Array.replicate 4 (.int .i64 0)))) (.var 6)) (.ld none (.ixSl 1 (.var 7) (.var 6)))) (.const (.int .i64 8))) (.const (.int .i64 2))))
 (.seq
 (.new (some 8) 53 (.const (.agg (Array.replicate 4 (.int .i64 0)))) [])
 (.store 4 (.var 8) (.var 9) [])))))
 (.seq
 (.seq
 (.chk [(.upd 1 1 (.upd 0 1 (.const zA0) (.const (.int .u8 183))) (.const (.int .u8 4))), (.upd 2 1 (.upd 1 1 (.upd 0 1 (.const zA0) (.const (.int .u8 191))) (.const (.int .u8 3))) (.const (.int .u8 2))), (.upd 4 1 (.upd 1 1 (.upd 0 1 (.const zA0) (.const (.int .u8 7))) (.const (.int .u8 2))) (.const (.int .i32 (-8)))), (.upd 2 1 (.upd 1 1 (.upd 0 1 (.const zA0) (.const (.int .u8 191))) (.const (.int .u8 2))) (.const (.int .u8 10))), (.upd 2 1 (.upd 1 1 (.upd 0 1 (.const zA0) (.const (.int .u8 24))) (.const (.int .u8 1))) (.const (.int .u8 1))), (.upd 4 1 (.upd 3 1 (.upd 1 1 (.upd 0 1 (.const zA0) (.const (.int .u8 122))) (.const (.int .u8 10))) (.const (.int .i16 (-8)))) (.const (.int .i32 1)))])
 (.seq
 (.row (some 10) 27 7 (.upd 30 5 (.upd 25 5 (.upd 20 5 (.upd 15 5 (.upd 10 5 (.upd 5 5 (.upd 0 5 (.const zA8) (.upd 4 1 (.upd 3 1 (.upd 1 1 (.upd 0 1 (.const zA0) (.const (.int .u8 122))) (.const (.int .u8 10))) (.const (.int .i16 (-8)))) (.const (.int .i32 1)))) (.upd 2 1 (.upd 1 1 (.upd 0 1 (.const zA0) (.const (.int .u8 24))) (.const (.int .u8 1))) (.const (.int .u8 1)))) (.const zA0)) (.upd 2 1 (.upd 1 1 (.upd 0 1 (.const zA0) (.const (.int .u8 191))) (.const (.int .u8 2))) (.const (.int .u8 10)))) (.upd 4 1 (.upd 1 1 (.upd 0 1 (.const zA0) (.const (.int .u8 7))) (.const (.int .u8 2))) (.const (.int .i32 (-8))))) (.upd 2 1 (.upd 1 1 (.upd 0 1 (.const zA0) (.const (.int .u8 191))) (.const (.int .u8 3))) (.const (.int .u8 2)))) (.upd 1 1 (.upd 0 1 (.const zA0) (.const (.int .u8 183))) (.const (.int .u8 4)))) [])
 (.set 11 (.var 10))))
 (.seq
 (.cond (.bin .eql (.var 5) (.const (.int .i32 87)))
 (.seq
 (.chk [(.upd 1 1 (.upd 0 1 (.const zA0) (.const (.int .u8 183))) (.const (.int .u8 3))), (.var 11)])
 (.seq
 (.row (some 12) 27 1 (.upd 0 5 (.const zA0) (.upd 1 1 (.upd 0 1 (.const zA0) (.const (.int .u8 183))) (.const (.int .u8 3)))) [])
 (.seq
 (.bi (some 13) .append [28, 28] 28 [(.var 11), (.var 12)] [])
 (.set 11 (.var 13)))))
 .skip)
 (.seq
 (.seq
 (.chk [(.upd 4 1 (.upd 0 1 (.const zA0) (.const (.int .u8 133))) (.var 5)), (.var 11)])
 (.seq
 (.row (some 14) 27 1 (.upd 0 5 (.const zA0) (.upd 4 1 (.upd 0 1 (.const zA0) (.const (.int .u8 133))) (.var 5))) [])
 (.seq
 (.bi (some 15) .append [28, 28] 28 [(.var 11), (.var 14)] [])
 (.seq
 (.call (some 16) 15 [(.const (.int .i32 0))] [])
 (.seq
 (.bi (some 17) .append [28, 28] 28 [(.var 15), (.var 16)] [])
 (.set 11 (.var 17)))))))
 (.seq
 (.seq
 (.chk [(.var 11)])
 (.seq
 (.row (some 18) 53 1 (.upd 0 4 (.const (.agg (Array.replicate 4 (.int .i64 0)))) (.ld (some 4) (.var 8))) [])
 (.seq
 (.row (some 19) 4 1 (.upd 0 1 (.const (.agg #[(.bool false)])) (.var 2)) [])
 (.seq
 (.chk [(.upd 1 1 (.upd 0 1 (.const (.agg #[(.slice none 0 0), (.slice none 0 0), (.bool false)])) (.var 18)) (.var 19))])
 (.seq
 (.call (some 20) 16 [(.var 11), (.upd 1 1 (.upd 0 1 (.const (.agg #[(.slice none 0 0), (.slice none 0 0), (.bool false)])) (.var 18)) (.var 19))] [])
 (.seq
 (.chk [(.proj 1 (.var 20)), (.proj 0 (.var 20))])
 (.seq
 (.new (some 21) 33 (.const (.agg #[(.int .i64 0), (.int .i64 0)])) [])
 (.seq
 (.store 2 (.var 21) (.proj 0 (.var 20)) [])
 (.set 22 (.proj 1 (.var 20)))))))))))
 (.seq
 (.set 23 (.pick (.bin .eql (.var 6) (.const (.int .i64 3))) (.const (.bool true)) (.bin .eql (.var 6) (.const (.int .i64 4)))))
 (.seq
 (.set 24 (.const (.bool false)))
 (.seq
 (.seq
 (.set 25 (.var 5))
 (.block 0
 (.seq
 (.set 26 (.bin .eql (.var 25) (.const (.int .i32 1))))
 (.cond (.var 26)
 (.set 24 (.un .not (.var 23)))
 (.seq
 (.set 27 (.bin .eql (.var 25) (.const (.int .i32 2))))
 (.cond (.var 27)
 (.set 24 (.pick (.un .not (.var 23)) (.un .not (.var 2)) (.const (.bool false))))
 (.seq
 (.set 28 (.bin .eql (.var 25) (.const (.int .i32 3))))
 (.cond (.var 28)
 (.set 24 (.pick (.pick (.un .not (.var 23)) (.un .not (.var 2)) (.const (.bool false))) (.bin .neq (.var 6) (.const (.int .i64 0))) (.const (.bool false))))
 (.seq
 (.seq
 (.set 29 (.bin .eql (.var 25) (.const (.int .i32 87))))
 (.cond (.var 29)
 .skip
 (.set 29 (.bin .eql (.var 25) (.const (.int .i32 88))))))
 (.cond (.var 29)
 (.set 24 (.pick (.var 23) (.un .not (.var 2)) (.const (.bool false))))
 (.seq
 (.set 30 (.bin .eql (.var 25) (.const (.int .i32 89))))
 (.cond (.var 30)
 (.set 24 (.var 23))
 .skip))))))))))))
 (.seq
 (.seq
 (.call (some 31) 18 [] [])
 (.set 3 (.pick (.pick (.var 31) (.eqx false .bool (.bin .eql (.var 22) (.const (.int .i64 0))) (.var 24)) (.const (.bool false))) (.pick (.bin .eql (.var 22) (.const (.int .i64 0))) (.const (.bool true)) (.bin .eql (.var 22) (.const (.int .i64 13)))) (.const (.bool false)))))
 .ret))))))))))))
def xf8 : XF := ⟨3, [0, 1, 2, 6, 15, 7, 8, 27, 9, 31, 39, 10, 44, 45, 49, 50, 51, 52, 56, 58, 60, 11, 12, 13, 14, 69, 70, 74, 82, 94, 102, 105],
  (.seq
 (.set 3 (.const (.bool false)))
 (.seq
 (.seq
 (.row (some 4) 21 6 (.upd 5 1 (.upd 4 1 (.upd 3 1 (.upd 2 1 (.upd 1 1 (.upd 0 1 (.const (.agg (Array.replicate 6 (.int .i32 0)))) (.const (.int .i32 1))) (.const (.int .i32 2))) (.const (.int .i32 3))) (.const (.int .i32 87))) (.const (.int .i32 88))) (.const (.int .i32 89))))
 (.set 5 (.ld none (.ixSl 1 (.var 4) (.conv .i64 (.bin .rem (.conv .u64 (.var 0)) (.const (.int .u64 6))))))))
 (.seq
 (.set 6 (.conv .i64 (.bin .rem (.conv .u64 (.var 1)) (.const (.int .u64 6)))))
 (.seq
 (.seq
 (.chk [(.var 6)])
 (.seq
 (.row (some 7) 3 6 (.upd 5 1 (.upd 4 1 (.upd 3 1 (.upd 2 1 (.upd 1 1 (.upd 0 1 (.const (.agg (Array.replicate 6 (.int .i64 0)))) (.const (.int .i64 4))) (.const (.int .i64 4))) (.const (.int .i64 4))) (.const (.int .i64 0))) (.const (.int .i64 0))) (.const (.int .i64 8))))
 (.seq
 (.set 9 (.upd 3 1 (.upd 2 1 (.upd 1 1 (.upd 0 1 (.const (.agg (Array.replicate 4 (.int .i64 0)))) (.var 6)) (.ld none (.ixSl 1 (.var 7) (.var 6)))) (.const (.int .i64 8))) (.const (.int .i64 2))))
 (.seq
 (.new (some 8) 53 (.const (.agg (Array.replicate 4 (.int .i64 0)))))
 (.store 4 (.var 8) (.var 9) [])))))
 (.seq
 (.seq
 (.chk [(.upd 1 1 (.upd 0 1 (.const zA0) (.const (.int .u8 183))) (.const (.int .u8 4))), (.upd 2 1 (.upd 1 1 (.upd 0 1 (.const zA0) (.const (.int .u8 191))) (.const (.int .u8 3))) (.const (.int .u8 2))), (.upd 4 1 (.upd 1 1 (.upd 0 1 (.const zA0) (.const (.int .u8 7))) (.const (.int .u8 2))) (.const (.int .i32 (-8)))), (.upd 2 1 (.upd 1 1 (.upd 0 1 (.const zA0) (.const (.int .u8 191))) (.const (.int .u8 2))) (.const (.int .u8 10))), (.upd 2 1 (.upd 1 1 (.upd 0 1 (.const zA0) (.const (.int .u8 24))) (.const (.int .u8 1))) (.const (.int .u8 1))), (.upd 4 1 (.upd 3 1 (.upd 1 1 (.upd 0 1 (.const zA0) (.const (.int .u8 122))) (.const (.int .u8 10))) (.const (.int .i16 (-8)))) (.const (.int .i32 1)))])
 (.seq
 (.row (some 10) 27 7 (.upd 30 5 (.upd 25 5 (.upd 20 5 (.upd 15 5 (.upd 10 5 (.upd 5 5 (.upd 0 5 (.const zA8) (.upd 4 1 (.upd 3 1 (.upd 1 1 (.upd 0 1 (.const zA0) (.const (.int .u8 122))) (.const (.int .u8 10))) (.const (.int .i16 (-8)))) (.const (.int .i32 1)))) (.upd 2 1 (.upd 1 1 (.upd 0 1 (.const zA0) (.const (.int .u8 24))) (.const (.int .u8 1))) (.const (.int .u8 1)))) (.const zA0)) (.upd 2 1 (.upd 1 1 (.upd 0 1 (.const zA0) (.const (.int .u8 191))) (.const (.int .u8 2))) (.const (.int .u8 10)))) (.upd 4 1 (.upd 1 1 (.upd 0 1 (.const zA0) (.const (.int .u8 7))) (.const (.int .u8 2))) (.const (.int .i32 (-8))))) (.upd 2 1 (.upd 1 1 (.upd 0 1 (.const zA0) (.const (.int .u8 191))) (.const (.int .u8 3))) (.const (.int .u8 2)))) (.upd 1 1 (.upd 0 1 (.const zA0) (.const (.int .u8 183))) (.const (.int .u8 4)))))
 (.set 11 (.var 10))))
 (.seq
 (.cond (.bin .eql (.var 5) (.const (.int .i32 87)))
 (.seq
 (.chk [(.upd 1 1 (.upd 0 1 (.const zA0) (.const (.int .u8 183))) (.const (.int .u8 3))), (.var 11)])
 (.seq
 (.row (some 12) 27 1 (.upd 0 5 (.const zA0) (.upd 1 1 (.upd 0 1 (.const zA0) (.const (.int .u8 183))) (.const (.int .u8 3)))))
 (.seq
 (.app (some 13) 27 5 (.var 11) (.var 12) [])
 (.set 11 (.var 13)))))
 .skip)
 (.seq
 (.seq
 (.chk [(.upd 4 1 (.upd 0 1 (.const zA0) (.const (.int .u8 133))) (.var 5)), (.var 11)])
 (.seq
 (.row (some 14) 27 1 (.upd 0 5 (.const zA0) (.upd 4 1 (.upd 0 1 (.const zA0) (.const (.int .u8 133))) (.var 5))))
 (.seq
 (.app (some 15) 27 5 (.var 11) (.var 14) [])
 (.seq
 (.call (some 16) 15 [(.const (.int .i32 0))] [])
 (.seq
 (.app (some 17) 27 5 (.var 15) (.var 16) [])
 (.set 11 (.var 17)))))))
 (.seq
 (.seq
 (.chk [(.var 11)])
 (.seq
 (.row (some 18) 53 1 (.upd 0 4 (.const (.agg (Array.replicate 4 (.int .i64 0)))) (.ld (some 4) (.var 8))))
 (.seq
 (.row (some 19) 4 1 (.upd 0 1 (.const (.agg #[(.bool false)])) (.var 2)))
 (.seq
 (.chk [(.upd 1 1 (.upd 0 1 (.const (.agg #[(.slice none 0 0), (.slice none 0 0), (.bool false)])) (.var 18)) (.var 19))])
 (.seq
 (.call (some 20) 16 [(.var 11), (.upd 1 1 (.upd 0 1 (.const (.agg #[(.slice none 0 0), (.slice none 0 0), (.bool false)])) (.var 18)) (.var 19))] [])
 (.seq
 (.chk [(.proj 1 (.var 20)), (.proj 0 (.var 20))])
 (.seq
 (.new (some 21) 33 (.const (.agg #[(.int .i64 0), (.int .i64 0)])))
 (.seq
 (.store 2 (.var 21) (.proj 0 (.var 20)) [])
 (.set 22 (.proj 1 (.var 20)))))))))))
 (.seq
 (.set 23 (.pick (.bin .eql (.var 6) (.const (.int .i64 3))) (.const (.bool true)) (.bin .eql (.var 6) (.const (.int .i64 4)))))
 (.seq
 (.set 24 (.const (.bool false)))
 (.seq
 (.seq
 (.set 25 (.var 5))
 (.block 0
 (.seq
 (.set 26 (.bin .eql (.var 25) (.const (.int .i32 1))))
 (.cond (.var 26)
 (.set 24 (.un .not (.var 23)))
 (.seq
 (.set 27 (.bin .eql (.var 25) (.const (.int .i32 2))))
 (.cond (.var 27)
 (.set 24 (.pick (.un .not (.var 23)) (.un .not (.var 2)) (.const (.bool false))))
 (.seq
 (.set 28 (.bin .eql (.var 25) (.const (.int .i32 3))))
 (.cond (.var 28)
 (.set 24 (.pick (.pick (.un .not (.var 23)) (.un .not (.var 2)) (.const (.bool false))) (.bin .neq (.var 6) (.const (.int .i64 0))) (.const (.bool false))))
 (.seq
 (.seq
 (.set 29 (.bin .eql (.var 25) (.const (.int .i32 87))))
 (.cond (.var 29)
 .skip
 (.set 29 (.bin .eql (.var 25) (.const (.int .i32 88))))))
 (.cond (.var 29)
 (.set 24 (.pick (.var 23) (.un .not (.var 2)) (.const (.bool false))))
 (.seq
 (.set 30 (.bin .eql (.var 25) (.const (.int .i32 89))))
 (.cond (.var 30)
 (.set 24 (.var 23))
 .skip))))))))))))
 (.seq
 (.seq
 (.call (some 31) 18 [] [])
 (.set 3 (.pick (.pick (.var 31) (.eqx false .bool (.bin .eql (.var 22) (.const (.int .i64 0))) (.var 24)) (.const (.bool false))) (.pick (.bin .eql (.var 22) (.const (.int .i64 0))) (.const (.bool true)) (.bin .eql (.var 22) (.const (.int .i64 13)))) (.const (.bool false)))))
 .ret)))))))))))),
  [(.var 3)]⟩
theorem cmp_8 : compile Tryz.prog Tryz.f8 [0, 1, 2, 6, 15, 7, 8, 27, 9, 31, 39, 10, 44, 45, 49, 50, 51, 52, 56, 58, 60, 11, 12, 13, 14, 69, 70, 74, 82, 94, 102, 105] [] = some (cm8, [(.var 3)]) := by kernel_rfl
theorem tox_8 : toX Tryz.prog 0 125 cm8 = some xf8.c := by kernel_rfl
theorem okx_8 : FnOk Tryz.prog 0 125 8 xf8 := fnOk_parts Tryz.func8 (by kernel_rfl) (by kernel_rfl) cmp_8 tox_8 (by kernel_rfl)

/- tipstaff/tipstafflaw18.VerifySteps -/
def xf9 : XF := ⟨2, [0, 1, 4, 5, 6, 7, 27, 28, 30, 31, 35, 8, 9, 41, 10, 11, 44],
  (.seq
 (.set 2 (.const (.bool false)))
 (.seq
 (.set 3 (.conv .i64 (.bin .rem (.conv .u64 (.var 0)) (.const (.int .u64 250)))))
 (.seq
 (.set 4 (.const (.slice none 0 0)))
 (.seq
 (.seq
 (.set 5 (.const (.int .i64 0)))
 (.block 0
 (.loop [1, 3, 4, 5]
 (.seq
 (.cond (.bin .lss (.var 5) (.var 3))
 .skip
 (.exit 0))
 (.seq
 (.block 1
 (.seq
 (.chk [(.upd 4 1 (.upd 1 1 (.upd 0 1 (.const zA0) (.const (.int .u8 183))) (.conv .u8 (.bin .rem (.var 5) (.const (.int .i64 10))))) (.var 1)), (.var 4)])
 (.seq
 (.row (some 6) 27 1 (.upd 0 5 (.const zA0) (.upd 4 1 (.upd 1 1 (.upd 0 1 (.const zA0) (.const (.int .u8 183))) (.conv .u8 (.bin .rem (.var 5) (.const (.int .i64 10))))) (.var 1))))
 (.seq
 (.app (some 7) 27 5 (.var 4) (.var 6) [])
 (.set 4 (.var 7))))))
 (.set 5 (.bin .add (.var 5) (.const (.int .i64 1)))))))))
 (.seq
 (.seq
 (.chk [(.var 4)])
 (.seq
 (.call (some 8) 15 [(.const (.int .i32 1))] [])
 (.seq
 (.app (some 9) 27 5 (.var 4) (.var 8) [])
 (.set 4 (.var 9)))))
 (.seq
 (.seq
 (.call (some 10) 16 [(.var 4), (.const (.agg #[(.slice none 0 0), (.slice none 0 0), (.bool false)]))] [])
 (.seq
 (.chk [(.proj 1 (.var 10)), (.proj 0 (.var 10))])
 (.seq
 (.new (some 11) 33 (.const (.agg #[(.int .i64 0), (.int .i64 0)])))
 (.seq
 (.store 2 (.var 11) (.proj 0 (.var 10)) [])
 (.set 12 (.proj 1 (.var 10)))))))
 (.seq
 (.seq
 (.chk [(.upd 2 1 (.const (.agg #[(.slice none 0 0), (.slice none 0 0), (.bool false)])) (.const (.bool true)))])
 (.seq
 (.call (some 13) 16 [(.var 4), (.upd 2 1 (.const (.agg #[(.slice none 0 0), (.slice none 0 0), (.bool false)])) (.const (.bool true)))] [])
 (.seq
 (.chk [(.proj 1 (.var 13)), (.proj 0 (.var 13))])
 (.seq
 (.new (some 14) 33 (.const (.agg #[(.int .i64 0), (.int .i64 0)])))
 (.seq
 (.store 2 (.var 14) (.proj 0 (.var 13)) [])
 (.set 15 (.proj 1 (.var 13))))))))
 (.seq
 (.seq
 (.call (some 16) 18 [] [])
 (.set 2 (.pick (.pick (.pick (.pick (.var 16) (.bin .eql (.var 12) (.const (.int .i64 0))) (.const (.bool false))) (.bin .eql (.var 15) (.const (.int .i64 0))) (.const (.bool false))) (.bin .eql (.ld none (.offp 1 (.var 11))) (.bin .add (.var 3) (.const (.int .i64 2)))) (.const (.bool false))) (.bin .eql (.ld none (.offp 1 (.var 14))) (.bin .add (.var 3) (.const (.int .i64 2)))) (.const (.bool false)))))
 .ret)))))))),
  [(.var 2)]⟩
theorem okx_9 : FnOk Tryz.prog 0 125 9 xf9 := fnOk_of Tryz.func9 (np := 2) (V := [0, 1, 4, 5, 6, 7, 27, 28, 30, 31, 35, 8, 9, 41, 10, 11, 44]) (ks := [[1, 3, 4, 5]]) (by kernel_rfl)

def cm10 : Cmd :=
  (.seq
 (.set 3 (.const (.bool false)))
 (.seq
 (.set 4 (.conv .i32 (.bin .sub (.conv .i64 (.bin .rem (.conv .u64 (.var 0)) (.const (.int .u64 129)))) (.const (.int .i64 64)))))
 (.seq
 (.set 5 (.conv .i64 (.bin .rem (.conv .u64 (.var 2)) (.const (.int .u64 4)))))
 (.seq
 (.seq
 (.row (some 6) 3 4 (.upd 3 1 (.upd 2 1 (.upd 1 1 (.upd 0 1 (.const (.agg (Array.replicate 4 (.int .i64 0)))) (.const (.int .i64 4))) (.const (.int .i64 2))) (.const (.int .i64 1))) (.const (.int .i64 8))) [])
 (.set 7 (.ld none (.ixSl 1 (.var 6) (.var 5)))))
 (.seq
 (.seq
 (.chk [(.upd 3 1 (.upd 2 1 (.upd 1 1 (.upd 0 1 (.const zA0) (.conv .u8 (.bin .add (.const (.int .i64 97)) (.bin .mul (.const (.int .i64 8)) (.var 5))))) (.const (.int .u8 7))) (.const (.int .u8 6))) (.var 1)), (.upd 4 1 (.upd 1 1 (.upd 0 1 (.const zA0) (.const (.int .u8 7))) (.const (.int .u8 6))) (.var 4)), (.upd 2 1 (.upd 1 1 (.upd 0 1 (.const zA0) (.const (.int .u8 191))) (.const (.int .u8 6))) (.const (.int .u8 1)))])
 (.seq
 (.row (some 8) 27 3 (.upd 10 5 (.upd 5 5 (.upd 0 5 (.const zA6) (.upd 2 1 (.upd 1 1 (.upd 0 1 (.const zA0) (.const (.int .u8 191))) (.const (.int .u8 6))) (.const (.int .u8 1)))) (.upd 4 1 (.upd 1 1 (.upd 0 1 (.const zA0) (.const (.int .u8 7))) (.const (.int .u8 6))) (.var 4))) (.upd 3 1 (.upd 2 1 (.upd 1 1 (.upd 0 1 (.const zA0) (.conv .u8 (.bin .add (.const (.int .i64 97)) (.bin .mul (.const (.int .i64 8)) (.var 5))))) (.const (.int .u8 7))) (.const (.int .u8 6))) (.var 1))) [])
 (.set 9 (.var 8))))
 (.seq
 (.seq
 (.chk [(.upd 3 1 (.upd 1 1 (.upd 0 1 (.const zA0) (.conv .u8 (.bin .add (.const (.int .i64 98)) (.bin .mul (.const (.int .i64 8)) (.var 5))))) (.const (.int .u8 6))) (.var 1)), (.upd 4 1 (.upd 1 1 (.upd 0 1 (.const zA0) (.const (.int .u8 7))) (.const (.int .u8 6))) (.var 4)), (.upd 2 1 (.upd 1 1 (.upd 0 1 (.const zA0) (.const (.int .u8 191))) (.const (.int .u8 6))) (.const (.int .u8 1)))])
 (.seq
 (.row (some 10) 27 3 (.upd 10 5 (.upd 5 5 (.upd 0 5 (.const zA6) (.upd 2 1 (.upd 1 1 (.upd 0 1 (.const zA0) (.const (.int .u8 191))) (.const (.int .u8 6))) (.const (.int .u8 1)))) (.upd 4 1 (.upd 1 1 (.upd 0 1 (.const zA0) (.const (.int .u8 7))) (.const (.int .u8 6))) (.var 4))) (.upd 3 1 (.upd 1 1 (.upd 0 1 (.const zA0) (.conv .u8 (.bin .add (.const (.int .i64 98)) (.bin .mul (.const (.int .i64 8)) (.var 5))))) (.const (.int .u8 6))) (.var 1))) [])
 (.set 11 (.var 10))))
 (.seq
 (.seq
 (.chk [(.var 9)])
 (.seq
 (.call (some 12) 15 [(.const (.int .i32 0))] [])
 (.seq
 (.bi (some 13) .append [28, 28] 28 [(.var 9), (.var 12)] [])
 (.seq
 (.call (some 14) 16 [(.var 13), (.const (.agg #[(.slice none 0 0), (.slice none 0 0), (.bool false)]))] [])
 (.seq
 (.chk [(.proj 1 (.var 14)), (.proj 0 (.var 14))])
 (.seq
 (.new (some 15) 33 (.const (.agg #[(.int .i64 0), (.int .i64 0)])) [])
 (.seq
 (.store 2 (.var 15) (.proj 0 (.var 14)) [])
 (.set 16 (.proj 1 (.var 14))))))))))
 (.seq
 (.seq
 (.chk [(.var 11)])
 (.seq
 (.call (some 17) 15 [(.const (.int .i32 0))] [])
 (.seq
 (.bi (some 18) .append [28, 28] 28 [(.var 11), (.var 17)] [])
 (.seq
 (.chk [(.upd 2 1 (.const (.agg #[(.slice none 0 0), (.slice none 0 0), (.bool false)])) (.const (.bool true)))])
 (.seq
 (.call (some 19) 16 [(.var 18), (.upd 2 1 (.const (.agg #[(.slice none 0 0), (.slice none 0 0), (.bool false)])) (.const (.bool true)))] [])
 (.seq
 (.chk [(.proj 1 (.var 19)), (.proj 0 (.var 19))])
 (.seq
 (.new (some 20) 33 (.const (.agg #[(.int .i64 0), (.int .i64 0)])) [])
 (.seq
 (.store 2 (.var 20) (.proj 0 (.var 19)) [])
 (.set 21 (.proj 1 (.var 19)))))))))))
 (.seq
 (.set 22 (.bin .add (.conv .i64 (.var 4)) (.conv .i64 (.var 1))))
 (.seq
 (.seq
 (.call (some 23) 18 [] [])
 (.set 3 (.pick (.pick (.pick (.var 23) (.eqx false .bool (.bin .eql (.var 16) (.const (.int .i64 0))) (.pick (.bin .geq (.var 22) (.const (.int .i64 0))) (.bin .leq (.bin .add (.var 22) (.var 7)) (.const (.int .i64 32))) (.const (.bool false)))) (.const (.bool false))) (.pick (.bin .eql (.var 16) (.const (.int .i64 0))) (.const (.bool true)) (.bin .eql (.var 16) (.const (.int .i64 13)))) (.const (.bool false))) (.bin .eql (.var 21) (.const (.int .i64 13))) (.const (.bool false)))))
 .ret))))))))))
def xf10 : XF := ⟨3, [0, 1, 2, 6, 7, 8, 27, 9, 40, 10, 50, 11, 53, 54, 56, 12, 13, 61, 62, 64, 14, 15, 16, 72],
  (.seq
 (.set 3 (.const (.bool false)))
 (.seq
 (.set 4 (.conv .i32 (.bin .sub (.conv .i64 (.bin .rem (.conv .u64 (.var 0)) (.const (.int .u64 129)))) (.const (.int .i64 64)))))
 (.seq
 (.set 5 (.conv .i64 (.bin .rem (.conv .u64 (.var 2)) (.const (.int .u64 4)))))
 (.seq
 (.seq
 (.row (some 6) 3 4 (.upd 3 1 (.upd 2 1 (.upd 1 1 (.upd 0 1 (.const (.agg (Array.replicate 4 (.int .i64 0)))) (.const (.int .i64 4))) (.const (.int .i64 2))) (.const (.int .i64 1))) (.const (.int .i64 8))))
 (.set 7 (.ld none (.ixSl 1 (.var 6) (.var 5)))))
 (.seq
 (.seq
 (.chk [(.upd 3 1 (.upd 2 1 (.upd 1 1 (.upd 0 1 (.const zA0) (.conv .u8 (.bin .add (.const (.int .i64 97)) (.bin .mul (.const (.int .i64 8)) (.var 5))))) (.const (.int .u8 7))) (.const (.int .u8 6))) (.var 1)), (.upd 4 1 (.upd 1 1 (.upd 0 1 (.const zA0) (.const (.int .u8 7))) (.const (.int .u8 6))) (.var 4)), (.upd 2 1 (.upd 1 1 (.upd 0 1 (.const zA0) (.const (.int .u8 191))) (.const (.int .u8 6))) (.const (.int .u8 1)))])
 (.seq
 (.row (some 8) 27 3 (.upd 10 5 (.upd 5 5 (.upd 0 5 (.const zA6) (.upd 2 1 (.upd 1 1 (.upd 0 1 (.const zA0) (.const (.int .u8 191))) (.const (.int .u8 6))) (.const (.int .u8 1)))) (.upd 4 1 (.upd 1 1 (.upd 0 1 (.const zA0) (.const (.int .u8 7))) (.const (.int .u8 6))) (.var 4))) (.upd 3 1 (.upd 2 1 (.upd 1 1 (.upd 0 1 (.const zA0) (.conv .u8 (.bin .add (.const (.int .i64 97)) (.bin .mul (.const (.int .i64 8)) (.var 5))))) (.const (.int .u8 7))) (.const (.int .u8 6))) (.var 1))))
 (.set 9 (.var 8))))
 (.seq
 (.seq
 (.chk [(.upd 3 1 (.upd 1 1 (.upd 0 1 (.const zA0) (.conv .u8 (.bin .add (.const (.int .i64 98)) (.bin .mul (.const (.int .i64 8)) (.var 5))))) (.const (.int .u8 6))) (.var 1)), (.upd 4 1 (.upd 1 1 (.upd 0 1 (.const zA0) (.const (.int .u8 7))) (.const (.int .u8 6))) (.var 4)), (.upd 2 1 (.upd 1 1 (.upd 0 1 (.const zA0) (.const (.int .u8 191))) (.const (.int .u8 6))) (.const (.int .u8 1)))])
 (.seq
 (.row (some 10) 27 3 (.upd 10 5 (.upd 5 5 (.upd 0 5 (.const zA6) (.upd 2 1 (.upd 1 1 (.upd 0 1 (.const zA0) (.const (.int .u8 191))) (.const (.int .u8 6))) (.const (.int .u8 1)))) (.upd 4 1 (.upd 1 1 (.upd 0 1 (.const zA0) (.const (.int .u8 7))) (.const (.int .u8 6))) (.var 4))) (.upd 3 1 (.upd 1 1 (.upd 0 1 (.const zA0) (.conv .u8 (.bin .add (.const (.int .i64 98)) (.bin .mul (.const (.int .i64 8)) (.var 5))))) (.const (.int .u8 6))) (.var 1))))
 (.set 11 (.var 10))))
 (.seq
 (.seq
 (.chk [(.var 9)])
 (.seq
 (.call (some 12) 15 [(.const (.int .i32 0))] [])
 (.seq
 (.app (some 13) 27 5 (.var 9) (.var 12) [])
 (.seq
 (.call (some 14) 16 [(.var 13), (.const (.agg #[(.slice none 0 0), (.slice none 0 0), (.bool false)]))] [])
 (.seq
 (.chk [(.proj 1 (.var 14)), (.proj 0 (.var 14))])
 (.seq
 (.new (some 15) 33 (.const (.agg #[(.int .i64 0), (.int .i64 0)])))
 (.seq
 (.store 2 (.var 15) (.proj 0 (.var 14)) [])
 (.set 16 (.proj 1 (.var 14))))))))))
 (.seq
 (.seq
 (.chk [(.var 11)])
 (.seq
 (.call (some 17) 15 [(.const (.int .i32 0))] [])
 (.seq
 (.app (some 18) 27 5 (.var 11) (.var 17) [])
 (.seq
 (.chk [(.upd 2 1 (.const (.agg #[(.slice none 0 0), (.slice none 0 0), (.bool false)])) (.const (.bool true)))])
 (.seq
 (.call (some 19) 16 [(.var 18), (.upd 2 1 (.const (.agg #[(.slice none 0 0), (.slice none 0 0), (.bool false)])) (.const (.bool true)))] [])
 (.seq
 (.chk [(.proj 1 (.var 19)), (.proj 0 (.var 19))])
 (.seq
 (.new (some 20) 33 (.const (.agg #[(.int .i64 0), (.int .i64 0)])))
 (.seq
 (.store 2 (.var 20) (.proj 0 (.var 19)) [])
 (.set 21 (.proj 1 (.var 19)))))))))))
 (.seq
 (.set 22 (.bin .add (.conv .i64 (.var 4)) (.conv .i64 (.var 1))))
 (.seq
 (.seq
 (.call (some 23) 18 [] [])
 (.set 3 (.pick (.pick (.pick (.var 23) (.eqx false .bool (.bin .eql (.var 16) (.const (.int .i64 0))) (.pick (.bin .geq (.var 22) (.const (.int .i64 0))) (.bin .leq (.bin .add (.var 22) (.var 7)) (.const (.int .i64 32))) (.const (.bool false)))) (.const (.bool false))) (.pick (.bin .eql (.var 16) (.const (.int .i64 0))) (.const (.bool true)) (.bin .eql (.var 16) (.const (.int .i64 13)))) (.const (.bool false))) (.bin .eql (.var 21) (.const (.int .i64 13))) (.const (.bool false)))))
 .ret)))))))))),
  [(.var 3)]⟩
theorem cmp_10 : compile Tryz.prog Tryz.f10 [0, 1, 2, 6, 7, 8, 27, 9, 40, 10, 50, 11, 53, 54, 56, 12, 13, 61, 62, 64, 14, 15, 16, 72] [] = some (cm10, [(.var 3)]) := by kernel_rfl
theorem tox_10 : toX Tryz.prog 0 125 cm10 = some xf10.c := by kernel_rfl
theorem okx_10 : FnOk Tryz.prog 0 125 10 xf10 := fnOk_parts Tryz.func10 (by kernel_rfl) (by kernel_rfl) cmp_10 tox_10 (by kernel_rfl)

def cm11 : Cmd :=
  (.seq
 (.set 3 (.const (.bool false)))
 (.seq
 (.seq
 (.row (some 4) 5 12 (.upd 11 1 (.upd 10 1 (.upd 9 1 (.upd 8 1 (.upd 7 1 (.upd 6 1 (.upd 5 1 (.upd 4 1 (.upd 3 1 (.upd 2 1 (.upd 1 1 (.upd 0 1 (.const (.agg (Array.replicate 12 (.int .u8 0)))) (.const (.int .u8 0))) (.const (.int .u8 1))) (.const (.int .u8 2))) (.const (.int .u8 3))) (.const (.int .u8 4))) (.const (.int .u8 5))) (.const (.int .u8 6))) (.const (.int .u8 7))) (.const (.int .u8 9))) (.const (.int .u8 10))) (.const (.int .u8 11))) (.const (.int .u8 12))) [])
 (.set 5 (.ld none (.ixSl 1 (.var 4) (.conv .i64 (.bin .rem (.conv .u64 (.var 0)) (.const (.int .u64 12))))))))
 (.seq
 (.set 6 (.const (.int .u8 12)))
 (.seq
 (.cond (.var 2)
 (.set 6 (.const (.int .u8 15)))
 .skip)
 (.seq
 (.seq
 (.chk [(.upd 4 1 (.upd 1 1 (.upd 0 1 (.const zA0) (.const (.int .u8 183))) (.const (.int .u8 6))) (.const (.int .i32 9)))])
 (.seq
 (.row (some 7) 27 1 (.upd 0 5 (.const zA0) (.upd 4 1 (.upd 1 1 (.upd 0 1 (.const zA0) (.const (.int .u8 183))) (.const (.int .u8 6))) (.const (.int .i32 9)))) [])
 (.seq
 (.chk [(.upd 2 1 (.upd 1 1 (.upd 0 1 (.const zA0) (.const (.int .u8 191))) (.const (.int .u8 6))) (.const (.int .u8 1)))])
 (.seq
 (.row (some 8) 27 1 (.upd 0 5 (.const zA0) (.upd 2 1 (.upd 1 1 (.upd 0 1 (.const zA0) (.const (.int .u8 191))) (.const (.int .u8 6))) (.const (.int .u8 1)))) [])
 (.seq
 (.chk [(.upd 2 1 (.upd 1 1 (.upd 0 1 (.const zA0) (.const (.int .u8 191))) (.const (.int .u8 6))) (.const (.int .u8 10)))])
 (.seq
 (.row (some 9) 27 1 (.upd 0 5 (.const zA0) (.upd 2 1 (.upd 1 1 (.upd 0 1 (.const zA0) (.const (.int .u8 191))) (.const (.int .u8 6))) (.const (.int .u8 10)))) [])
 (.seq
 (.chk [(.upd 2 1 (.upd 1 1 (.upd 0 1 (.const zA0) (.const (.int .u8 24))) (.const (.int .u8 6))) (.const (.int .u8 1)))])
 (.seq
 (.row (some 10) 27 2 (.upd 5 5 (.upd 0 5 (.const zA3) (.upd 2 1 (.upd 1 1 (.upd 0 1 (.const zA0) (.const (.int .u8 24))) (.const (.int .u8 6))) (.const (.int .u8 1)))) (.const zA0)) [])
 (.seq
 (.row (some 11) 28 4 (.upd 3 1 (.upd 2 1 (.upd 1 1 (.upd 0 1 (.const (.agg (Array.replicate 4 (.slice none 0 0)))) (.var 7)) (.var 8)) (.var 9)) (.var 10)) [])
 (.set 12 (.ld none (.ixSl 1 (.var 11) (.conv .i64 (.bin .rem (.conv .u64 (.var 1)) (.const (.int .u64 4))))))))))))))))
 (.seq
 (.seq
 (.row (some 13) 27 0 (.const (.agg #[])) [])
 (.seq
 (.bi (some 14) .append [28, 28] 28 [(.var 13), (.var 12)] [])
 (.seq
 (.chk [(.upd 2 1 (.upd 1 1 (.upd 0 1 (.const zA0) (.bin .or (.bin .shl (.var 5) (.const (.int .u64 4))) (.var 6))) (.const (.int .u8 6))) (.const (.int .u8 7))), (.upd 4 1 (.upd 1 1 (.upd 0 1 (.const zA0) (.const (.int .u8 183))) (.const (.int .u8 7))) (.const (.int .i32 3)))])
 (.seq
 (.row (some 15) 27 2 (.upd 5 5 (.upd 0 5 (.const zA3) (.upd 4 1 (.upd 1 1 (.upd 0 1 (.const zA0) (.const (.int .u8 183))) (.const (.int .u8 7))) (.const (.int .i32 3)))) (.upd 2 1 (.upd 1 1 (.upd 0 1 (.const zA0) (.bin .or (.bin .shl (.var 5) (.const (.int .u64 4))) (.var 6))) (.const (.int .u8 6))) (.const (.int .u8 7)))) [])
 (.seq
 (.bi (some 16) .append [28, 28] 28 [(.var 14), (.var 15)] [])
 (.set 17 (.var 16)))))))
 (.seq
 (.seq
 (.row (some 18) 27 0 (.const (.agg #[])) [])
 (.seq
 (.bi (some 19) .append [28, 28] 28 [(.var 18), (.var 12)] [])
 (.seq
 (.chk [(.upd 2 1 (.upd 1 1 (.upd 0 1 (.const zA0) (.bin .or (.bin .shl (.var 5) (.const (.int .u64 4))) (.var 6))) (.const (.int .u8 6))) (.const (.int .u8 6)))])
 (.seq
 (.row (some 20) 27 1 (.upd 0 5 (.const zA0) (.upd 2 1 (.upd 1 1 (.upd 0 1 (.const zA0) (.bin .or (.bin .shl (.var 5) (.const (.int .u64 4))) (.var 6))) (.const (.int .u8 6))) (.const (.int .u8 6)))) [])
 (.seq
 (.bi (some 21) .append [28, 28] 28 [(.var 19), (.var 20)] [])
 (.set 22 (.var 21)))))))
 (.seq
 (.seq
 (.call (some 23) 17 [(.const (.int .i64 8)), (.const (.bool false)), (.const (.bool true))] [])
 (.seq
 (.new (some 24) 40 (.const (.agg #[(.slice none 0 0), (.slice none 0 0), (.bool false)])) [])
 (.store 3 (.var 24) (.var 23) [])))
 (.seq
 (.seq
 .draw
 (.seq
 (.chk [(.var 17)])
 (.seq
 (.set 27 (.ld (some 3) (.var 24)))
 (.alt
 (.seq
 (.call (some 25) 15 [(.const (.int .i32 0))] [(.ld (some 3) (.var 24))])
 (.alt
 (.seq
 (.bi (some 26) .append [28, 28] 28 [(.var 17), (.var 25)] [(.ld (some 3) (.var 24))])
 (.alt
 (.seq
 (.call (some 28) 16 [(.var 26), (.var 27)] [(.ld (some 3) (.var 24))])
 (.seq
 (.chk [(.proj 1 (.var 28)), (.proj 0 (.var 28))])
 (.seq
 (.new (some 29) 33 (.const (.agg #[(.int .i64 0), (.int .i64 0)])) [(.ld (some 3) (.var 24))])
 (.seq
 (.store 2 (.var 29) (.proj 0 (.var 28)) [])
 (.set 30 (.proj 1 (.var 28)))))))
 (.seq
 (.new (some 29) 33 (.const (.agg #[(.int .i64 0), (.int .i64 0)])) [(.ld (some 3) (.var 24))])
 (.seq
 (.call (some 28) 16 [(.var 26), (.var 27)] [])
 (.seq
 (.chk [(.proj 1 (.var 28))])
 (.seq
 (.store 2 (.var 29) (.proj 0 (.var 28)) [])
 (.set 30 (.proj 1 (.var 28)))))))))
 (.seq
 (.new (some 29) 33 (.const (.agg #[(.int .i64 0), (.int .i64 0)])) [(.ld (some 3) (.var 24))])
 (.seq
 (.bi (some 26) .append [28, 28] 28 [(.var 17), (.var 25)] [(.ld (some 3) (.var 24))])
 (.seq
 (.call (some 28) 16 [(.var 26), (.var 27)] [])
 (.seq
 (.chk [(.proj 1 (.var 28))])
 (.seq
 (.store 2 (.var 29) (.proj 0 (.var 28)) [])
 (.set 30 (.proj 1 (.var 28))))))))))
 (.seq
 (.new (some 29) 33 (.const (.agg #[(.int .i64 0), (.int .i64 0)])) [(.ld (some 3) (.var 24))])
 (.seq
 (.call (some 25) 15 [(.const (.int .i32 0))] [(.ld (some 3) (.var 24))])
 (.seq
 (.bi (some 26) .append [28, 28] 28 [(.var 17), (.var 25)] [(.ld (some 3) (.var 24))])
 (.seq
 (.call (some 28) 16 [(.var 26), (.var 27)] [])
 (.seq
 (.chk [(.proj 1 (.var 28))])
 (.seq
 (.store 2 (.var 29) (.proj 0 (.var 28)) [])
 (.set 30 (.proj 1 (.var 28)))))))))))))
 (.seq
 (.seq
 .draw
 (.seq
 (.chk [(.var 22)])
 (.seq
 (.set 33 (.ld (some 3) (.var 24)))
 (.alt
 (.seq
 (.call (some 31) 15 [(.const (.int .i32 0))] [(.ld (some 3) (.var 24))])
 (.alt
 (.seq
 (.bi (some 32) .append [28, 28] 28 [(.var 22), (.var 31)] [(.ld (some 3) (.var 24))])
 (.alt
 (.seq
 (.call (some 34) 16 [(.var 32), (.var 33)] [(.ld (some 3) (.var 24))])
 (.seq
 (.chk [(.proj 1 (.var 34)), (.proj 0 (.var 34))])
 (.seq
 (.new (some 35) 33 (.const (.agg #[(.int .i64 0), (.int .i64 0)])) [(.ld (some 3) (.var 24))])
 (.seq
 (.store 2 (.var 35) (.proj 0 (.var 34)) [])
 (.set 36 (.proj 1 (.var 34)))))))
 (.seq
 (.new (some 35) 33 (.const (.agg #[(.int .i64 0), (.int .i64 0)])) [(.ld (some 3) (.var 24))])
 (.seq
 (.call (some 34) 16 [(.var 32), (.var 33)] [])
 (.seq
 (.chk [(.proj 1 (.var 34))])
 (.seq
 (.store 2 (.var 35) (.proj 0 (.var 34)) [])
 (.set 36 (.proj 1 (.var 34)))))))))
 (.seq
 (.new (some 35) 33 (.const (.agg #[(.int .i64 0), (.int .i64 0)])) [(.ld (some 3) (.var 24))])
 (.seq
 (.bi (some 32) .append [28, 28] 28 [(.var 22), (.var 31)] [(.ld (some 3) (.var 24))])
 (.seq
 (.call (some 34) 16 [(.var 32), (.var 33)] [])
 (.seq
 (.chk [(.proj 1 (.var 34))])
 (.seq
 (.store 2 (.var 35) (.proj 0 (.var 34)) [])
 (.set 36 (.proj 1 (.var 34))))))))))
 (.seq
 (.new (some 35) 33 (.const (.agg #[(.int .i64 0), (.int .i64 0)])) [(.ld (some 3) (.var 24))])
 (.seq
 (.call (some 31) 15 [(.const (.int .i32 0))] [(.ld (some 3) (.var 24))])
 (.seq
 (.bi (some 32) .append [28, 28] 28 [(.var 22), (.var 31)] [(.ld (some 3) (.var 24))])
 (.seq
 (.call (some 34) 16 [(.var 32), (.var 33)] [])
 (.seq
 (.chk [(.proj 1 (.var 34))])
 (.seq
 (.store 2 (.var 35) (.proj 0 (.var 34)) [])
 (.set 36 (.proj 1 (.var 34)))))))))))))
 (.seq
 (.set 37 (.conv .i64 (.bin .rem (.conv .u64 (.var 1)) (.const (.int .u64 4)))))
 (.seq
 (.set 38 (.bin .eql (.var 37) (.const (.int .i64 0))))
 (.seq
 (.set 39 (.pick (.bin .eql (.var 37) (.const (.int .i64 1))) (.const (.bool true)) (.bin .eql (.var 37) (.const (.int .i64 2)))))
 (.seq
 (.set 40 (.pick (.pick (.var 38) (.const (.bool true)) (.bin .eql (.var 5) (.const (.int .u8 11)))) (.const (.bool true)) (.pick (.pick (.var 39) (.var 2) (.const (.bool false))) (.bin .leq (.var 5) (.const (.int .u8 1))) (.const (.bool false)))))
 (.seq
 (.set 41 (.pick (.var 38) (.const (.bool true)) (.pick (.bin .eql (.var 5) (.const (.int .u8 11))) (.var 2) (.const (.bool false)))))
 (.seq
 (.seq
 (.call (some 42) 18 [] [])
 (.set 3 (.pick (.pick (.var 42) (.eqx false .bool (.bin .eql (.var 30) (.const (.int .i64 0))) (.var 40)) (.const (.bool false))) (.eqx false .bool (.bin .eql (.var 36) (.const (.int .i64 0))) (.var 41)) (.const (.bool false)))))
 .ret))))))))))))))))
def xf11 : XF := ⟨3, [0, 1, 2, 6, 22, 7, 8, 31, 33, 35, 38, 39, 9, 46, 48, 55, 56, 10, 57, 59, 65, 66, 11, 67, 12, 70, 71, 72, 73, 13, 14, 78, 79, 80, 81, 15, 16, 17, 18, 19, 20, 21, 119],
  (.seq
 (.set 3 (.const (.bool false)))
 (.seq
 (.seq
 (.row (some 4) 5 12 (.upd 11 1 (.upd 10 1 (.upd 9 1 (.upd 8 1 (.upd 7 1 (.upd 6 1 (.upd 5 1 (.upd 4 1 (.upd 3 1 (.upd 2 1 (.upd 1 1 (.upd 0 1 (.const (.agg (Array.replicate 12 (.int .u8 0)))) (.const (.int .u8 0))) (.const (.int .u8 1))) (.const (.int .u8 2))) (.const (.int .u8 3))) (.const (.int .u8 4))) (.const (.int .u8 5))) (.const (.int .u8 6))) (.const (.int .u8 7))) (.const (.int .u8 9))) (.const (.int .u8 10))) (.const (.int .u8 11))) (.const (.int .u8 12))))
 (.set 5 (.ld none (.ixSl 1 (.var 4) (.conv .i64 (.bin .rem (.conv .u64 (.var 0)) (.const (.int .u64 12))))))))
 (.seq
 (.set 6 (.const (.int .u8 12)))
 (.seq
 (.cond (.var 2)
 (.set 6 (.const (.int .u8 15)))
 .skip)
 (.seq
 (.seq
 (.chk [(.upd 4 1 (.upd 1 1 (.upd 0 1 (.const zA0) (.const (.int .u8 183))) (.const (.int .u8 6))) (.const (.int .i32 9)))])
 (.seq
 (.row (some 7) 27 1 (.upd 0 5 (.const zA0) (.upd 4 1 (.upd 1 1 (.upd 0 1 (.const zA0) (.const (.int .u8 183))) (.const (.int .u8 6))) (.const (.int .i32 9)))))
 (.seq
 (.chk [(.upd 2 1 (.upd 1 1 (.upd 0 1 (.const zA0) (.const (.int .u8 191))) (.const (.int .u8 6))) (.const (.int .u8 1)))])
 (.seq
 (.row (some 8) 27 1 (.upd 0 5 (.const zA0) (.upd 2 1 (.upd 1 1 (.upd 0 1 (.const zA0) (.const (.int .u8 191))) (.const (.int .u8 6))) (.const (.int .u8 1)))))
 (.seq
 (.chk [(.upd 2 1 (.upd 1 1 (.upd 0 1 (.const zA0) (.const (.int .u8 191))) (.const (.int .u8 6))) (.const (.int .u8 10)))])
 (.seq
 (.row (some 9) 27 1 (.upd 0 5 (.const zA0) (.upd 2 1 (.upd 1 1 (.upd 0 1 (.const zA0) (.const (.int .u8 191))) (.const (.int .u8 6))) (.const (.int .u8 10)))))
 (.seq
 (.chk [(.upd 2 1 (.upd 1 1 (.upd 0 1 (.const zA0) (.const (.int .u8 24))) (.const (.int .u8 6))) (.const (.int .u8 1)))])
 (.seq
 (.row (some 10) 27 2 (.upd 5 5 (.upd 0 5 (.const zA3) (.upd 2 1 (.upd 1 1 (.upd 0 1 (.const zA0) (.const (.int .u8 24))) (.const (.int .u8 6))) (.const (.int .u8 1)))) (.const zA0)))
 (.seq
 (.row (some 11) 28 4 (.upd 3 1 (.upd 2 1 (.upd 1 1 (.upd 0 1 (.const (.agg (Array.replicate 4 (.slice none 0 0)))) (.var 7)) (.var 8)) (.var 9)) (.var 10)))
 (.set 12 (.ld none (.ixSl 1 (.var 11) (.conv .i64 (.bin .rem (.conv .u64 (.var 1)) (.const (.int .u64 4))))))))))))))))
 (.seq
 (.seq
 (.row (some 13) 27 0 (.const (.agg #[])))
 (.seq
 (.app (some 14) 27 5 (.var 13) (.var 12) [])
 (.seq
 (.chk [(.upd 2 1 (.upd 1 1 (.upd 0 1 (.const zA0) (.bin .or (.bin .shl (.var 5) (.const (.int .u64 4))) (.var 6))) (.const (.int .u8 6))) (.const (.int .u8 7))), (.upd 4 1 (.upd 1 1 (.upd 0 1 (.const zA0) (.const (.int .u8 183))) (.const (.int .u8 7))) (.const (.int .i32 3)))])
 (.seq
 (.row (some 15) 27 2 (.upd 5 5 (.upd 0 5 (.const zA3) (.upd 4 1 (.upd 1 1 (.upd 0 1 (.const zA0) (.const (.int .u8 183))) (.const (.int .u8 7))) (.const (.int .i32 3)))) (.upd 2 1 (.upd 1 1 (.upd 0 1 (.const zA0) (.bin .or (.bin .shl (.var 5) (.const (.int .u64 4))) (.var 6))) (.const (.int .u8 6))) (.const (.int .u8 7)))))
 (.seq
 (.app (some 16) 27 5 (.var 14) (.var 15) [])
 (.set 17 (.var 16)))))))
 (.seq
 (.seq
 (.row (some 18) 27 0 (.const (.agg #[])))
 (.seq
 (.app (some 19) 27 5 (.var 18) (.var 12) [])
 (.seq
 (.chk [(.upd 2 1 (.upd 1 1 (.upd 0 1 (.const zA0) (.bin .or (.bin .shl (.var 5) (.const (.int .u64 4))) (.var 6))) (.const (.int .u8 6))) (.const (.int .u8 6)))])
 (.seq
 (.row (some 20) 27 1 (.upd 0 5 (.const zA0) (.upd 2 1 (.upd 1 1 (.upd 0 1 (.const zA0) (.bin .or (.bin .shl (.var 5) (.const (.int .u64 4))) (.var 6))) (.const (.int .u8 6))) (.const (.int .u8 6)))))
 (.seq
 (.app (some 21) 27 5 (.var 19) (.var 20) [])
 (.set 22 (.var 21)))))))
 (.seq
 (.seq
 (.call (some 23) 17 [(.const (.int .i64 8)), (.const (.bool false)), (.const (.bool true))] [])
 (.seq
 (.new (some 24) 40 (.const (.agg #[(.slice none 0 0), (.slice none 0 0), (.bool false)])))
 (.store 3 (.var 24) (.var 23) [])))
 (.seq
 (.seq
 .skip
 (.seq
 (.chk [(.var 17)])
 (.seq
 (.set 27 (.ld (some 3) (.var 24)))
 (.seq
 (.resv 1)
 (.seq
 (.clr [29])
 (.seq
 (.chk [(.const (.agg #[(.int .i64 0), (.int .i64 0)]))])
 (.seq
 (.call (some 25) 15 [(.const (.int .i32 0))] [(.ld (some 3) (.var 24))])
 (.seq
 (.app (some 26) 27 5 (.var 17) (.var 25) [(.ld (some 3) (.var 24))])
 (.seq
 (.call (some 28) 16 [(.var 26), (.var 27)] [(.ld (some 3) (.var 24))])
 (.seq
 (.chk [(.proj 1 (.var 28)), (.proj 0 (.var 28))])
 (.seq
 (.newR 0 29 33 (.const (.agg #[(.int .i64 0), (.int .i64 0)])))
 (.seq
 (.store 2 (.var 29) (.proj 0 (.var 28)) [])
 (.seq
 (.set 30 (.proj 1 (.var 28)))
 .skip)))))))))))))
 (.seq
 (.seq
 .skip
 (.seq
 (.chk [(.var 22)])
 (.seq
 (.set 33 (.ld (some 3) (.var 24)))
 (.seq
 (.resv 1)
 (.seq
 (.clr [35])
 (.seq
 (.chk [(.const (.agg #[(.int .i64 0), (.int .i64 0)]))])
 (.seq
 (.call (some 31) 15 [(.const (.int .i32 0))] [(.ld (some 3) (.var 24))])
 (.seq
 (.app (some 32) 27 5 (.var 22) (.var 31) [(.ld (some 3) (.var 24))])
 (.seq
 (.call (some 34) 16 [(.var 32), (.var 33)] [(.ld (some 3) (.var 24))])
 (.seq
 (.chk [(.proj 1 (.var 34)), (.proj 0 (.var 34))])
 (.seq
 (.newR 0 35 33 (.const (.agg #[(.int .i64 0), (.int .i64 0)])))
 (.seq
 (.store 2 (.var 35) (.proj 0 (.var 34)) [])
 (.seq
 (.set 36 (.proj 1 (.var 34)))
 .skip)))))))))))))
 (.seq
 (.set 37 (.conv .i64 (.bin .rem (.conv .u64 (.var 1)) (.const (.int .u64 4)))))
 (.seq
 (.set 38 (.bin .eql (.var 37) (.const (.int .i64 0))))
 (.seq
 (.set 39 (.pick (.bin .eql (.var 37) (.const (.int .i64 1))) (.const (.bool true)) (.bin .eql (.var 37) (.const (.int .i64 2)))))
 (.seq
 (.set 40 (.pick (.pick (.var 38) (.const (.bool true)) (.bin .eql (.var 5) (.const (.int .u8 11)))) (.const (.bool true)) (.pick (.pick (.var 39) (.var 2) (.const (.bool false))) (.bin .leq (.var 5) (.const (.int .u8 1))) (.const (.bool false)))))
 (.seq
 (.set 41 (.pick (.var 38) (.const (.bool true)) (.pick (.bin .eql (.var 5) (.const (.int .u8 11))) (.var 2) (.const (.bool false)))))
 (.seq
 (.seq
 (.call (some 42) 18 [] [])
 (.set 3 (.pick (.pick (.var 42) (.eqx false .bool (.bin .eql (.var 30) (.const (.int .i64 0))) (.var 40)) (.const (.bool false))) (.eqx false .bool (.bin .eql (.var 36) (.const (.int .i64 0))) (.var 41)) (.const (.bool false)))))
 .ret)))))))))))))))),
  [(.var 3)]⟩
theorem cmp_11 : compile Tryz.prog Tryz.f11 [0, 1, 2, 6, 22, 7, 8, 31, 33, 35, 38, 39, 9, 46, 48, 55, 56, 10, 57, 59, 65, 66, 11, 67, 12, 70, 71, 72, 73, 13, 14, 78, 79, 80, 81, 15, 16, 17, 18, 19, 20, 21, 119] [] = some (cm11, [(.var 3)]) := by kernel_rfl
theorem tox_11 : toX Tryz.prog 0 125 cm11 = some xf11.c := by kernel_rfl
theorem okx_11 : FnOk Tryz.prog 0 125 11 xf11 := fnOk_parts Tryz.func11 (by kernel_rfl) (by kernel_rfl) cmp_11 tox_11 (by kernel_rfl)

def cm12 : Cmd :=
  (.seq
 (.set 3 (.const (.bool false)))
 (.seq
 (.seq
 (.row (some 4) 5 11 (.upd 10 1 (.upd 9 1 (.upd 8 1 (.upd 7 1 (.upd 6 1 (.upd 5 1 (.upd 4 1 (.upd 3 1 (.upd 2 1 (.upd 1 1 (.upd 0 1 (.const (.agg (Array.replicate 11 (.int .u8 0)))) (.const (.int .u8 1))) (.const (.int .u8 2))) (.const (.int .u8 3))) (.const (.int .u8 4))) (.const (.int .u8 5))) (.const (.int .u8 6))) (.const (.int .u8 7))) (.const (.int .u8 10))) (.const (.int .u8 11))) (.const (.int .u8 12))) (.const (.int .u8 13))) [])
 (.set 5 (.ld none (.ixSl 1 (.var 4) (.conv .i64 (.bin .rem (.conv .u64 (.var 0)) (.const (.int .u64 11))))))))
 (.seq
 (.set 6 (.conv .i64 (.bin .rem (.conv .u64 (.var 1)) (.const (.int .u64 6)))))
 (.seq
 (.seq
 (.chk [(.upd 4 1 (.upd 1 1 (.upd 0 1 (.const zA0) (.const (.int .u8 183))) (.const (.int .u8 6))) (.const (.int .i32 9)))])
 (.seq
 (.row (some 7) 27 1 (.upd 0 5 (.const zA0) (.upd 4 1 (.upd 1 1 (.upd 0 1 (.const zA0) (.const (.int .u8 183))) (.const (.int .u8 6))) (.const (.int .i32 9)))) [])
 (.seq
 (.chk [(.upd 2 1 (.upd 1 1 (.upd 0 1 (.const zA0) (.const (.int .u8 191))) (.const (.int .u8 6))) (.const (.int .u8 1)))])
 (.seq
 (.row (some 8) 27 1 (.upd 0 5 (.const zA0) (.upd 2 1 (.upd 1 1 (.upd 0 1 (.const zA0) (.const (.int .u8 191))) (.const (.int .u8 6))) (.const (.int .u8 1)))) [])
 (.seq
 (.chk [(.upd 2 1 (.upd 1 1 (.upd 0 1 (.const zA0) (.const (.int .u8 24))) (.const (.int .u8 6))) (.const (.int .u8 1)))])
 (.seq
 (.row (some 9) 27 2 (.upd 5 5 (.upd 0 5 (.const zA3) (.upd 2 1 (.upd 1 1 (.upd 0 1 (.const zA0) (.const (.int .u8 24))) (.const (.int .u8 6))) (.const (.int .u8 1)))) (.const zA0)) [])
 (.seq
 (.row (some 10) 28 3 (.upd 2 1 (.upd 1 1 (.upd 0 1 (.const (.agg #[(.slice none 0 0), (.slice none 0 0), (.slice none 0 0)])) (.var 7)) (.var 8)) (.var 9)) [])
 (.set 11 (.ld none (.ixSl 1 (.var 10) (.bin .rem (.var 6) (.const (.int .i64 3)))))))))))))
 (.seq
 (.set 12 (.const (.int .u8 5)))
 (.seq
 (.cond (.bin .geq (.var 6) (.const (.int .i64 3)))
 (.set 12 (.const (.int .u8 6)))
 .skip)
 (.seq
 (.seq
 (.row (some 13) 27 0 (.const (.agg #[])) [])
 (.seq
 (.bi (some 14) .append [28, 28] 28 [(.var 13), (.var 11)] [])
 (.seq
 (.chk [(.upd 1 1 (.upd 0 1 (.const zA0) (.const (.int .u8 183))) (.const (.int .u8 8))), (.upd 3 1 (.upd 4 1 (.upd 1 1 (.upd 0 1 (.const zA0) (.bin .or (.bin .shl (.var 5) (.const (.int .u64 4))) (.var 12))) (.const (.int .u8 6))) (.var 2)) (.const (.int .i16 1)))])
 (.seq
 (.row (some 15) 27 2 (.upd 5 5 (.upd 0 5 (.const zA3) (.upd 3 1 (.upd 4 1 (.upd 1 1 (.upd 0 1 (.const zA0) (.bin .or (.bin .shl (.var 5) (.const (.int .u64 4))) (.var 12))) (.const (.int .u8 6))) (.var 2)) (.const (.int .i16 1)))) (.upd 1 1 (.upd 0 1 (.const zA0) (.const (.int .u8 183))) (.const (.int .u8 8)))) [])
 (.seq
 (.bi (some 16) .append [28, 28] 28 [(.var 14), (.var 15)] [])
 (.set 17 (.var 16)))))))
 (.seq
 (.seq
 (.chk [(.var 17)])
 (.seq
 (.call (some 18) 15 [(.const (.int .i32 0))] [])
 (.seq
 (.bi (some 19) .append [28, 28] 28 [(.var 17), (.var 18)] [])
 (.seq
 (.call (some 20) 17 [(.const (.int .i64 8)), (.const (.bool false)), (.const (.bool false))] [])
 (.seq
 (.call (some 21) 16 [(.var 19), (.var 20)] [])
 (.seq
 (.chk [(.proj 1 (.var 21)), (.proj 0 (.var 21))])
 (.seq
 (.new (some 22) 33 (.const (.agg #[(.int .i64 0), (.int .i64 0)])) [])
 (.seq
 (.store 2 (.var 22) (.proj 0 (.var 21)) [])
 (.set 23 (.proj 1 (.var 21)))))))))))
 (.seq
 (.set 24 (.pick (.bin .eql (.bin .rem (.var 6) (.const (.int .i64 3))) (.const (.int .i64 0))) (.const (.bool true)) (.pick (.pick (.bin .eql (.var 2) (.const (.int .i32 0))) (.bin .eql (.var 12) (.const (.int .u8 5))) (.const (.bool false))) (.pick (.bin .eql (.var 5) (.const (.int .u8 1))) (.const (.bool true)) (.bin .eql (.var 5) (.const (.int .u8 5)))) (.const (.bool false)))))
 (.seq
 (.seq
 (.call (some 25) 18 [] [])
 (.set 3 (.pick (.pick (.var 25) (.eqx false .bool (.bin .eql (.var 23) (.const (.int .i64 0))) (.var 24)) (.const (.bool false))) (.pick (.bin .eql (.var 23) (.const (.int .i64 0))) (.const (.bool true)) (.bin .eql (.var 23) (.const (.int .i64 13)))) (.const (.bool false)))))
 .ret))))))))))
def xf12 : XF := ⟨3, [0, 1, 2, 6, 15, 7, 8, 27, 29, 32, 33, 9, 10, 40, 42, 50, 51, 11, 54, 55, 56, 57, 12, 13, 14, 79],
  (.seq
 (.set 3 (.const (.bool false)))
 (.seq
 (.seq
 (.row (some 4) 5 11 (.upd 10 1 (.upd 9 1 (.upd 8 1 (.upd 7 1 (.upd 6 1 (.upd 5 1 (.upd 4 1 (.upd 3 1 (.upd 2 1 (.upd 1 1 (.upd 0 1 (.const (.agg (Array.replicate 11 (.int .u8 0)))) (.const (.int .u8 1))) (.const (.int .u8 2))) (.const (.int .u8 3))) (.const (.int .u8 4))) (.const (.int .u8 5))) (.const (.int .u8 6))) (.const (.int .u8 7))) (.const (.int .u8 10))) (.const (.int .u8 11))) (.const (.int .u8 12))) (.const (.int .u8 13))))
 (.set 5 (.ld none (.ixSl 1 (.var 4) (.conv .i64 (.bin .rem (.conv .u64 (.var 0)) (.const (.int .u64 11))))))))
 (.seq
 (.set 6 (.conv .i64 (.bin .rem (.conv .u64 (.var 1)) (.const (.int .u64 6)))))
 (.seq
 (.seq
 (.chk [(.upd 4 1 (.upd 1 1 (.upd 0 1 (.const zA0) (.const (.int .u8 183))) (.const (.int .u8 6))) (.const (.int .i32 9)))])
 (.seq
 (.row (some 7) 27 1 (.upd 0 5 (.const zA0) (.upd 4 1 (.upd 1 1 (.upd 0 1 (.const zA0) (.const (.int .u8 183))) (.const (.int .u8 6))) (.const (.int .i32 9)))))
 (.seq
 (.chk [(.upd 2 1 (.upd 1 1 (.upd 0 1 (.const zA0) (.const (.int .u8 191))) (.const (.int .u8 6))) (.const (.int .u8 1)))])
 (.seq
 (.row (some 8) 27 1 (.upd 0 5 (.const zA0) (.upd 2 1 (.upd 1 1 (.upd 0 1 (.const zA0) (.const (.int .u8 191))) (.const (.int .u8 6))) (.const (.int .u8 1)))))
 (.seq
 (.chk [(.upd 2 1 (.upd 1 1 (.upd 0 1 (.const zA0) (.const (.int .u8 24))) (.const (.int .u8 6))) (.const (.int .u8 1)))])
 (.seq
 (.row (some 9) 27 2 (.upd 5 5 (.upd 0 5 (.const zA3) (.upd 2 1 (.upd 1 1 (.upd 0 1 (.const zA0) (.const (.int .u8 24))) (.const (.int .u8 6))) (.const (.int .u8 1)))) (.const zA0)))
 (.seq
 (.row (some 10) 28 3 (.upd 2 1 (.upd 1 1 (.upd 0 1 (.const (.agg #[(.slice none 0 0), (.slice none 0 0), (.slice none 0 0)])) (.var 7)) (.var 8)) (.var 9)))
 (.set 11 (.ld none (.ixSl 1 (.var 10) (.bin .rem (.var 6) (.const (.int .i64 3)))))))))))))
 (.seq
 (.set 12 (.const (.int .u8 5)))
 (.seq
 (.cond (.bin .geq (.var 6) (.const (.int .i64 3)))
 (.set 12 (.const (.int .u8 6)))
 .skip)
 (.seq
 (.seq
 (.row (some 13) 27 0 (.const (.agg #[])))
 (.seq
 (.app (some 14) 27 5 (.var 13) (.var 11) [])
 (.seq
 (.chk [(.upd 1 1 (.upd 0 1 (.const zA0) (.const (.int .u8 183))) (.const (.int .u8 8))), (.upd 3 1 (.upd 4 1 (.upd 1 1 (.upd 0 1 (.const zA0) (.bin .or (.bin .shl (.var 5) (.const (.int .u64 4))) (.var 12))) (.const (.int .u8 6))) (.var 2)) (.const (.int .i16 1)))])
 (.seq
 (.row (some 15) 27 2 (.upd 5 5 (.upd 0 5 (.const zA3) (.upd 3 1 (.upd 4 1 (.upd 1 1 (.upd 0 1 (.const zA0) (.bin .or (.bin .shl (.var 5) (.const (.int .u64 4))) (.var 12))) (.const (.int .u8 6))) (.var 2)) (.const (.int .i16 1)))) (.upd 1 1 (.upd 0 1 (.const zA0) (.const (.int .u8 183))) (.const (.int .u8 8)))))
 (.seq
 (.app (some 16) 27 5 (.var 14) (.var 15) [])
 (.set 17 (.var 16)))))))
 (.seq
 (.seq
 (.chk [(.var 17)])
 (.seq
 (.call (some 18) 15 [(.const (.int .i32 0))] [])
 (.seq
 (.app (some 19) 27 5 (.var 17) (.var 18) [])
 (.seq
 (.call (some 20) 17 [(.const (.int .i64 8)), (.const (.bool false)), (.const (.bool false))] [])
 (.seq
 (.call (some 21) 16 [(.var 19), (.var 20)] [])
 (.seq
 (.chk [(.proj 1 (.var 21)), (.proj 0 (.var 21))])
 (.seq
 (.new (some 22) 33 (.const (.agg #[(.int .i64 0), (.int .i64 0)])))
 (.seq
 (.store 2 (.var 22) (.proj 0 (.var 21)) [])
 (.set 23 (.proj 1 (.var 21)))))))))))
 (.seq
 (.set 24 (.pick (.bin .eql (.bin .rem (.var 6) (.const (.int .i64 3))) (.const (.int .i64 0))) (.const (.bool true)) (.pick (.pick (.bin .eql (.var 2) (.const (.int .i32 0))) (.bin .eql (.var 12) (.const (.int .u8 5))) (.const (.bool false))) (.pick (.bin .eql (.var 5) (.const (.int .u8 1))) (.const (.bool true)) (.bin .eql (.var 5) (.const (.int .u8 5)))) (.const (.bool false)))))
 (.seq
 (.seq
 (.call (some 25) 18 [] [])
 (.set 3 (.pick (.pick (.var 25) (.eqx false .bool (.bin .eql (.var 23) (.const (.int .i64 0))) (.var 24)) (.const (.bool false))) (.pick (.bin .eql (.var 23) (.const (.int .i64 0))) (.const (.bool true)) (.bin .eql (.var 23) (.const (.int .i64 13)))) (.const (.bool false)))))
 .ret)))))))))),
  [(.var 3)]⟩
theorem cmp_12 : compile Tryz.prog Tryz.f12 [0, 1, 2, 6, 15, 7, 8, 27, 29, 32, 33, 9, 10, 40, 42, 50, 51, 11, 54, 55, 56, 57, 12, 13, 14, 79] [] = some (cm12, [(.var 3)]) := by kernel_rfl
theorem tox_12 : toX Tryz.prog 0 125 cm12 = some xf12.c := by kernel_rfl
theorem okx_12 : FnOk Tryz.prog 0 125 12 xf12 := fnOk_parts Tryz.func12 (by kernel_rfl) (by kernel_rfl) cmp_12 tox_12 (by kernel_rfl)

/- tipstaff/tipstaffref18.Key -/
def xf13 : XF := ⟨2, [0, 1, 4, 13],
  (.seq
 (.set 2 (.const (.slice none 0 0)))
 (.seq
 (.seq
 (.chk [(.upd 4 1 (.upd 0 1 (.const zA0) (.const (.int .u8 133))) (.const (.int .i32 1))), (.upd 4 1 (.upd 1 1 (.upd 0 1 (.const zA0) (.const (.int .u8 7))) (.const (.int .u8 2))) (.const (.int .i32 (-8)))), (.upd 2 1 (.upd 1 1 (.upd 0 1 (.const zA0) (.const (.int .u8 191))) (.const (.int .u8 2))) (.const (.int .u8 10))), (.upd 4 1 (.upd 2 1 (.upd 1 1 (.upd 0 1 (.const zA0) (.const (.int .u8 24))) (.const (.int .u8 1))) (.const (.int .u8 1))) (.var 0)), (.upd 4 1 (.upd 3 1 (.upd 1 1 (.upd 0 1 (.const zA0) (.const (.int .u8 98))) (.const (.int .u8 10))) (.const (.int .i16 (-8)))) (.var 1))])
 (.seq
 (.row (some 3) 27 6 (.upd 25 5 (.upd 20 5 (.upd 15 5 (.upd 10 5 (.upd 5 5 (.upd 0 5 (.const zA7) (.upd 4 1 (.upd 3 1 (.upd 1 1 (.upd 0 1 (.const zA0) (.const (.int .u8 98))) (.const (.int .u8 10))) (.const (.int .i16 (-8)))) (.var 1))) (.upd 4 1 (.upd 2 1 (.upd 1 1 (.upd 0 1 (.const zA0) (.const (.int .u8 24))) (.const (.int .u8 1))) (.const (.int .u8 1))) (.var 0))) (.const zA0)) (.upd 2 1 (.upd 1 1 (.upd 0 1 (.const zA0) (.const (.int .u8 191))) (.const (.int .u8 2))) (.const (.int .u8 10)))) (.upd 4 1 (.upd 1 1 (.upd 0 1 (.const zA0) (.const (.int .u8 7))) (.const (.int .u8 2))) (.const (.int .i32 (-8))))) (.upd 4 1 (.upd 0 1 (.const zA0) (.const (.int .u8 133))) (.const (.int .i32 1)))))
 (.set 2 (.var 3))))
 .ret)),
  [(.var 2)]⟩
theorem okx_13 : FnOk Tryz.prog 0 125 13 xf13 := fnOk_of Tryz.func13 (np := 2) (V := [0, 1, 4, 13]) (ks := []) (by kernel_rfl)

/- tipstaff/tipstaffref18.Found -/
def xf14 : XF := ⟨1, [0, 2, 7, 3, 10],
  (.seq
 (.set 1 (.const (.slice none 0 0)))
 (.seq
 (.seq
 (.chk [(.upd 0 1 (.const zA0) (.const (.int .u8 149))), (.upd 1 1 (.upd 0 1 (.const zA0) (.const (.int .u8 183))) (.const (.int .u8 0))), (.upd 3 1 (.upd 1 1 (.upd 0 1 (.const zA0) (.const (.int .u8 85))) (.const (.int .u8 0))) (.const (.int .i16 2)))])
 (.seq
 (.row (some 2) 27 3 (.upd 10 5 (.upd 5 5 (.upd 0 5 (.const zA6) (.upd 3 1 (.upd 1 1 (.upd 0 1 (.const zA0) (.const (.int .u8 85))) (.const (.int .u8 0))) (.const (.int .i16 2)))) (.upd 1 1 (.upd 0 1 (.const zA0) (.const (.int .u8 183))) (.const (.int .u8 0)))) (.upd 0 1 (.const zA0) (.const (.int .u8 149)))))
 (.set 3 (.var 2))))
 (.seq
 (.seq
 (.app (some 4) 27 5 (.var 3) (.var 0) [])
 (.set 1 (.var 4)))
 .ret))),
  [(.var 1)]⟩
theorem okx_14 : FnOk Tryz.prog 0 125 14 xf14 := fnOk_of Tryz.func14 (np := 1) (V := [0, 2, 7, 3, 10]) (ks := []) (by kernel_rfl)

/- tipstaff/tipstaffref18.End -/
def xf15 : XF := ⟨1, [0, 2, 6],
  (.seq
 (.set 1 (.const (.slice none 0 0)))
 (.seq
 (.seq
 (.chk [(.upd 0 1 (.const zA0) (.const (.int .u8 149))), (.upd 4 1 (.upd 0 1 (.const zA0) (.const (.int .u8 183))) (.var 0))])
 (.seq
 (.row (some 2) 27 2 (.upd 5 5 (.upd 0 5 (.const zA3) (.upd 4 1 (.upd 0 1 (.const zA0) (.const (.int .u8 183))) (.var 0))) (.upd 0 1 (.const zA0) (.const (.int .u8 149)))))
 (.set 1 (.var 2))))
 .ret)),
  [(.var 1)]⟩
theorem okx_15 : FnOk Tryz.prog 0 125 15 xf15 := fnOk_of Tryz.func15 (np := 1) (V := [0, 2, 6]) (ks := []) (by kernel_rfl)

/- tipstaff/verify.Check -/
def xf16 : XF := ⟨2, [0, 1, 4, 5, 3, 14, 6, 7, 27, 8, 33, 32, 35, 9, 37, 39, 44],
  (.seq
 (.seq
 (.new (some 4) 40 (.var 1))
 (.seq
 (.new (some 2) 33 (.const (.agg #[(.int .i64 0), (.int .i64 0)])))
 (.set 3 (.const (.int .i64 0)))))
 (.seq
 (.seq
 (.seq
 (.call (some 5) 19 [(.var 0), (.ld none (.offp 2 (.var 4)))] [])
 (.seq
 (.chk [(.proj 1 (.var 5))])
 (.seq
 (.set 6 (.proj 0 (.var 5)))
 (.set 7 (.proj 1 (.var 5))))))
 (.cond (.bin .neq (.var 7) (.const (.int .i64 0)))
 (.seq
 (.cond (.bin .eql (.var 7) (.const (.int .i64 7)))
 (.seq
 (.seq
 (.chk [(.var 7)])
 (.seq
 (.store 2 (.var 2) (.const (.agg #[(.int .i64 0), (.int .i64 0)])) [])
 (.set 3 (.var 7))))
 .ret)
 .skip)
 (.seq
 (.seq
 (.chk [(.upd 0 1 (.const (.agg #[(.int .i64 0), (.int .i64 0)])) (.var 6))])
 (.seq
 (.store 2 (.var 2) (.upd 0 1 (.const (.agg #[(.int .i64 0), (.int .i64 0)])) (.var 6)) [])
 (.set 3 (.const (.int .i64 22)))))
 .ret))
 .skip))
 (.seq
 (.seq
 (.call (some 8) 20 [(.ld none (.offp 0 (.var 4))), (.const (.func (.func 21) #[] #[]))] [])
 (.cond (.var 8)
 (.seq
 (.seq
 (.store 2 (.var 2) (.const (.agg #[(.int .i64 0), (.int .i64 0)])) [])
 (.set 3 (.const (.int .i64 22))))
 .ret)
 .skip))
 (.seq
 (.set 9 (.const (.int .i64 512)))
 (.seq
 (.cond (.ld none (.offp 2 (.var 4)))
 (.set 9 (.const (.int .i64 2048)))
 .skip)
 (.seq
 (.seq
 (.chk [(.var 0)])
 (.seq
 (.set 11 (.ld (some 3) (.var 4)))
 (.seq
 (.mkmap (some 10) .i64 [])
 (.seq
 (.chk [(.upd 5 1 (.upd 1 3 (.upd 0 1 (.const (.agg #[(.slice none 0 0), (.slice none 0 0), (.slice none 0 0), (.bool false), (.slice none 0 0), (.map none), (.int .i64 0)])) (.var 0)) (.var 11)) (.var 10))])
 (.seq
 (.new (some 12) 69 (.upd 5 1 (.upd 1 3 (.upd 0 1 (.const (.agg #[(.slice none 0 0), (.slice none 0 0), (.slice none 0 0), (.bool false), (.slice none 0 0), (.map none), (.int .i64 0)])) (.var 0)) (.var 11)) (.var 10)))
 (.set 13 (.var 12)))))))
 (.seq
 (.seq
 (.chk [(.var 13)])
 (.seq
 (.call (some 14) 23 [] [])
 (.seq
 (.chk [(.upd 1 273 (.upd 0 1 (.const zA10) (.const (.int .i64 0))) (.var 14))])
 (.seq
 (.row (some 15) 83 1 (.upd 0 274 (.const zA10) (.upd 1 273 (.upd 0 1 (.const zA10) (.const (.int .i64 0))) (.var 14))))
 (.store 1 (.offp 4 (.nn (.var 13))) (.var 15) [])))))
 (.seq
 (.seq
 (.call (some 16) 24 [(.var 13), (.var 9)] [])
 (.seq
 (.chk [(.proj 1 (.var 16))])
 (.seq
 (.store 2 (.var 2) (.proj 0 (.var 16)) [])
 (.set 3 (.proj 1 (.var 16))))))
 .ret)))))))),
  [(.ld (some 2) (.var 2)), (.var 3)]⟩
theorem okx_16 : FnOk Tryz.prog 0 125 16 xf16 := fnOk_of Tryz.func16 (np := 2) (V := [0, 1, 4, 5, 3, 14, 6, 7, 27, 8, 33, 32, 35, 9, 37, 39, 44]) (ks := []) (by kernel_rfl)

/- tipstaff/tipstafflaw18.array -/
def xf17 : XF := ⟨3, [0, 1, 2, 6, 9, 11],
  (.seq
 (.new (some 3) 40 (.const (.agg #[(.slice none 0 0), (.slice none 0 0), (.bool false)])))
 (.seq
 (.seq
 (.chk [(.upd 3 1 (.upd 2 1 (.upd 1 1 (.upd 0 1 (.const (.agg (Array.replicate 4 (.int .i64 0)))) (.const (.int .i64 0))) (.const (.int .i64 4))) (.var 0)) (.const (.int .i64 2)))])
 (.seq
 (.row (some 4) 53 1 (.upd 0 4 (.const (.agg (Array.replicate 4 (.int .i64 0)))) (.upd 3 1 (.upd 2 1 (.upd 1 1 (.upd 0 1 (.const (.agg (Array.replicate 4 (.int .i64 0)))) (.const (.int .i64 0))) (.const (.int .i64 4))) (.var 0)) (.const (.int .i64 2)))))
 (.seq
 (.row (some 5) 4 1 (.upd 0 1 (.const (.agg #[(.bool false)])) (.var 1)))
 (.seq
 (.chk [(.upd 2 1 (.upd 1 1 (.upd 0 1 (.const (.agg #[(.slice none 0 0), (.slice none 0 0), (.bool false)])) (.var 4)) (.var 5)) (.var 2))])
 (.store 3 (.var 3) (.upd 2 1 (.upd 1 1 (.upd 0 1 (.const (.agg #[(.slice none 0 0), (.slice none 0 0), (.bool false)])) (.var 4)) (.var 5)) (.var 2)) [])))))
 .ret)),
  [(.ld (some 3) (.var 3))]⟩
theorem okx_17 : FnOk Tryz.prog 0 125 17 xf17 := fnOk_of Tryz.func17 (np := 3) (V := [0, 1, 2, 6, 9, 11]) (ks := []) (by kernel_rfl)

/- tipstaff/tipstafflaw18.checks -/
def xf18 : XF := ⟨0, [0, 10, 12, 1, 2, 17, 19, 3, 4, 23, 25, 26, 27, 28, 29, 30, 31, 5, 6, 35, 37, 38, 39, 40, 41, 42, 7, 8],
  (.seq
 (.set 0 (.const (.bool false)))
 (.seq
 (.seq
 (.call (some 1) 15 [(.const (.int .i32 7))] [])
 (.seq
 (.call (some 2) 16 [(.var 1), (.const (.agg #[(.slice none 0 0), (.slice none 0 0), (.bool false)]))] [])
 (.seq
 (.chk [(.proj 1 (.var 2)), (.proj 0 (.var 2))])
 (.seq
 (.new (some 3) 33 (.const (.agg #[(.int .i64 0), (.int .i64 0)])))
 (.seq
 (.store 2 (.var 3) (.proj 0 (.var 2)) [])
 (.set 4 (.proj 1 (.var 2))))))))
 (.seq
 (.seq
 (.chk [(.upd 0 1 (.const zA0) (.const (.int .u8 149)))])
 (.seq
 (.row (some 5) 27 1 (.upd 0 5 (.const zA0) (.upd 0 1 (.const zA0) (.const (.int .u8 149)))))
 (.seq
 (.call (some 6) 16 [(.var 5), (.const (.agg #[(.slice none 0 0), (.slice none 0 0), (.bool false)]))] [])
 (.seq
 (.chk [(.proj 1 (.var 6)), (.proj 0 (.var 6))])
 (.seq
 (.new (some 7) 33 (.const (.agg #[(.int .i64 0), (.int .i64 0)])))
 (.seq
 (.store 2 (.var 7) (.proj 0 (.var 6)) [])
 (.set 8 (.proj 1 (.var 6)))))))))
 (.seq
 (.seq
 (.call (some 9) 13 [(.const (.int .i32 0)), (.const (.int .i32 1))] [])
 (.seq
 (.chk [(.upd 2 1 (.upd 1 1 (.upd 0 1 (.const zA0) (.const (.int .u8 113))) (.const (.int .u8 6))) (.const (.int .u8 0)))])
 (.seq
 (.row (some 10) 27 1 (.upd 0 5 (.const zA0) (.upd 2 1 (.upd 1 1 (.upd 0 1 (.const zA0) (.const (.int .u8 113))) (.const (.int .u8 6))) (.const (.int .u8 0)))))
 (.seq
 (.call (some 11) 14 [(.var 10)] [])
 (.seq
 (.call (some 12) 15 [(.const (.int .i32 1))] [])
 (.seq
 (.app (some 13) 27 5 (.var 11) (.var 12) [])
 (.seq
 (.app (some 14) 27 5 (.var 9) (.var 13) [])
 (.seq
 (.call (some 15) 17 [(.const (.int .i64 8)), (.const (.bool false)), (.const (.bool false))] [])
 (.seq
 (.call (some 16) 16 [(.var 14), (.var 15)] [])
 (.seq
 (.chk [(.proj 1 (.var 16)), (.proj 0 (.var 16))])
 (.seq
 (.new (some 17) 33 (.const (.agg #[(.int .i64 0), (.int .i64 0)])))
 (.seq
 (.store 2 (.var 17) (.proj 0 (.var 16)) [])
 (.set 18 (.proj 1 (.var 16)))))))))))))))
 (.seq
 (.seq
 (.call (some 19) 13 [(.const (.int .i32 0)), (.const (.int .i32 1))] [])
 (.seq
 (.chk [(.upd 2 1 (.upd 1 1 (.upd 0 1 (.const zA0) (.const (.int .u8 113))) (.const (.int .u8 6))) (.const (.int .u8 0)))])
 (.seq
 (.row (some 20) 27 1 (.upd 0 5 (.const zA0) (.upd 2 1 (.upd 1 1 (.upd 0 1 (.const zA0) (.const (.int .u8 113))) (.const (.int .u8 6))) (.const (.int .u8 0)))))
 (.seq
 (.call (some 21) 15 [(.const (.int .i32 1))] [])
 (.seq
 (.app (some 22) 27 5 (.var 20) (.var 21) [])
 (.seq
 (.app (some 23) 27 5 (.var 19) (.var 22) [])
 (.seq
 (.call (some 24) 17 [(.const (.int .i64 8)), (.const (.bool false)), (.const (.bool false))] [])
 (.seq
 (.call (some 25) 16 [(.var 23), (.var 24)] [])
 (.seq
 (.chk [(.proj 1 (.var 25)), (.proj 0 (.var 25))])
 (.seq
 (.new (some 26) 33 (.const (.agg #[(.int .i64 0), (.int .i64 0)])))
 (.seq
 (.store 2 (.var 26) (.proj 0 (.var 25)) [])
 (.set 27 (.proj 1 (.var 25))))))))))))))
 (.seq
 (.set 0 (.pick (.pick (.pick (.pick (.bin .eql (.var 4) (.const (.int .i64 0))) (.bin .eql (.var 8) (.const (.int .i64 13))) (.const (.bool false))) (.bin .eql (.ld none (.offp 0 (.var 7))) (.const (.int .i64 0))) (.const (.bool false))) (.bin .eql (.var 18) (.const (.int .i64 0))) (.const (.bool false))) (.bin .eql (.var 27) (.const (.int .i64 13))) (.const (.bool false))))
 .ret)))))),
  [(.var 0)]⟩
theorem okx_18 : FnOk Tryz.prog 0 125 18 xf18 := fnOk_of Tryz.func18 (np := 0) (V := [0, 10, 12, 1, 2, 17, 19, 3, 4, 23, 25, 26, 27, 28, 29, 30, 31, 5, 6, 35, 37, 38, 39, 40, 41, 42, 7, 8]) (ks := []) (by kernel_rfl)

/- tipstaff/cfg.Check -/
def xf19 : XF := ⟨2, [0, 1, 4, 5, 11, 6, 7, 19, 20, 8, 28],
  (.seq
 (.seq
 (.set 2 (.const (.int .i64 0)))
 (.set 3 (.const (.int .i64 0))))
 (.seq
 (.seq
 (.seq
 (.call (some 4) 25 [(.var 0)] [])
 (.seq
 (.chk [(.proj 1 (.var 4))])
 (.seq
 (.set 5 (.proj 0 (.var 4)))
 (.set 6 (.proj 1 (.var 4))))))
 (.cond (.bin .neq (.var 6) (.const (.int .i64 0)))
 (.seq
 (.seq
 (.chk [(.var 6)])
 (.seq
 (.set 2 (.var 5))
 (.set 3 (.var 6))))
 .ret)
 .skip))
 (.seq
 (.seq
 (.seq
 (.call (some 7) 27 [(.var 0)] [])
 (.seq
 (.call (some 8) 26 [(.var 7), (.const (.bool false))] [])
 (.set 9 (.var 8))))
 (.cond (.bin .geq (.var 9) (.const (.int .i64 0)))
 (.seq
 (.seq
 (.set 2 (.var 9))
 (.set 3 (.const (.int .i64 22))))
 .ret)
 .skip))
 (.seq
 (.seq
 (.seq
 (.chk [(.pick (.un .not (.var 1)) (.var 0) (.const (.bool false)))])
 (.cond (.pick (.un .not (.var 1)) (.const (.bool true)) (.const (.bool false)))
 (.call (some 10) 28 [(.var 0)] [])
 (.clr [10])))
 (.cond (.pick (.un .not (.var 1)) (.var 10) (.const (.bool false)))
 (.seq
 (.seq
 (.set 2 (.const (.int .i64 0)))
 (.set 3 (.const (.int .i64 22))))
 .ret)
 .skip))
 (.seq
 (.seq
 (.set 2 (.const (.int .i64 0)))
 (.set 3 (.const (.int .i64 0))))
 .ret))))),
  [(.var 2), (.var 3)]⟩
theorem okx_19 : FnOk Tryz.prog 0 125 19 xf19 := fnOk_of Tryz.func19 (np := 2) (V := [0, 1, 4, 5, 11, 6, 7, 19, 20, 8, 28]) (ks := []) (by kernel_rfl)

/- slices.ContainsFunc[[]tipstaff/bmap.Spec,tipstaff/bmap.Spec] -/
def xf20 : XF := ⟨2, [0, 1, 4, 7],
  (.seq
 (.set 2 (.const (.bool false)))
 (.seq
 (.seq
 (.call (some 3) 29 [(.var 0), (.var 1)] [])
 (.set 2 (.bin .geq (.var 3) (.const (.int .i64 0)))))
 .ret)),
  [(.var 2)]⟩
theorem okx_20 : FnOk Tryz.prog 0 125 20 xf20 := fnOk_of Tryz.func20 (np := 2) (V := [0, 1, 4, 7]) (ks := []) (by kernel_rfl)

/- tipstaff/verify.Check$1 -/
def xf21 : XF := ⟨1, [0, 2, 1, 4],
  (.seq
 (.seq
 (.new (some 2) 53 (.var 0))
 (.set 1 (.const (.bool false))))
 (.seq
 (.seq
 (.call (some 3) 22 [(.ld (some 4) (.var 2))] [])
 (.set 1 (.bin .neq (.var 3) (.const (.int .i64 0)))))
 .ret)),
  [(.var 1)]⟩
theorem okx_21 : FnOk Tryz.prog 0 125 21 xf21 := fnOk_of Tryz.func21 (np := 1) (V := [0, 2, 1, 4]) (ks := []) (by kernel_rfl)

/- tipstaff/bmap.Check -/
def xf22 : XF := ⟨1, [0, 2, 1, 6, 10, 3, 13, 14, 22, 29, 31, 40, 46],
  (.seq
 (.seq
 (.new (some 2) 53 (.var 0))
 (.set 1 (.const (.int .i64 0))))
 (.seq
 (.seq
 (.call (some 3) 30 [(.ld none (.offp 2 (.var 2))), (.const (.int .i64 1)), (.const (.int .i64 64))] [])
 (.seq
 (.chk [(.pick (.var 3) (.ld none (.offp 3 (.var 2))) (.const (.bool false)))])
 (.seq
 (.cond (.pick (.var 3) (.const (.bool true)) (.const (.bool false)))
 (.call (some 4) 30 [(.ld none (.offp 3 (.var 2))), (.const (.int .i64 1)), (.const (.int .i64 64))] [])
 (.clr [4]))
 (.set 5 (.pick (.var 3) (.var 4) (.const (.bool false)))))))
 (.seq
 (.seq
 (.set 6 (.ld none (.offp 0 (.var 2))))
 (.block 0
 (.seq
 (.set 7 (.bin .eql (.var 6) (.const (.int .i64 0))))
 (.cond (.var 7)
 (.set 5 (.pick (.var 5) (.bin .eql (.ld none (.offp 1 (.var 2))) (.const (.int .i64 4))) (.const (.bool false))))
 (.seq
 (.seq
 (.set 8 (.bin .eql (.var 6) (.const (.int .i64 1))))
 (.cond (.var 8)
 .skip
 (.set 8 (.bin .eql (.var 6) (.const (.int .i64 2))))))
 (.cond (.var 8)
 (.seq
 (.chk [(.pick (.var 5) (.ld none (.offp 1 (.var 2))) (.const (.bool false)))])
 (.seq
 (.cond (.pick (.var 5) (.const (.bool true)) (.const (.bool false)))
 (.call (some 9) 30 [(.ld none (.offp 1 (.var 2))), (.const (.int .i64 1)), (.const (.int .i64 16))] [])
 (.clr [9]))
 (.set 5 (.pick (.var 5) (.var 9) (.const (.bool false))))))
 (.seq
 (.seq
 (.set 10 (.bin .eql (.var 6) (.const (.int .i64 3))))
 (.cond (.var 10)
 .skip
 (.set 10 (.bin .eql (.var 6) (.const (.int .i64 4))))))
 (.cond (.var 10)
 (.set 5 (.pick (.var 5) (.bin .eql (.ld none (.offp 1 (.var 2))) (.const (.int .i64 0))) (.const (.bool false))))
 (.seq
 (.set 11 (.bin .eql (.var 6) (.const (.int .i64 5))))
 (.cond (.var 11)
 (.seq
 (.chk [(.pick (.var 5) (.ld none (.offp 1 (.var 2))) (.const (.bool false)))])
 (.seq
 (.cond (.pick (.var 5) (.const (.bool true)) (.const (.bool false)))
 (.call (some 12) 30 [(.ld none (.offp 1 (.var 2))), (.const (.int .i64 5)), (.const (.int .i64 16))] [])
 (.clr [12]))
 (.set 5 (.pick (.var 5) (.var 12) (.const (.bool false))))))
 (.set 5 (.const (.bool false)))))))))))))
 (.seq
 (.cond (.un .not (.var 5))
 (.seq
 (.set 1 (.const (.int .i64 22)))
 .ret)
 .skip)
 (.seq
 (.set 1 (.const (.int .i64 0)))
 .ret))))),
  [(.var 1)]⟩
theorem okx_22 : FnOk Tryz.prog 0 125 22 xf22 := fnOk_of Tryz.func22 (np := 1) (V := [0, 2, 1, 6, 10, 3, 13, 14, 22, 29, 31, 40, 46]) (ks := []) (by kernel_rfl)

/- tipstaff/absreg.Start -/
def xf23 : XF := ⟨0, [0, 1],
  (.seq
 (.new (some 0) 80 (.const zA9))
 (.seq
 (.new (some 1) 80 (.const zA9))
 (.seq
 (.seq
 (.chk [(.upd 0 1 (.const zA4) (.const (.int .i64 2)))])
 (.store 11 (.ixArr 11 11 (.offp 0 (.var 1)) (.const (.int .i64 1))) (.upd 0 1 (.const zA4) (.const (.int .i64 2))) []))
 (.seq
 (.seq
 (.chk [(.upd 0 1 (.const zA4) (.const (.int .i64 3)))])
 (.store 11 (.ixArr 11 11 (.offp 0 (.var 1)) (.const (.int .i64 10))) (.upd 0 1 (.const zA4) (.const (.int .i64 3))) []))
 (.seq
 (.store 273 (.var 0) (.ld (some 273) (.var 1)) [])
 .ret))))),
  [(.ld (some 273) (.var 0))]⟩
theorem okx_23 : FnOk Tryz.prog 0 125 23 xf23 := fnOk_of Tryz.func23 (np := 0) (V := [0, 1]) (ks := []) (by kernel_rfl)

/- (*tipstaff/verify.checker).run -/
def xf24 : XF := ⟨2, [0, 1, 4, 5, 6, 7, 8, 29, 41, 61, 63, 64, 65, 52, 54, 58, 60, 71, 9, 10, 86],
  (.seq
 (.seq
 (.new (some 2) 33 (.const (.agg #[(.int .i64 0), (.int .i64 0)])))
 (.set 3 (.const (.int .i64 0))))
 (.seq
 (.set 4 (.const (.int .i64 0)))
 (.seq
 (.block 0
 (.loop [0, 1, 2, 4]
 (.seq
 (.cond (.bin .gtr (.len false (.ld none (.offp 4 (.nn (.var 0))))) (.const (.int .i64 0)))
 .skip
 (.exit 0))
 (.block 1
 (.seq
 (.set 5 (.bin .sub (.len false (.ld none (.offp 4 (.nn (.var 0))))) (.const (.int .i64 1))))
 (.seq
 (.seq
 (.set 7 (.ld (some 274) (.ixSl 274 (.ld none (.offp 4 (.nn (.var 0)))) (.var 5))))
 (.seq
 (.new (some 6) 83 (.const zA10))
 (.store 274 (.var 6) (.var 7) [])))
 (.seq
 (.store 1 (.offp 4 (.nn (.var 0))) (.slSl 274 (.ld none (.offp 4 (.nn (.var 0)))) (.const (.int .i64 0)) (.var 5)) [])
 (.seq
 (.seq
 (.call (some 8) 31 [(.var 0), (.ld (some 274) (.var 6))] [])
 (.cond (.var 8)
 (.exit 1)
 .skip))
 (.seq
 (.cond (.bin .eql (.var 4) (.var 1))
 (.seq
 (.seq
 (.chk [(.upd 1 1 (.upd 0 1 (.const (.agg #[(.int .i64 0), (.int .i64 0)])) (.ld none (.offp 0 (.var 6)))) (.var 4))])
 (.seq
 (.store 2 (.var 2) (.upd 1 1 (.upd 0 1 (.const (.agg #[(.int .i64 0), (.int .i64 0)])) (.ld none (.offp 0 (.var 6)))) (.var 4)) [])
 (.set 3 (.const (.int .i64 7)))))
 .ret)
 .skip)
 (.seq
 (.seq
 .skip
 (.seq
 (.set 13 (.ld none (.offp 5 (.nn (.var 0)))))
 (.seq
 (.set 14 (.ld none (.offp 0 (.var 6))))
 (.seq
 (.set 15 (.ld none (.offp 5 (.nn (.var 0)))))
 (.seq
 (.set 16 (.ld none (.offp 0 (.var 6))))
 (.seq
 (.set 10 (.ld (some 273) (.offp 1 (.var 6))))
 (.seq
 (.resv 1)
 (.seq
 (.clr [11])
 (.seq
 (.chk [(.upd 0 273 (.const zA9) (.var 10))])
 (.seq
 (.look (some 9) (.slice none 0 0) false .i64 (.var 15) (.var 16) [(.ld (some 273) (.offp 1 (.var 6))), (.ld none (.offp 0 (.var 6))), (.ld none (.offp 5 (.nn (.var 0)))), (.ld none (.offp 0 (.var 6))), (.ld none (.offp 5 (.nn (.var 0))))])
 (.seq
 (.rowR 0 11 80 1 (.upd 0 273 (.const zA9) (.var 10)))
 (.seq
 (.app (some 12) 80 273 (.var 9) (.var 11) [(.ld none (.offp 0 (.var 6))), (.ld none (.offp 5 (.nn (.var 0))))])
 (.seq
 (.upd .i64 (.var 13) (.var 14) (.var 12) [])
 .skip)))))))))))))
 (.seq
 (.set 4 (.bin .add (.var 4) (.const (.int .i64 1))))
 (.seq
 (.seq
 (.call (some 17) 32 [(.var 0), (.ld (some 274) (.var 6))] [])
 (.seq
 (.chk [(.proj 1 (.var 17))])
 (.seq
 (.set 18 (.proj 0 (.var 17)))
 (.set 19 (.proj 1 (.var 17))))))
 (.seq
 (.cond (.un .not (.var 19))
 (.seq
 (.seq
 (.chk [(.upd 1 1 (.upd 0 1 (.const (.agg #[(.int .i64 0), (.int .i64 0)])) (.ld none (.offp 0 (.var 6)))) (.var 4))])
 (.seq
 (.store 2 (.var 2) (.upd 1 1 (.upd 0 1 (.const (.agg #[(.int .i64 0), (.int .i64 0)])) (.ld none (.offp 0 (.var 6)))) (.var 4)) [])
 (.set 3 (.const (.int .i64 13)))))
 .ret)
 .skip)
 (.seq
 (.app (some 20) 83 274 (.ld none (.offp 4 (.nn (.var 0)))) (.var 18) [])
 (.store 1 (.offp 4 (.nn (.var 0))) (.var 20) [])))))))))))))))
 (.seq
 (.seq
 (.chk [(.upd 1 1 (.upd 0 1 (.const (.agg #[(.int .i64 0), (.int .i64 0)])) (.const (.int .i64 0))) (.var 4))])
 (.seq
 (.store 2 (.var 2) (.upd 1 1 (.upd 0 1 (.const (.agg #[(.int .i64 0), (.int .i64 0)])) (.const (.int .i64 0))) (.var 4)) [])
 (.set 3 (.const (.int .i64 0)))))
 .ret)))),
  [(.ld (some 2) (.var 2)), (.var 3)]⟩
theorem okx_24 : FnOk Tryz.prog 0 125 24 xf24 := fnOk_of Tryz.func24 (np := 2) (V := [0, 1, 4, 5, 6, 7, 8, 29, 41, 61, 63, 64, 65, 52, 54, 58, 60, 71, 9, 10, 86]) (ks := [[0, 1, 2, 4]]) (by kernel_rfl)

/- tipstaff/shape.Check -/
def xf25 : XF := ⟨1, [0, 2, 3, 8, 12, 18, 17, 4, 23, 29, 28, 5, 34, 6, 45, 7],
  (.seq
 (.seq
 (.set 1 (.const (.int .i64 0)))
 (.set 2 (.const (.int .i64 0))))
 (.seq
 (.block 0
 (.seq
 (.set 3 (.bin .gtr (.len false (.var 0)) (.const (.int .i64 256))))
 (.cond (.var 3)
 (.seq
 (.seq
 (.set 1 (.const (.int .i64 0)))
 (.set 2 (.const (.int .i64 7))))
 .ret)
 (.seq
 (.set 4 (.bin .eql (.len false (.var 0)) (.const (.int .i64 0))))
 (.cond (.var 4)
 (.seq
 (.seq
 (.set 1 (.const (.int .i64 0)))
 (.set 2 (.const (.int .i64 22))))
 .ret)
 .skip)))))
 (.seq
 (.seq
 (.seq
 (.set 6 (.len false (.var 0)))
 (.set 5 (.const (.int .i64 0))))
 (.block 1
 (.loop [0, 5, 6]
 (.seq
 (.cond (.bin .lss (.var 5) (.var 6))
 .skip
 (.exit 1))
 (.seq
 (.block 2
 (.seq
 (.set 7 (.var 5))
 (.seq
 (.call (some 8) 33 [(.var 0), (.var 7)] [])
 (.cond (.un .not (.var 8))
 (.seq
 (.seq
 (.set 1 (.var 7))
 (.set 2 (.const (.int .i64 22))))
 .ret)
 .skip))))
 (.set 5 (.bin .add (.var 5) (.const (.int .i64 1)))))))))
 (.seq
 (.seq
 (.seq
 (.set 10 (.len false (.var 0)))
 (.set 9 (.const (.int .i64 0))))
 (.block 3
 (.loop [0, 9, 10]
 (.seq
 (.cond (.bin .lss (.var 9) (.var 10))
 .skip
 (.exit 3))
 (.seq
 (.block 4
 (.seq
 (.set 11 (.var 9))
 (.seq
 (.call (some 12) 34 [(.var 0), (.var 11)] [])
 (.cond (.un .not (.var 12))
 (.seq
 (.seq
 (.set 1 (.var 11))
 (.set 2 (.const (.int .i64 22))))
 .ret)
 .skip))))
 (.set 9 (.bin .add (.var 9) (.const (.int .i64 1)))))))))
 (.seq
 (.set 13 (.bin .sub (.len false (.var 0)) (.const (.int .i64 1))))
 (.seq
 (.seq
 (.seq
 (.call (some 14) 35 [(.ld (some 5) (.ixSl 5 (.var 0) (.var 13)))] [])
 (.set 15 (.var 14)))
 (.cond (.pick (.bin .neq (.var 15) (.const (.int .i64 5))) (.bin .neq (.var 15) (.const (.int .i64 3))) (.const (.bool false)))
 (.seq
 (.seq
 (.set 1 (.var 13))
 (.set 2 (.const (.int .i64 22))))
 .ret)
 .skip))
 (.seq
 (.seq
 (.set 1 (.const (.int .i64 0)))
 (.set 2 (.const (.int .i64 0))))
 .ret))))))),
  [(.var 1), (.var 2)]⟩
theorem okx_25 : FnOk Tryz.prog 0 125 25 xf25 := fnOk_of Tryz.func25 (np := 1) (V := [0, 2, 3, 8, 12, 18, 17, 4, 23, 29, 28, 5, 34, 6, 45, 7]) (ks := [[0, 5, 6], [0, 9, 10]]) (by kernel_rfl)

/- slices.Index[[]bool,bool] -/
def xf26 : XF := ⟨2, [0, 1, 4, 8, 7, 5],
  (.seq
 (.set 2 (.const (.int .i64 0)))
 (.seq
 (.seq
 (.seq
 (.set 4 (.len false (.var 0)))
 (.set 3 (.const (.int .i64 0))))
 (.block 0
 (.loop [0, 1, 3, 4]
 (.seq
 (.cond (.bin .lss (.var 3) (.var 4))
 .skip
 (.exit 0))
 (.seq
 (.block 1
 (.seq
 (.set 5 (.var 3))
 (.cond (.eqx false .bool (.var 1) (.ld none (.ixSl 1 (.var 0) (.var 5))))
 (.seq
 (.set 2 (.var 5))
 .ret)
 .skip)))
 (.set 3 (.bin .add (.var 3) (.const (.int .i64 1)))))))))
 (.seq
 (.set 2 (.const (.int .i64 (-1))))
 .ret))),
  [(.var 2)]⟩
theorem okx_26 : FnOk Tryz.prog 0 125 26 xf26 := fnOk_of Tryz.func26 (np := 2) (V := [0, 1, 4, 8, 7, 5]) (ks := [[0, 1, 3, 4]]) (by kernel_rfl)

/- tipstaff/cfg.Reach -/
def xf27 : XF := ⟨1, [0, 2, 8, 3, 11, 4, 17, 16, 15, 5, 6, 34, 43],
  (.seq
 (.set 1 (.const (.slice none 0 0)))
 (.seq
 (.seq
 (.call (some 2) 36 [(.var 0)] [])
 (.set 3 (.var 2)))
 (.seq
 (.seq
 (.mk (some 4) 4 [(.bool false)] (.len false (.var 0)) (.len false (.var 0)) [])
 (.set 5 (.var 4)))
 (.seq
 (.seq
 (.seq
 (.set 8 (.ld none (.offp 1 (.nn (.var 3)))))
 (.seq
 (.set 7 (.len false (.var 8)))
 (.set 6 (.const (.int .i64 0)))))
 (.block 0
 (.loop [0, 5, 6, 7, 8]
 (.seq
 (.cond (.bin .lss (.var 6) (.var 7))
 .skip
 (.exit 0))
 (.seq
 (.block 1
 (.seq
 (.seq
 (.chk [(.ld none (.ixSl 1 (.var 8) (.var 6)))])
 (.seq
 (.set 9 (.var 6))
 (.set 10 (.ld none (.ixSl 1 (.var 8) (.var 6))))))
 (.seq
 (.store 1 (.ixSl 1 (.var 5) (.var 9)) (.bin .eql (.var 10) (.const (.int .i64 2))) [])
 (.seq
 (.seq
 (.chk [(.pick (.bin .gtr (.var 9) (.const (.int .i64 0))) (.ld (some 5) (.ixSl 5 (.var 0) (.var 9))) (.const (.bool false)))])
 (.seq
 (.cond (.pick (.bin .gtr (.var 9) (.const (.int .i64 0))) (.const (.bool true)) (.const (.bool false)))
 (.call (some 11) 37 [(.ld (some 5) (.ixSl 5 (.var 0) (.var 9)))] [])
 (.clr [11]))
 (.seq
 (.chk [(.pick (.pick (.bin .gtr (.var 9) (.const (.int .i64 0))) (.bin .eql (.var 11) (.const (.int .i64 10))) (.const (.bool false))) (.ld (some 5) (.ixSl 5 (.var 0) (.bin .sub (.var 9) (.const (.int .i64 1))))) (.const (.bool false)))])
 (.cond (.pick (.pick (.bin .gtr (.var 9) (.const (.int .i64 0))) (.bin .eql (.var 11) (.const (.int .i64 10))) (.const (.bool false))) (.const (.bool true)) (.const (.bool false)))
 (.call (some 12) 37 [(.ld (some 5) (.ixSl 5 (.var 0) (.bin .sub (.var 9) (.const (.int .i64 1)))))] [])
 (.clr [12])))))
 (.cond (.pick (.pick (.bin .gtr (.var 9) (.const (.int .i64 0))) (.bin .eql (.var 11) (.const (.int .i64 10))) (.const (.bool false))) (.bin .eql (.var 12) (.const (.int .i64 9))) (.const (.bool false)))
 (.store 1 (.ixSl 1 (.var 5) (.var 9)) (.pick (.ld none (.ixSl 1 (.var 5) (.var 9))) (.const (.bool true)) (.ld none (.ixSl 1 (.var 5) (.bin .sub (.var 9) (.const (.int .i64 1)))))) [])
 .skip)))))
 (.set 6 (.bin .add (.var 6) (.const (.int .i64 1)))))))))
 (.seq
 (.set 1 (.var 5))
 .ret))))),
  [(.var 1)]⟩
theorem okx_27 : FnOk Tryz.prog 0 125 27 xf27 := fnOk_of Tryz.func27 (np := 1) (V := [0, 2, 8, 3, 11, 4, 17, 16, 15, 5, 6, 34, 43]) (ks := [[0, 5, 6, 7, 8]]) (by kernel_rfl)
end Go.Proofs.YtfdeipckfdogfaaGreat
