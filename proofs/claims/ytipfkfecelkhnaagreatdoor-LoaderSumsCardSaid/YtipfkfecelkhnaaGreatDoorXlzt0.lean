/- The interpreter's functions, part 0: made by program (geny.py). -/
import Derived.Test.YtipfkfecelkhnaaGreatDoorXlzz
import Derived.Test.YtipfkfecelkhnaaGreatDoorProg
set_option maxRecDepth 100000
set_option linter.unusedVariables false
namespace Go.Proofs.YtipfkfecelkhnaaGreatDoor
open Go.Eng
def cm4 : Cmd :=
  (.seq
 (.set 3 (.const (.bool false)))
 (.seq
 (.seq
 (.chk [(.upd 3 1 (.upd 2 1 (.upd 1 1 (.upd 0 1 (.const (.agg (Array.replicate 4 (.int .i64 0)))) (.const (.int .i64 1))) (.const (.int .i64 1))) (.const (.int .i64 2))) (.const (.int .i64 3)))])
 (.seq
 (.call (some 4) 15 [(.upd 3 1 (.upd 2 1 (.upd 1 1 (.upd 0 1 (.const (.agg (Array.replicate 4 (.int .i64 0)))) (.const (.int .i64 1))) (.const (.int .i64 1))) (.const (.int .i64 2))) (.const (.int .i64 3)))] [])
 (.seq
 (.chk [(.proj 1 (.var 4))])
 (.seq
 (.set 5 (.proj 0 (.var 4)))
 (.set 6 (.proj 1 (.var 4)))))))
 (.seq
 (.seq
 (.chk [(.upd 3 1 (.upd 2 1 (.upd 1 1 (.upd 0 1 (.const (.agg (Array.replicate 4 (.int .i64 0)))) (.const (.int .i64 1))) (.const (.int .i64 1))) (.const (.int .i64 2))) (.const (.int .i64 3)))])
 (.seq
 (.call (some 7) 15 [(.upd 3 1 (.upd 2 1 (.upd 1 1 (.upd 0 1 (.const (.agg (Array.replicate 4 (.int .i64 0)))) (.const (.int .i64 1))) (.const (.int .i64 1))) (.const (.int .i64 2))) (.const (.int .i64 3)))] [])
 (.seq
 (.chk [(.proj 1 (.var 7))])
 (.seq
 (.set 8 (.proj 0 (.var 7)))
 (.set 9 (.proj 1 (.var 7)))))))
 (.seq
 (.seq
 (.call (some 10) 16 [] [])
 (.cond (.pick (.pick (.un .not (.var 10)) (.const (.bool true)) (.bin .neq (.var 6) (.const (.int .i64 0)))) (.const (.bool true)) (.bin .neq (.var 9) (.const (.int .i64 0))))
 (.seq
 (.set 3 (.const (.bool false)))
 .ret)
 .skip))
 (.seq
 (.seq
 (.set 11 (.const (.int .i64 0)))
 (.block 0
 (.loop [0, 1, 2, 5, 8, 11]
 (.seq
 (.cond (.pick (.bin .lss (.var 11) (.len false (.var 2))) (.bin .lss (.var 11) (.const (.int .i64 3))) (.const (.bool false)))
 .skip
 (.exit 0))
 (.seq
 (.block 1
 (.seq
 (.seq
 (.chk [(.var 5)])
 (.seq
 (.row (some 12) 5 1 (.upd 0 1 (.const (.agg #[(.int .u8 0)])) (.conv .u8 (.var 11))) [])
 (.seq
 (.row (some 13) 5 2 (.upd 1 1 (.upd 0 1 (.const (.agg #[(.int .u8 0), (.int .u8 0)])) (.ld none (.ixSl 1 (.var 2) (.var 11)))) (.const (.int .u8 1))) [])
 (.seq
 (.call (some 14) 17 [(.var 5), (.var 12), (.var 13), (.const (.int .u64 0))] [])
 (.seq
 (.chk [(.pick (.bin .neq (.var 14) (.const (.int .i64 0))) (.const (.bool false)) (.conv .u8 (.var 11))), (.pick (.bin .neq (.var 14) (.const (.int .i64 0))) (.const (.bool false)) (.var 8))])
 (.seq
 (.cond (.pick (.bin .neq (.var 14) (.const (.int .i64 0))) (.const (.bool false)) (.const (.bool true)))
 (.row (some 15) 5 1 (.upd 0 1 (.const (.agg #[(.int .u8 0)])) (.conv .u8 (.var 11))) [])
 (.clr [15]))
 (.seq
 (.chk [(.pick (.bin .neq (.var 14) (.const (.int .i64 0))) (.const (.bool false)) (.ld none (.ixSl 1 (.var 2) (.var 11))))])
 (.seq
 (.cond (.pick (.bin .neq (.var 14) (.const (.int .i64 0))) (.const (.bool false)) (.const (.bool true)))
 (.row (some 16) 5 2 (.upd 1 1 (.upd 0 1 (.const (.agg #[(.int .u8 0), (.int .u8 0)])) (.ld none (.ixSl 1 (.var 2) (.var 11)))) (.const (.int .u8 1))) [])
 (.clr [16]))
 (.cond (.pick (.bin .neq (.var 14) (.const (.int .i64 0))) (.const (.bool false)) (.const (.bool true)))
 (.call (some 17) 17 [(.var 8), (.var 15), (.var 16), (.const (.int .u64 0))] [])
 (.clr [17]))))))))))
 (.cond (.pick (.bin .neq (.var 14) (.const (.int .i64 0))) (.const (.bool true)) (.bin .neq (.var 17) (.const (.int .i64 0))))
 (.seq
 (.set 3 (.const (.bool false)))
 .ret)
 .skip)))
 (.set 11 (.bin .add (.var 11) (.const (.int .i64 1)))))))))
 (.seq
 (.call none 18 [(.var 8)] [])
 (.seq
 (.seq
 (.chk [(.upd 4 1 (.upd 2 1 (.upd 1 1 (.upd 0 1 (.const zA2) (.const (.int .u8 24))) (.const (.int .u8 6))) (.const (.int .u8 1))) (.var 0))])
 (.seq
 (.row (some 18) 46 2 (.upd 5 5 (.upd 0 5 (.const zA8) (.upd 4 1 (.upd 2 1 (.upd 1 1 (.upd 0 1 (.const zA2) (.const (.int .u8 24))) (.const (.int .u8 6))) (.const (.int .u8 1))) (.var 0))) (.const zA2)) [])
 (.seq
 (.call (some 19) 19 [(.const (.int .i32 1))] [])
 (.seq
 (.bi (some 20) .append [37, 37] 37 [(.var 18), (.var 19)] [])
 (.set 21 (.var 20))))))
 (.seq
 (.seq
 (.chk [(.upd 4 1 (.upd 2 1 (.upd 1 1 (.upd 0 1 (.const zA2) (.const (.int .u8 24))) (.const (.int .u8 6))) (.const (.int .u8 1))) (.bin .xor (.var 0) (.var 1)))])
 (.seq
 (.row (some 22) 46 2 (.upd 5 5 (.upd 0 5 (.const zA8) (.upd 4 1 (.upd 2 1 (.upd 1 1 (.upd 0 1 (.const zA2) (.const (.int .u8 24))) (.const (.int .u8 6))) (.const (.int .u8 1))) (.bin .xor (.var 0) (.var 1)))) (.const zA2)) [])
 (.seq
 (.call (some 23) 19 [(.const (.int .i32 1))] [])
 (.seq
 (.bi (some 24) .append [37, 37] 37 [(.var 22), (.var 23)] [])
 (.set 25 (.var 24))))))
 (.seq
 (.seq
 (.chk [(.upd 1 1 (.const zA1) (.var 21))])
 (.seq
 (.row (some 26) 56 1 (.upd 0 1 (.const (.agg #[(.pointer none)])) (.var 5)) [])
 (.seq
 (.call (some 27) 20 [(.upd 1 1 (.const zA1) (.var 21)), (.var 26)] [])
 (.seq
 (.chk [(.proj 1 (.var 27)), (.proj 0 (.var 27))])
 (.seq
 (.new (some 28) 40 (.const (.agg (Array.replicate 32 (.int .u8 0)))) [])
 (.seq
 (.store 32 (.var 28) (.proj 0 (.var 27)) [])
 (.set 29 (.proj 1 (.var 27)))))))))
 (.seq
 (.seq
 (.chk [(.var 25)])
 (.seq
 (.row (some 30) 5 1 (.upd 0 1 (.const (.agg #[(.int .u8 0)])) (.const (.int .u8 1))) [])
 (.seq
 (.chk [(.upd 3 1 (.upd 2 1 (.upd 1 1 (.upd 0 1 (.const zA1) (.const (.int .i64 3))) (.var 25)) (.const (.bool true))) (.var 30))])
 (.seq
 (.row (some 31) 56 1 (.upd 0 1 (.const (.agg #[(.pointer none)])) (.var 8)) [])
 (.seq
 (.call (some 32) 20 [(.upd 3 1 (.upd 2 1 (.upd 1 1 (.upd 0 1 (.const zA1) (.const (.int .i64 3))) (.var 25)) (.const (.bool true))) (.var 30)), (.var 31)] [])
 (.seq
 (.chk [(.proj 1 (.var 32)), (.proj 0 (.var 32))])
 (.seq
 (.new (some 33) 40 (.const (.agg (Array.replicate 32 (.int .u8 0)))) [])
 (.seq
 (.store 32 (.var 33) (.proj 0 (.var 32)) [])
 (.set 34 (.proj 1 (.var 32)))))))))))
 (.seq
 (.seq
 (.chk [(.upd 1 1 (.const zA1) (.var 21))])
 (.seq
 (.call (some 35) 20 [(.upd 1 1 (.const zA1) (.var 21)), (.const (.slice none 0 0))] [])
 (.seq
 (.chk [(.proj 1 (.var 35)), (.proj 0 (.var 35))])
 (.seq
 (.new (some 36) 40 (.const (.agg (Array.replicate 32 (.int .u8 0)))) [])
 (.seq
 (.store 32 (.var 36) (.proj 0 (.var 35)) [])
 (.set 37 (.proj 1 (.var 35))))))))
 (.seq
 (.seq
 (.chk [(.upd 1 1 (.const zA1) (.var 21))])
 (.seq
 (.row (some 38) 56 1 (.upd 0 1 (.const (.agg #[(.pointer none)])) (.const (.pointer none))) [])
 (.seq
 (.call (some 39) 20 [(.upd 1 1 (.const zA1) (.var 21)), (.var 38)] [])
 (.seq
 (.chk [(.proj 1 (.var 39)), (.proj 0 (.var 39))])
 (.seq
 (.new (some 40) 40 (.const (.agg (Array.replicate 32 (.int .u8 0)))) [])
 (.seq
 (.store 32 (.var 40) (.proj 0 (.var 39)) [])
 (.set 41 (.proj 1 (.var 39)))))))))
 (.seq
 (.set 3 (.pick (.pick (.pick (.pick (.bin .eql (.var 29) (.const (.int .i64 0))) (.bin .eql (.var 34) (.const (.int .i64 0))) (.const (.bool false))) (.eqx false (.cons 0 none .int (.cons 1 none .int (.cons 2 none .int (.cons 3 none .int (.cons 4 none .int (.cons 5 none .int (.cons 6 none .int (.cons 7 none .int (.cons 8 none .int (.cons 9 none .int (.cons 10 none .int (.cons 11 none .int (.cons 12 none .int (.cons 13 none .int (.cons 14 none .int (.cons 15 none .int (.cons 16 none .int (.cons 17 none .int (.cons 18 none .int (.cons 19 none .int (.cons 20 none .int (.cons 21 none .int (.cons 22 none .int (.cons 23 none .int (.cons 24 none .int (.cons 25 none .int (.cons 26 none .int (.cons 27 none .int (.cons 28 none .int (.cons 29 none .int (.cons 30 none .int (.cons 31 none .int .nil)))))))))))))))))))))))))))))))) (.ld (some 32) (.var 28)) (.ld (some 32) (.var 33))) (.const (.bool false))) (.bin .eql (.var 37) (.const (.int .i64 22))) (.const (.bool false))) (.bin .eql (.var 41) (.const (.int .i64 22))) (.const (.bool false))))
 .ret)))))))))))))
def xf4 : XF := ⟨3, [0, 1, 2, 6, 24, 7, 8, 29, 9, 10, 32, 11, 55, 60, 61, 67, 72, 73, 81, 82, 83, 12, 89, 90, 91, 13, 96, 97, 14, 15, 102, 105, 106, 16, 17, 112, 18, 19, 118, 119, 20, 21],
  (.seq
 (.set 3 (.const (.bool false)))
 (.seq
 (.seq
 (.chk [(.upd 3 1 (.upd 2 1 (.upd 1 1 (.upd 0 1 (.const (.agg (Array.replicate 4 (.int .i64 0)))) (.const (.int .i64 1))) (.const (.int .i64 1))) (.const (.int .i64 2))) (.const (.int .i64 3)))])
 (.seq
 (.call (some 4) 15 [(.upd 3 1 (.upd 2 1 (.upd 1 1 (.upd 0 1 (.const (.agg (Array.replicate 4 (.int .i64 0)))) (.const (.int .i64 1))) (.const (.int .i64 1))) (.const (.int .i64 2))) (.const (.int .i64 3)))] [])
 (.seq
 (.chk [(.proj 1 (.var 4))])
 (.seq
 (.set 5 (.proj 0 (.var 4)))
 (.set 6 (.proj 1 (.var 4)))))))
 (.seq
 (.seq
 (.chk [(.upd 3 1 (.upd 2 1 (.upd 1 1 (.upd 0 1 (.const (.agg (Array.replicate 4 (.int .i64 0)))) (.const (.int .i64 1))) (.const (.int .i64 1))) (.const (.int .i64 2))) (.const (.int .i64 3)))])
 (.seq
 (.call (some 7) 15 [(.upd 3 1 (.upd 2 1 (.upd 1 1 (.upd 0 1 (.const (.agg (Array.replicate 4 (.int .i64 0)))) (.const (.int .i64 1))) (.const (.int .i64 1))) (.const (.int .i64 2))) (.const (.int .i64 3)))] [])
 (.seq
 (.chk [(.proj 1 (.var 7))])
 (.seq
 (.set 8 (.proj 0 (.var 7)))
 (.set 9 (.proj 1 (.var 7)))))))
 (.seq
 (.seq
 (.call (some 10) 16 [] [])
 (.cond (.pick (.pick (.un .not (.var 10)) (.const (.bool true)) (.bin .neq (.var 6) (.const (.int .i64 0)))) (.const (.bool true)) (.bin .neq (.var 9) (.const (.int .i64 0))))
 (.seq
 (.set 3 (.const (.bool false)))
 .ret)
 .skip))
 (.seq
 (.seq
 (.set 11 (.const (.int .i64 0)))
 (.block 0
 (.loop [0, 1, 2, 5, 8, 11]
 (.seq
 (.cond (.pick (.bin .lss (.var 11) (.len false (.var 2))) (.bin .lss (.var 11) (.const (.int .i64 3))) (.const (.bool false)))
 .skip
 (.exit 0))
 (.seq
 (.block 1
 (.seq
 (.seq
 (.chk [(.var 5)])
 (.seq
 (.row (some 12) 5 1 (.upd 0 1 (.const (.agg #[(.int .u8 0)])) (.conv .u8 (.var 11))))
 (.seq
 (.row (some 13) 5 2 (.upd 1 1 (.upd 0 1 (.const (.agg #[(.int .u8 0), (.int .u8 0)])) (.ld none (.ixSl 1 (.var 2) (.var 11)))) (.const (.int .u8 1))))
 (.seq
 (.call (some 14) 17 [(.var 5), (.var 12), (.var 13), (.const (.int .u64 0))] [])
 (.seq
 (.chk [(.pick (.bin .neq (.var 14) (.const (.int .i64 0))) (.const (.bool false)) (.conv .u8 (.var 11))), (.pick (.bin .neq (.var 14) (.const (.int .i64 0))) (.const (.bool false)) (.var 8))])
 (.seq
 (.cond (.pick (.bin .neq (.var 14) (.const (.int .i64 0))) (.const (.bool false)) (.const (.bool true)))
 (.row (some 15) 5 1 (.upd 0 1 (.const (.agg #[(.int .u8 0)])) (.conv .u8 (.var 11))))
 (.clr [15]))
 (.seq
 (.chk [(.pick (.bin .neq (.var 14) (.const (.int .i64 0))) (.const (.bool false)) (.ld none (.ixSl 1 (.var 2) (.var 11))))])
 (.seq
 (.cond (.pick (.bin .neq (.var 14) (.const (.int .i64 0))) (.const (.bool false)) (.const (.bool true)))
 (.row (some 16) 5 2 (.upd 1 1 (.upd 0 1 (.const (.agg #[(.int .u8 0), (.int .u8 0)])) (.ld none (.ixSl 1 (.var 2) (.var 11)))) (.const (.int .u8 1))))
 (.clr [16]))
 (.cond (.pick (.bin .neq (.var 14) (.const (.int .i64 0))) (.const (.bool false)) (.const (.bool true)))
 (.call (some 17) 17 [(.var 8), (.var 15), (.var 16), (.const (.int .u64 0))] [])
 (.clr [17]))))))))))
 (.cond (.pick (.bin .neq (.var 14) (.const (.int .i64 0))) (.const (.bool true)) (.bin .neq (.var 17) (.const (.int .i64 0))))
 (.seq
 (.set 3 (.const (.bool false)))
 .ret)
 .skip)))
 (.set 11 (.bin .add (.var 11) (.const (.int .i64 1)))))))))
 (.seq
 (.call none 18 [(.var 8)] [])
 (.seq
 (.seq
 (.chk [(.upd 4 1 (.upd 2 1 (.upd 1 1 (.upd 0 1 (.const zA2) (.const (.int .u8 24))) (.const (.int .u8 6))) (.const (.int .u8 1))) (.var 0))])
 (.seq
 (.row (some 18) 46 2 (.upd 5 5 (.upd 0 5 (.const zA8) (.upd 4 1 (.upd 2 1 (.upd 1 1 (.upd 0 1 (.const zA2) (.const (.int .u8 24))) (.const (.int .u8 6))) (.const (.int .u8 1))) (.var 0))) (.const zA2)))
 (.seq
 (.call (some 19) 19 [(.const (.int .i32 1))] [])
 (.seq
 (.app (some 20) 46 5 (.var 18) (.var 19) [])
 (.set 21 (.var 20))))))
 (.seq
 (.seq
 (.chk [(.upd 4 1 (.upd 2 1 (.upd 1 1 (.upd 0 1 (.const zA2) (.const (.int .u8 24))) (.const (.int .u8 6))) (.const (.int .u8 1))) (.bin .xor (.var 0) (.var 1)))])
 (.seq
 (.row (some 22) 46 2 (.upd 5 5 (.upd 0 5 (.const zA8) (.upd 4 1 (.upd 2 1 (.upd 1 1 (.upd 0 1 (.const zA2) (.const (.int .u8 24))) (.const (.int .u8 6))) (.const (.int .u8 1))) (.bin .xor (.var 0) (.var 1)))) (.const zA2)))
 (.seq
 (.call (some 23) 19 [(.const (.int .i32 1))] [])
 (.seq
 (.app (some 24) 46 5 (.var 22) (.var 23) [])
 (.set 25 (.var 24))))))
 (.seq
 (.seq
 (.chk [(.upd 1 1 (.const zA1) (.var 21))])
 (.seq
 (.row (some 26) 56 1 (.upd 0 1 (.const (.agg #[(.pointer none)])) (.var 5)))
 (.seq
 (.call (some 27) 20 [(.upd 1 1 (.const zA1) (.var 21)), (.var 26)] [])
 (.seq
 (.chk [(.proj 1 (.var 27)), (.proj 0 (.var 27))])
 (.seq
 (.new (some 28) 40 (.const (.agg (Array.replicate 32 (.int .u8 0)))))
 (.seq
 (.store 32 (.var 28) (.proj 0 (.var 27)) [])
 (.set 29 (.proj 1 (.var 27)))))))))
 (.seq
 (.seq
 (.chk [(.var 25)])
 (.seq
 (.row (some 30) 5 1 (.upd 0 1 (.const (.agg #[(.int .u8 0)])) (.const (.int .u8 1))))
 (.seq
 (.chk [(.upd 3 1 (.upd 2 1 (.upd 1 1 (.upd 0 1 (.const zA1) (.const (.int .i64 3))) (.var 25)) (.const (.bool true))) (.var 30))])
 (.seq
 (.row (some 31) 56 1 (.upd 0 1 (.const (.agg #[(.pointer none)])) (.var 8)))
 (.seq
 (.call (some 32) 20 [(.upd 3 1 (.upd 2 1 (.upd 1 1 (.upd 0 1 (.const zA1) (.const (.int .i64 3))) (.var 25)) (.const (.bool true))) (.var 30)), (.var 31)] [])
 (.seq
 (.chk [(.proj 1 (.var 32)), (.proj 0 (.var 32))])
 (.seq
 (.new (some 33) 40 (.const (.agg (Array.replicate 32 (.int .u8 0)))))
 (.seq
 (.store 32 (.var 33) (.proj 0 (.var 32)) [])
 (.set 34 (.proj 1 (.var 32)))))))))))
 (.seq
 (.seq
 (.chk [(.upd 1 1 (.const zA1) (.var 21))])
 (.seq
 (.call (some 35) 20 [(.upd 1 1 (.const zA1) (.var 21)), (.const (.slice none 0 0))] [])
 (.seq
 (.chk [(.proj 1 (.var 35)), (.proj 0 (.var 35))])
 (.seq
 (.new (some 36) 40 (.const (.agg (Array.replicate 32 (.int .u8 0)))))
 (.seq
 (.store 32 (.var 36) (.proj 0 (.var 35)) [])
 (.set 37 (.proj 1 (.var 35))))))))
 (.seq
 (.seq
 (.chk [(.upd 1 1 (.const zA1) (.var 21))])
 (.seq
 (.row (some 38) 56 1 (.upd 0 1 (.const (.agg #[(.pointer none)])) (.const (.pointer none))))
 (.seq
 (.call (some 39) 20 [(.upd 1 1 (.const zA1) (.var 21)), (.var 38)] [])
 (.seq
 (.chk [(.proj 1 (.var 39)), (.proj 0 (.var 39))])
 (.seq
 (.new (some 40) 40 (.const (.agg (Array.replicate 32 (.int .u8 0)))))
 (.seq
 (.store 32 (.var 40) (.proj 0 (.var 39)) [])
 (.set 41 (.proj 1 (.var 39)))))))))
 (.seq
 (.set 3 (.pick (.pick (.pick (.pick (.bin .eql (.var 29) (.const (.int .i64 0))) (.bin .eql (.var 34) (.const (.int .i64 0))) (.const (.bool false))) (.eqx false (.cons 0 none .int (.cons 1 none .int (.cons 2 none .int (.cons 3 none .int (.cons 4 none .int (.cons 5 none .int (.cons 6 none .int (.cons 7 none .int (.cons 8 none .int (.cons 9 none .int (.cons 10 none .int (.cons 11 none .int (.cons 12 none .int (.cons 13 none .int (.cons 14 none .int (.cons 15 none .int (.cons 16 none .int (.cons 17 none .int (.cons 18 none .int (.cons 19 none .int (.cons 20 none .int (.cons 21 none .int (.cons 22 none .int (.cons 23 none .int (.cons 24 none .int (.cons 25 none .int (.cons 26 none .int (.cons 27 none .int (.cons 28 none .int (.cons 29 none .int (.cons 30 none .int (.cons 31 none .int .nil)))))))))))))))))))))))))))))))) (.ld (some 32) (.var 28)) (.ld (some 32) (.var 33))) (.const (.bool false))) (.bin .eql (.var 37) (.const (.int .i64 22))) (.const (.bool false))) (.bin .eql (.var 41) (.const (.int .i64 22))) (.const (.bool false))))
 .ret))))))))))))),
  [(.var 3)]⟩
theorem cmp_4 : compile Tryz.prog Tryz.f4 [0, 1, 2, 6, 24, 7, 8, 29, 9, 10, 32, 11, 55, 60, 61, 67, 72, 73, 81, 82, 83, 12, 89, 90, 91, 13, 96, 97, 14, 15, 102, 105, 106, 16, 17, 112, 18, 19, 118, 119, 20, 21] [[0, 1, 2, 5, 8, 11]] = some (cm4, [(.var 3)]) := by kernel_rfl
theorem tox_4 : toX Tryz.prog 3 365 cm4 = some xf4.c := by kernel_rfl
theorem okx_4 : FnOk Tryz.prog 3 365 4 xf4 := fnOk_parts Tryz.func4 (by kernel_rfl) (by kernel_rfl) cmp_4 tox_4 (by kernel_rfl)

/- tipstaff/rights.All -/
def xf7 : XF := ⟨0, [0],
  (.seq
 (.new (some 0) 33 (.const zA4))
 (.seq
 (.seq
 (.chk [(.upd 5 1 (.upd 4 1 (.upd 3 1 (.upd 2 1 (.upd 1 1 (.upd 0 1 (.const zA4) (.const (.int .u16 255))) (.const (.int .u16 15))) (.const (.int .u16 63))) (.const (.int .u16 255))) (.const (.bool true))) (.const (.bool false)))])
 (.store 6 (.var 0) (.upd 5 1 (.upd 4 1 (.upd 3 1 (.upd 2 1 (.upd 1 1 (.upd 0 1 (.const zA4) (.const (.int .u16 255))) (.const (.int .u16 15))) (.const (.int .u16 63))) (.const (.int .u16 255))) (.const (.bool true))) (.const (.bool false))) []))
 .ret)),
  [(.ld (some 6) (.var 0))]⟩
theorem okx_7 : FnOk Tryz.prog 3 365 7 xf7 := fnOk_of Tryz.func7 (np := 0) (V := [0]) (ks := []) (by kernel_rfl)

/- tipstaff/bmap.New -/
def xf15 : XF := ⟨1, [0, 2, 3, 1, 8, 4, 14, 5, 20, 19, 6, 29, 32, 33, 35, 30, 37, 38, 27, 39],
  (.seq
 (.seq
 (.new (some 3) 36 (.var 0))
 (.seq
 (.set 1 (.const (.pointer none)))
 (.set 2 (.const (.int .i64 0)))))
 (.seq
 (.seq
 (.seq
 (.call (some 4) 43 [(.ld (some 4) (.var 3))] [])
 (.set 5 (.var 4)))
 (.cond (.bin .neq (.var 5) (.const (.int .i64 0)))
 (.seq
 (.seq
 (.chk [(.var 5)])
 (.seq
 (.set 1 (.const (.pointer none)))
 (.set 2 (.var 5))))
 .ret)
 .skip))
 (.seq
 (.seq
 (.chk [(.upd 0 4 (.const (.agg #[(.int .i64 0), (.int .i64 0), (.int .i64 0), (.int .i64 0), (.slice none 0 0), (.bool false), (.int .i64 0)])) (.ld (some 4) (.var 3)))])
 (.seq
 (.new (some 6) 100 (.upd 0 4 (.const (.agg #[(.int .i64 0), (.int .i64 0), (.int .i64 0), (.int .i64 0), (.slice none 0 0), (.bool false), (.int .i64 0)])) (.ld (some 4) (.var 3))))
 (.set 7 (.var 6))))
 (.seq
 (.cond (.bin .eql (.ld none (.offp 0 (.var 3))) (.const (.int .i64 0)))
 (.seq
 (.seq
 (.set 9 (.ld none (.offp 3 (.var 3))))
 (.set 8 (.const (.int .i64 0))))
 (.block 0
 (.loop [3, 7, 8, 9]
 (.seq
 (.cond (.bin .lss (.var 8) (.var 9))
 .skip
 (.exit 0))
 (.seq
 (.block 1
 (.seq
 (.set 10 (.var 8))
 (.seq
 .skip
 (.seq
 (.set 18 (.ld none (.offp 4 (.nn (.var 7)))))
 (.seq
 (.chk [(.var 10)])
 (.seq
 (.set 12 (.ld none (.offp 2 (.var 3))))
 (.seq
 (.resv 2)
 (.seq
 (.seq
 (.set 13 (.const (.bool true)))
 (.seq
 (.set 14 (.const (.bool true)))
 .skip))
 (.seq
 (.chk [(.var 13), (.var 14)])
 (.seq
 (.clr [13, 14])
 (.seq
 (.chk [(.const (.bool true)), (.pick (.bin .leq (.var 12) (.var 12)) (.pick (.bin .leq (.var 12) (.const (.int .i64 100000))) (.pick (.bin .leq (.const (.int .i64 0)) (.var 12)) (.const (.bool true)) (.nn (.const (.bool true)))) (.nn (.const (.bool true)))) (.nn (.const (.bool true)))), (.upd 0 1 (.const (.agg #[(.slice none 0 0)])) (.const (.pointer none)))])
 (.seq
 (.call (some 11) 44 [(.var 10)] [(.ld none (.offp 2 (.var 3))), (.ld none (.offp 4 (.nn (.var 7))))])
 (.seq
 (.set 15 (.bstr (.var 11)))
 (.seq
 (.mkR 0 13 5 [(.int .u8 0)] (.var 12) (.var 12))
 (.seq
 (.newR 1 14 105 (.upd 0 1 (.const (.agg #[(.slice none 0 0)])) (.var 13)))
 (.seq
 (.chk [(.upd 1 1 (.upd 0 1 (.const (.agg #[(.string ⟨#[]⟩), (.pointer none), (.int .i64 0)])) (.var 15)) (.var 14))])
 (.seq
 (.new (some 16) 107 (.upd 1 1 (.upd 0 1 (.const (.agg #[(.string ⟨#[]⟩), (.pointer none), (.int .i64 0)])) (.var 15)) (.var 14)))
 (.seq
 (.row (some 17) 101 1 (.upd 0 1 (.const (.agg #[(.pointer none)])) (.var 16)))
 (.seq
 (.app (some 19) 101 1 (.var 18) (.var 17) [])
 (.seq
 (.store 1 (.offp 4 (.nn (.var 7))) (.var 19) [])
 .skip))))))))))))))))))))
 (.set 8 (.bin .add (.var 8) (.const (.int .i64 1)))))))))
 .skip)
 (.seq
 (.seq
 (.set 1 (.var 7))
 (.set 2 (.const (.int .i64 0))))
 .ret))))),
  [(.var 1), (.var 2)]⟩
theorem okx_15 : FnOk Tryz.prog 3 365 15 xf15 := fnOk_of Tryz.func15 (np := 1) (V := [0, 2, 3, 1, 8, 4, 14, 5, 20, 19, 6, 29, 32, 33, 35, 30, 37, 38, 27, 39]) (ks := [[3, 7, 8, 9]]) (by kernel_rfl)

/- tipstaff/tipstafflaw21.loads -/
def xf16 : XF := ⟨0, [0, 4, 5, 1, 7, 10, 2, 3, 25],
  (.seq
 (.set 0 (.const (.bool false)))
 (.seq
 (.seq
 (.call (some 1) 7 [] [])
 (.seq
 (.call (some 2) 45 [(.var 1)] [])
 (.set 3 (.var 2))))
 (.seq
 (.seq
 (.call (some 4) 19 [(.const (.int .i32 3))] [])
 (.seq
 (.chk [(.upd 1 1 (.const zA1) (.var 4))])
 (.seq
 (.call (some 5) 46 [(.upd 1 1 (.const zA1) (.var 4)), (.const (.slice none 0 0)), (.var 3), (.const (.pointer none))] [])
 (.seq
 (.chk [(.proj 1 (.var 5))])
 (.seq
 (.set 6 (.proj 0 (.var 5)))
 (.set 7 (.proj 1 (.var 5))))))))
 (.seq
 (.seq
 (.chk [(.pick (.pick (.pick (.isnil 0 true (.var 3)) (.bin .eql (.var 7) (.const (.int .i64 0))) (.const (.bool false))) (.isnil 0 true (.var 6)) (.const (.bool false))) (.var 6) (.const (.bool false)))])
 (.seq
 (.cond (.pick (.pick (.pick (.isnil 0 true (.var 3)) (.bin .eql (.var 7) (.const (.int .i64 0))) (.const (.bool false))) (.isnil 0 true (.var 6)) (.const (.bool false))) (.const (.bool true)) (.const (.bool false)))
 (.call (some 8) 41 [(.var 6)] [])
 (.clr [8]))
 (.set 0 (.pick (.pick (.pick (.pick (.pick (.isnil 0 true (.var 3)) (.bin .eql (.var 7) (.const (.int .i64 0))) (.const (.bool false))) (.isnil 0 true (.var 6)) (.const (.bool false))) (.var 8) (.const (.bool false))) (.bin .eql (.len false (.ld none (.offp 1 (.nn (.var 6))))) (.const (.int .i64 2))) (.const (.bool false))) (.eqx false .ptr (.ld none (.offp 36 (.nn (.var 6)))) (.var 3)) (.const (.bool false))))))
 .ret)))),
  [(.var 0)]⟩
theorem okx_16 : FnOk Tryz.prog 3 365 16 xf16 := fnOk_of Tryz.func16 (np := 0) (V := [0, 4, 5, 1, 7, 10, 2, 3, 25]) (ks := []) (by kernel_rfl)

/- (*tipstaff/bmap.Map).Update -/
def xf17 : XF := ⟨4, [0, 1, 2, 3, 8, 14, 9, 20, 38, 10, 42, 11, 49, 12, 55, 60, 61, 63, 65, 72, 70, 73],
  (.seq
 (.set 4 (.const (.int .i64 0)))
 (.seq
 (.seq
 (.seq
 (.call (some 5) 47 [(.var 0)] [])
 (.set 6 (.var 5)))
 (.cond (.bin .neq (.var 6) (.const (.int .i64 0)))
 (.seq
 (.set 4 (.var 6))
 .ret)
 .skip))
 (.seq
 (.seq
 (.call (some 7) 48 [(.var 0), (.var 1)] [])
 (.cond (.pick (.pick (.un .not (.var 7)) (.const (.bool true)) (.bin .neq (.len false (.var 2)) (.ld none (.offp 2 (.offp 0 (.nn (.var 0))))))) (.const (.bool true)) (.bin .gtr (.var 3) (.const (.int .u64 2))))
 (.seq
 (.set 4 (.const (.int .i64 22)))
 .ret)
 .skip))
 (.seq
 (.seq
 (.call (some 8) 49 [(.var 0), (.var 1)] [])
 (.set 9 (.var 8)))
 (.seq
 (.seq
 (.seq
 (.call (some 10) 50 [(.var 0), (.var 9), (.var 3)] [])
 (.set 11 (.var 10)))
 (.cond (.bin .neq (.var 11) (.const (.int .i64 0)))
 (.seq
 (.set 4 (.var 11))
 .ret)
 .skip))
 (.seq
 (.cond (.isnil 0 false (.var 9))
 (.seq
 (.seq
 (.seq
 (.call (some 12) 51 [(.var 0)] [])
 (.set 13 (.var 12)))
 (.cond (.bin .neq (.var 13) (.const (.int .i64 0)))
 (.seq
 (.set 4 (.var 13))
 .ret)
 .skip))
 (.seq
 (.seq
 .skip
 (.seq
 (.chk [(.var 1)])
 (.seq
 (.set 15 (.ld none (.offp 2 (.offp 0 (.nn (.var 0))))))
 (.seq
 (.resv 2)
 (.seq
 (.seq
 (.set 16 (.const (.bool true)))
 (.seq
 (.set 17 (.const (.bool true)))
 .skip))
 (.seq
 (.chk [(.var 16), (.var 17)])
 (.seq
 (.clr [16, 17])
 (.seq
 (.chk [(.const (.bool true)), (.pick (.bin .leq (.var 15) (.var 15)) (.pick (.bin .leq (.var 15) (.const (.int .i64 100000))) (.pick (.bin .leq (.const (.int .i64 0)) (.var 15)) (.const (.bool true)) (.nn (.const (.bool true)))) (.nn (.const (.bool true)))) (.nn (.const (.bool true)))), (.upd 0 1 (.const (.agg #[(.slice none 0 0)])) (.const (.pointer none)))])
 (.seq
 (.call (some 14) 52 [(.var 0), (.var 1)] [(.ld none (.offp 2 (.offp 0 (.nn (.var 0)))))])
 (.seq
 (.mkR 0 16 5 [(.int .u8 0)] (.var 15) (.var 15))
 (.seq
 (.newR 1 17 105 (.upd 0 1 (.const (.agg #[(.slice none 0 0)])) (.var 16)))
 (.seq
 (.chk [(.upd 1 1 (.upd 0 1 (.const (.agg #[(.string ⟨#[]⟩), (.pointer none), (.int .i64 0)])) (.var 14)) (.var 17))])
 (.seq
 (.new (some 18) 107 (.upd 1 1 (.upd 0 1 (.const (.agg #[(.string ⟨#[]⟩), (.pointer none), (.int .i64 0)])) (.var 14)) (.var 17)))
 (.seq
 (.set 9 (.var 18))
 .skip))))))))))))))
 (.seq
 (.set 20 (.ld none (.offp 4 (.nn (.var 0)))))
 (.seq
 (.row (some 19) 101 1 (.upd 0 1 (.const (.agg #[(.pointer none)])) (.var 9)))
 (.seq
 (.app (some 21) 101 1 (.var 20) (.var 19) [])
 (.store 1 (.offp 4 (.nn (.var 0))) (.var 21) []))))))
 .skip)
 (.seq
 (.copy none 1 (.ld none (.offp 0 (.nn (.ld none (.offp 1 (.nn (.var 9))))))) (.var 2) [])
 (.seq
 (.call none 53 [(.var 0), (.var 9)] [])
 (.seq
 (.set 4 (.const (.int .i64 0)))
 .ret))))))))),
  [(.var 4)]⟩
theorem okx_17 : FnOk Tryz.prog 3 365 17 xf17 := fnOk_of Tryz.func17 (np := 4) (V := [0, 1, 2, 3, 8, 14, 9, 20, 38, 10, 42, 11, 49, 12, 55, 60, 61, 63, 65, 72, 70, 73]) (ks := []) (by kernel_rfl)

/- (*tipstaff/bmap.Map).Freeze -/
def xf18 : XF := ⟨1, [0, 2, 3, 6],
  (.seq
 (.set 1 (.const (.int .i64 0)))
 (.seq
 (.block 0
 (.seq
 (.set 2 (.isnil 0 false (.var 0)))
 (.cond (.var 2)
 (.seq
 (.set 1 (.const (.int .i64 22)))
 .ret)
 (.seq
 (.set 3 (.ld none (.offp 5 (.nn (.var 0)))))
 (.cond (.var 3)
 (.seq
 (.set 1 (.const (.int .i64 16)))
 .ret)
 .skip)))))
 (.seq
 (.store 1 (.offp 5 (.nn (.var 0))) (.const (.bool true)) [])
 (.seq
 (.set 1 (.const (.int .i64 0)))
 .ret)))),
  [(.var 1)]⟩
theorem okx_18 : FnOk Tryz.prog 3 365 18 xf18 := fnOk_of Tryz.func18 (np := 1) (V := [0, 2, 3, 6]) (ks := []) (by kernel_rfl)

/- tipstaff/tipstafflaw21.end -/
def xf19 : XF := ⟨1, [0, 2, 6],
  (.seq
 (.set 1 (.const (.slice none 0 0)))
 (.seq
 (.seq
 (.chk [(.upd 0 1 (.const zA2) (.const (.int .u8 149))), (.upd 4 1 (.upd 0 1 (.const zA2) (.const (.int .u8 183))) (.var 0))])
 (.seq
 (.row (some 2) 46 2 (.upd 5 5 (.upd 0 5 (.const zA8) (.upd 4 1 (.upd 0 1 (.const zA2) (.const (.int .u8 183))) (.var 0))) (.upd 0 1 (.const zA2) (.const (.int .u8 149)))))
 (.set 1 (.var 2))))
 .ret)),
  [(.var 1)]⟩
theorem okx_19 : FnOk Tryz.prog 3 365 19 xf19 := fnOk_of Tryz.func19 (np := 1) (V := [0, 2, 6]) (ks := []) (by kernel_rfl)

/- tipstaff/loader.Sum -/
def xf20 : XF := ⟨2, [0, 1, 4, 5, 2, 12, 7, 6, 8],
  (.seq
 (.seq
 (.new (some 4) 39 (.var 0))
 (.seq
 (.new (some 2) 40 (.const (.agg (Array.replicate 32 (.int .u8 0)))))
 (.set 3 (.const (.int .i64 0)))))
 (.seq
 (.seq
 (.call (some 5) 54 [(.ld (some 4) (.var 4)), (.var 1)] [])
 (.seq
 (.chk [(.proj 2 (.var 5)), (.proj 1 (.var 5)), (.proj 0 (.var 5))])
 (.seq
 (.new (some 6) 40 (.const (.agg (Array.replicate 32 (.int .u8 0)))))
 (.seq
 (.set 7 (.proj 0 (.var 5)))
 (.seq
 (.store 32 (.var 6) (.proj 1 (.var 5)) [])
 (.set 8 (.proj 2 (.var 5))))))))
 (.seq
 (.seq
 (.chk [(.var 8)])
 (.seq
 (.store 32 (.var 2) (.ld (some 32) (.var 6)) [])
 (.set 3 (.var 8))))
 .ret))),
  [(.ld (some 32) (.var 2)), (.var 3)]⟩
theorem okx_20 : FnOk Tryz.prog 3 365 20 xf20 := fnOk_of Tryz.func20 (np := 2) (V := [0, 1, 4, 5, 2, 12, 7, 6, 8]) (ks := []) (by kernel_rfl)

/- tipstaff/space.New -/
def xf21 : XF := ⟨0, [0, 1, 3],
  (.seq
 (.set 0 (.const (.pointer none)))
 (.seq
 (.seq
 (.mk (some 1) 227 [(.int .i64 0), (.int .i64 0)] (.const (.int .i64 1)) (.const (.int .i64 1)) [])
 (.seq
 (.chk [(.upd 0 1 (.const (.agg #[(.slice none 0 0)])) (.var 1))])
 (.seq
 (.new (some 2) 122 (.upd 0 1 (.const (.agg #[(.slice none 0 0)])) (.var 1)))
 (.set 0 (.var 2)))))
 .ret)),
  [(.var 0)]⟩
theorem okx_21 : FnOk Tryz.prog 3 365 21 xf21 := fnOk_of Tryz.func21 (np := 0) (V := [0, 1, 3]) (ks := []) (by kernel_rfl)

/- tipstaff/digest.Sum -/
def xf32 : XF := ⟨1, [0, 2, 7, 9, 3, 11, 12, 18, 19, 25, 26, 4, 27, 5, 36, 6],
  (.seq
 (.new (some 1) 40 (.const (.agg (Array.replicate 32 (.int .u8 0)))))
 (.seq
 (.seq
 (.row (some 2) 5 0 (.const (.agg #[])))
 (.seq
 (.app (some 3) 5 1 (.var 2) (.var 0) [])
 (.set 4 (.var 3))))
 (.seq
 (.seq
 (.chk [(.var 4)])
 (.seq
 (.row (some 5) 5 1 (.upd 0 1 (.const (.agg #[(.int .u8 0)])) (.const (.int .u8 128))))
 (.seq
 (.app (some 6) 5 1 (.var 4) (.var 5) [])
 (.set 4 (.var 6)))))
 (.seq
 (.block 0
 (.loop [0, 1, 4]
 (.seq
 (.cond (.bin .neq (.bin .rem (.len false (.var 4)) (.const (.int .i64 64))) (.const (.int .i64 56)))
 .skip
 (.exit 0))
 (.block 1
 (.seq
 (.chk [(.var 4)])
 (.seq
 (.row (some 7) 5 1 (.upd 0 1 (.const (.agg #[(.int .u8 0)])) (.const (.int .u8 0))))
 (.seq
 (.app (some 8) 5 1 (.var 4) (.var 7) [])
 (.set 4 (.var 8)))))))))
 (.seq
 (.seq
 (.chk [(.var 4)])
 (.seq
 (.call (some 9) 72 [(.bin .mul (.const (.int .u64 8)) (.conv .u64 (.len false (.var 0))))] [])
 (.seq
 (.app (some 10) 5 1 (.var 4) (.var 9) [])
 (.set 4 (.var 10)))))
 (.seq
 (.seq
 (.set 12 (.ld (some 8) (.const (.pointer (some ⟨0, 0, none⟩)))))
 (.seq
 (.new (some 11) 155 (.const (.agg (Array.replicate 8 (.int .u32 0)))))
 (.store 8 (.var 11) (.var 12) [])))
 (.seq
 (.block 2
 (.loop [1, 4, 11]
 (.seq
 (.cond (.bin .gtr (.len false (.var 4)) (.const (.int .i64 0)))
 .skip
 (.exit 2))
 (.seq
 (.block 3
 (.call none 73 [(.var 11), (.slSl 1 (.var 4) (.const (.int .i64 0)) (.const (.int .i64 64)))] []))
 (.set 4 (.slSl 1 (.var 4) (.const (.int .i64 64)) (.len false (.var 4))))))))
 (.seq
 (.new (some 13) 40 (.const (.agg (Array.replicate 32 (.int .u8 0)))))
 (.seq
 (.seq
 (.set 14 (.const (.int .i64 0)))
 (.block 4
 (.loop [1, 11, 13, 14]
 (.seq
 (.cond (.bin .lss (.var 14) (.const (.int .i64 32)))
 .skip
 (.exit 4))
 (.seq
 (.block 5
 (.seq
 (.set 15 (.var 14))
 (.store 1 (.ixArr 32 1 (.var 13) (.var 15)) (.conv .u8 (.bin .shr (.ld none (.ixArr 8 1 (.var 11) (.bin .quo (.var 15) (.const (.int .i64 4))))) (.bin .sub (.const (.int .i64 24)) (.bin .mul (.const (.int .i64 8)) (.bin .rem (.var 15) (.const (.int .i64 4))))))) [])))
 (.set 14 (.bin .add (.var 14) (.const (.int .i64 1)))))))))
 (.seq
 (.store 32 (.var 1) (.ld (some 32) (.var 13)) [])
 .ret)))))))))),
  [(.ld (some 32) (.var 1))]⟩
theorem okx_32 : FnOk Tryz.prog 3 365 32 xf32 := fnOk_of Tryz.func32 (np := 1) (V := [0, 2, 7, 9, 3, 11, 12, 18, 19, 25, 26, 4, 27, 5, 36, 6]) (ks := [[0, 1, 4], [1, 4, 11], [1, 11, 13, 14]]) (by kernel_rfl)

/- tipstaff/loader.Held -/
def xf41 : XF := ⟨1, [0, 2, 21, 12, 29, 24, 47],
  (.seq
 (.set 1 (.const (.bool false)))
 (.seq
 (.seq
 (.seq
 .skip
 (.seq
 (.set 3 (.pick (.isnil 0 false (.var 0)) (.const (.bool true)) (.isnil 0 false (.ld none (.offp 36 (.nn (.var 0)))))))
 (.seq
 (.chk [(.pick (.var 3) (.const (.bool false)) (.ld none (.offp 0 (.nn (.var 0))))), (.pick (.var 3) (.const (.bool false)) (.ld none (.offp 36 (.nn (.var 0)))))])
 (.seq
 (.cond (.pick (.var 3) (.const (.bool false)) (.const (.bool true)))
 (.call (some 2) 78 [(.ld none (.offp 36 (.nn (.var 0)))), (.ld none (.offp 0 (.nn (.var 0))))] [])
 (.clr [2]))
 (.seq
 (.set 5 (.pick (.var 3) (.const (.bool true)) (.bin .neq (.var 2) (.const (.int .i64 0)))))
 (.seq
 (.chk [(.pick (.var 5) (.const (.bool false)) (.ld none (.offp 2 (.nn (.var 0)))))])
 (.cond (.pick (.var 5) (.const (.bool false)) (.const (.bool true)))
 (.call (some 4) 79 [(.ld none (.offp 2 (.nn (.var 0)))), (.const (.pointer none))] [])
 (.clr [4]))))))))
 (.cond (.pick (.var 5) (.const (.bool true)) (.var 4))
 (.seq
 (.set 1 (.const (.bool false)))
 .ret)
 .skip))
 (.seq
 (.seq
 .skip
 (.seq
 (.call (some 6) 80 [(.ld none (.offp 36 (.nn (.var 0)))), (.ld none (.offp 1 (.nn (.var 0)))), (.ld none (.offp 2 (.nn (.var 0)))), (.ld none (.offp 35 (.nn (.var 0))))] [])
 (.set 1 (.bin .eql (.var 6) (.const (.int .i64 0))))))
 .ret))),
  [(.var 1)]⟩
theorem okx_41 : FnOk Tryz.prog 3 365 41 xf41 := fnOk_of Tryz.func41 (np := 1) (V := [0, 2, 21, 12, 29, 24, 47]) (ks := []) (by kernel_rfl)

/- tipstaff/bmap.Check -/
def xf43 : XF := ⟨1, [0, 2, 1, 6, 10, 3, 13, 14, 22, 29, 31, 40, 46],
  (.seq
 (.seq
 (.new (some 2) 36 (.var 0))
 (.set 1 (.const (.int .i64 0))))
 (.seq
 (.seq
 (.call (some 3) 84 [(.ld none (.offp 2 (.var 2))), (.const (.int .i64 1)), (.const (.int .i64 64))] [])
 (.seq
 (.chk [(.pick (.var 3) (.ld none (.offp 3 (.var 2))) (.const (.bool false)))])
 (.seq
 (.cond (.pick (.var 3) (.const (.bool true)) (.const (.bool false)))
 (.call (some 4) 84 [(.ld none (.offp 3 (.var 2))), (.const (.int .i64 1)), (.const (.int .i64 64))] [])
 (.clr [4]))
 (.set 5 (.pick (.var 3) (.var 4) (.const (.bool false)))))))
 (.seq
 (.seq
 (.set 6 (.ld none (.offp 0 (.var 2))))
 (.block 0
 (.seq
 (.set 7 (.bin .eql (.var 6) (.const (.int .i64 0))))
 (.cond (.var 7)
 (.set 5 (.pick (.var 5) (.bin .eql (.ld none (.offp 1 (.var 2))) (.const (.int .i64 4))) (.const (.bool false))))
 (.seq
 (.seq
 (.set 8 (.bin .eql (.var 6) (.const (.int .i64 1))))
 (.cond (.var 8)
 .skip
 (.set 8 (.bin .eql (.var 6) (.const (.int .i64 2))))))
 (.cond (.var 8)
 (.seq
 (.chk [(.pick (.var 5) (.ld none (.offp 1 (.var 2))) (.const (.bool false)))])
 (.seq
 (.cond (.pick (.var 5) (.const (.bool true)) (.const (.bool false)))
 (.call (some 9) 84 [(.ld none (.offp 1 (.var 2))), (.const (.int .i64 1)), (.const (.int .i64 16))] [])
 (.clr [9]))
 (.set 5 (.pick (.var 5) (.var 9) (.const (.bool false))))))
 (.seq
 (.seq
 (.set 10 (.bin .eql (.var 6) (.const (.int .i64 3))))
 (.cond (.var 10)
 .skip
 (.set 10 (.bin .eql (.var 6) (.const (.int .i64 4))))))
 (.cond (.var 10)
 (.set 5 (.pick (.var 5) (.bin .eql (.ld none (.offp 1 (.var 2))) (.const (.int .i64 0))) (.const (.bool false))))
 (.seq
 (.set 11 (.bin .eql (.var 6) (.const (.int .i64 5))))
 (.cond (.var 11)
 (.seq
 (.chk [(.pick (.var 5) (.ld none (.offp 1 (.var 2))) (.const (.bool false)))])
 (.seq
 (.cond (.pick (.var 5) (.const (.bool true)) (.const (.bool false)))
 (.call (some 12) 84 [(.ld none (.offp 1 (.var 2))), (.const (.int .i64 5)), (.const (.int .i64 16))] [])
 (.clr [12]))
 (.set 5 (.pick (.var 5) (.var 12) (.const (.bool false))))))
 (.set 5 (.const (.bool false)))))))))))))
 (.seq
 (.cond (.un .not (.var 5))
 (.seq
 (.set 1 (.const (.int .i64 22)))
 .ret)
 .skip)
 (.seq
 (.set 1 (.const (.int .i64 0)))
 .ret))))),
  [(.var 1)]⟩
theorem okx_43 : FnOk Tryz.prog 3 365 43 xf43 := fnOk_of Tryz.func43 (np := 1) (V := [0, 2, 1, 6, 10, 3, 13, 14, 22, 29, 31, 40, 46]) (ks := []) (by kernel_rfl)

/- tipstaff/tipstafflaw21.root -/
def xf45 : XF := ⟨1, [0, 2, 1, 6, 7, 8, 3, 4],
  (.seq
 (.seq
 (.new (some 2) 33 (.var 0))
 (.set 1 (.const (.pointer none))))
 (.seq
 (.seq
 .skip
 (.seq
 (.set 4 (.ld (some 6) (.var 2)))
 (.seq
 (.call (some 3) 21 [] [(.ld (some 6) (.var 2))])
 (.seq
 (.call (some 5) 69 [(.var 3), (.const (.int .i64 0)), (.var 4)] [])
 (.seq
 (.chk [(.proj 1 (.var 5))])
 (.seq
 (.set 6 (.proj 0 (.var 5)))
 (.set 7 (.proj 1 (.var 5)))))))))
 (.seq
 (.cond (.bin .neq (.var 7) (.const (.int .i64 0)))
 (.seq
 (.set 1 (.const (.pointer none)))
 .ret)
 .skip)
 (.seq
 (.set 1 (.var 6))
 .ret)))),
  [(.var 1)]⟩
theorem okx_45 : FnOk Tryz.prog 3 365 45 xf45 := fnOk_of Tryz.func45 (np := 1) (V := [0, 2, 1, 6, 7, 8, 3, 4]) (ks := []) (by kernel_rfl)

/- tipstaff/loader.Load -/
def xf46 : XF := ⟨4, [0, 1, 2, 3, 8, 9, 4, 23, 10, 30, 12, 11, 13, 42, 14, 51, 52, 15, 16, 68, 17, 76, 73, 77, 79, 82],
  (.seq
 (.seq
 (.new (some 6) 39 (.var 0))
 (.seq
 (.set 4 (.const (.pointer none)))
 (.set 5 (.const (.int .i64 0)))))
 (.seq
 (.cond (.isnil 0 false (.var 2))
 (.seq
 (.seq
 (.set 4 (.const (.pointer none)))
 (.set 5 (.const (.int .i64 1))))
 .ret)
 .skip)
 (.seq
 (.seq
 (.seq
 (.call (some 7) 78 [(.var 2), (.ld none (.offp 0 (.var 6)))] [])
 (.set 8 (.var 7)))
 (.cond (.bin .neq (.var 8) (.const (.int .i64 0)))
 (.seq
 (.seq
 (.chk [(.var 8)])
 (.seq
 (.set 4 (.const (.pointer none)))
 (.set 5 (.var 8))))
 .ret)
 .skip))
 (.seq
 (.seq
 (.call (some 9) 54 [(.ld (some 4) (.var 6)), (.var 1)] [])
 (.seq
 (.chk [(.proj 2 (.var 9)), (.proj 1 (.var 9)), (.proj 0 (.var 9))])
 (.seq
 (.new (some 10) 40 (.const (.agg (Array.replicate 32 (.int .u8 0)))))
 (.seq
 (.set 11 (.proj 0 (.var 9)))
 (.seq
 (.store 32 (.var 10) (.proj 1 (.var 9)) [])
 (.set 12 (.proj 2 (.var 9))))))))
 (.seq
 (.cond (.bin .neq (.var 12) (.const (.int .i64 0)))
 (.seq
 (.seq
 (.chk [(.var 12)])
 (.seq
 (.set 4 (.const (.pointer none)))
 (.set 5 (.var 12))))
 .ret)
 .skip)
 (.seq
 (.seq
 (.seq
 (.call (some 13) 80 [(.var 2), (.var 11), (.var 1), (.ld none (.offp 2 (.var 6)))] [])
 (.set 14 (.var 13)))
 (.cond (.bin .neq (.var 14) (.const (.int .i64 0)))
 (.seq
 (.seq
 (.chk [(.var 14)])
 (.seq
 (.set 4 (.const (.pointer none)))
 (.set 5 (.var 14))))
 .ret)
 .skip))
 (.seq
 (.seq
 (.seq
 (.chk [(.var 11)])
 (.seq
 (.call (some 15) 86 [(.var 1), (.ld none (.offp 2 (.var 6)))] [])
 (.seq
 (.call (some 16) 85 [(.var 11), (.var 15)] [])
 (.seq
 (.chk [(.proj 1 (.var 16)), (.proj 0 (.var 16))])
 (.seq
 (.new (some 17) 175 (.const (.agg #[(.int .i64 0), (.int .i64 0)])))
 (.seq
 (.store 2 (.var 17) (.proj 0 (.var 16)) [])
 (.set 18 (.proj 1 (.var 16)))))))))
 (.cond (.bin .neq (.var 18) (.const (.int .i64 0)))
 (.seq
 (.seq
 (.chk [(.var 18)])
 (.seq
 (.set 4 (.const (.pointer none)))
 (.set 5 (.var 18))))
 .ret)
 .skip))
 (.seq
 (.cond (.ld none (.offp 5 (.offp 1 (.nn (.var 2)))))
 (.seq
 (.seq
 (.call (some 19) 87 [(.ld (some 32) (.var 10)), (.ld none (.offp 3 (.var 6))), (.var 1), (.var 3)] [])
 (.set 20 (.var 19)))
 (.cond (.bin .neq (.var 20) (.const (.int .i64 0)))
 (.seq
 (.seq
 (.chk [(.var 20)])
 (.seq
 (.set 4 (.const (.pointer none)))
 (.set 5 (.var 20))))
 .ret)
 .skip))
 .skip)
 (.seq
 (.seq
 .skip
 (.seq
 (.set 22 (.ld none (.offp 0 (.var 6))))
 (.seq
 (.chk [(.var 1), (.var 11)])
 (.seq
 (.set 23 (.ld (some 32) (.var 10)))
 (.seq
 (.set 24 (.ld none (.offp 2 (.var 6))))
 (.seq
 (.chk [(.var 2)])
 (.seq
 (.call (some 21) 88 [(.var 1)] [(.ld none (.offp 2 (.var 6))), (.ld (some 32) (.var 10)), (.ld none (.offp 0 (.var 6)))])
 (.seq
 (.chk [(.upd 36 1 (.upd 35 1 (.upd 3 32 (.upd 2 1 (.upd 1 1 (.upd 0 1 (.const zA13) (.var 22)) (.var 11)) (.var 21)) (.var 23)) (.var 24)) (.var 2))])
 (.seq
 (.new (some 25) 112 (.upd 36 1 (.upd 35 1 (.upd 3 32 (.upd 2 1 (.upd 1 1 (.upd 0 1 (.const zA13) (.var 22)) (.var 11)) (.var 21)) (.var 23)) (.var 24)) (.var 2)))
 (.seq
 (.set 4 (.var 25))
 (.set 5 (.const (.int .i64 0)))))))))))))
 .ret))))))))),
  [(.var 4), (.var 5)]⟩
theorem okx_46 : FnOk Tryz.prog 3 365 46 xf46 := fnOk_of Tryz.func46 (np := 4) (V := [0, 1, 2, 3, 8, 9, 4, 23, 10, 30, 12, 11, 13, 42, 14, 51, 52, 15, 16, 68, 17, 76, 73, 77, 79, 82]) (ks := []) (by kernel_rfl)

/- (*tipstaff/bmap.Map).changes -/
def xf47 : XF := ⟨1, [0, 2, 3, 6],
  (.seq
 (.set 1 (.const (.int .i64 0)))
 (.seq
 (.block 0
 (.seq
 (.set 2 (.isnil 0 false (.var 0)))
 (.cond (.var 2)
 (.seq
 (.set 1 (.const (.int .i64 22)))
 .ret)
 (.seq
 (.set 3 (.ld none (.offp 5 (.nn (.var 0)))))
 (.cond (.var 3)
 (.seq
 (.set 1 (.const (.int .i64 1)))
 .ret)
 .skip)))))
 (.seq
 (.set 1 (.const (.int .i64 0)))
 .ret))),
  [(.var 1)]⟩
theorem okx_47 : FnOk Tryz.prog 3 365 47 xf47 := fnOk_of Tryz.func47 (np := 1) (V := [0, 2, 3, 6]) (ks := []) (by kernel_rfl)

/- (*tipstaff/bmap.Map).right -/
def xf48 : XF := ⟨2, [0, 1, 4, 9, 29, 27],
  (.seq
 (.set 2 (.const (.bool false)))
 (.seq
 (.seq
 (.seq
 (.chk [(.pick (.isnil 0 false (.var 0)) (.const (.bool false)) (.var 0))])
 (.cond (.pick (.isnil 0 false (.var 0)) (.const (.bool false)) (.const (.bool true)))
 (.call (some 3) 89 [(.var 0)] [])
 (.clr [3])))
 (.cond (.pick (.pick (.isnil 0 false (.var 0)) (.const (.bool true)) (.var 3)) (.const (.bool true)) (.bin .neq (.len false (.var 1)) (.ld none (.offp 1 (.offp 0 (.nn (.var 0)))))))
 (.seq
 (.set 2 (.const (.bool false)))
 .ret)
 .skip))
 (.seq
 (.seq
 (.set 5 (.bin .neq (.ld none (.offp 0 (.offp 0 (.nn (.var 0))))) (.const (.int .i64 5))))
 (.seq
 (.chk [(.pick (.var 5) (.const (.bool false)) (.var 1))])
 (.seq
 (.cond (.pick (.var 5) (.const (.bool false)) (.const (.bool true)))
 (.call (some 4) 90 [(.var 1)] [])
 (.clr [4]))
 (.set 2 (.pick (.var 5) (.const (.bool true)) (.bin .leq (.var 4) (.bin .mul (.const (.int .i64 8)) (.bin .sub (.len false (.var 1)) (.const (.int .i64 4))))))))))
 .ret))),
  [(.var 2)]⟩
theorem okx_48 : FnOk Tryz.prog 3 365 48 xf48 := fnOk_of Tryz.func48 (np := 2) (V := [0, 1, 4, 9, 29, 27]) (ks := []) (by kernel_rfl)

/- (*tipstaff/bmap.Map).exact -/
def xf49 : XF := ⟨2, [0, 1, 4, 9, 5, 15, 6],
  (.seq
 (.set 2 (.const (.pointer none)))
 (.seq
 (.seq
 (.call (some 3) 52 [(.var 0), (.var 1)] [])
 (.seq
 (.new (some 4) 9 (.const (.string ⟨#[]⟩)))
 (.store 1 (.var 4) (.var 3) [])))
 (.seq
 (.seq
 (.chk [(.cap1 (.const (.func (.func 92) #[] #[])) (.var 4))])
 (.seq
 (.call (some 5) 91 [(.ld none (.offp 4 (.nn (.var 0)))), (.cap1 (.const (.func (.func 92) #[] #[])) (.var 4))] [])
 (.set 6 (.var 5))))
 (.seq
 (.cond (.bin .lss (.var 6) (.const (.int .i64 0)))
 (.seq
 (.set 2 (.const (.pointer none)))
 .ret)
 .skip)
 (.seq
 (.set 2 (.ld none (.ixSl 1 (.ld none (.offp 4 (.nn (.var 0)))) (.var 6))))
 .ret))))),
  [(.var 2)]⟩
theorem okx_49 : FnOk Tryz.prog 3 365 49 xf49 := fnOk_of Tryz.func49 (np := 2) (V := [0, 1, 4, 9, 5, 15, 6]) (ks := []) (by kernel_rfl)

/- (*tipstaff/bmap.Map).flagged -/
def xf50 : XF := ⟨3, [0, 1, 2, 6, 7, 14, 25],
  (.seq
 (.set 3 (.const (.int .i64 0)))
 (.seq
 (.block 0
 (.seq
 (.set 4 (.pick (.isnil 0 true (.var 1)) (.bin .eql (.var 2) (.const (.int .u64 1))) (.const (.bool false))))
 (.cond (.var 4)
 (.seq
 (.set 3 (.const (.int .i64 17)))
 .ret)
 (.seq
 (.set 5 (.pick (.isnil 0 false (.var 1)) (.bin .eql (.ld none (.offp 0 (.offp 0 (.nn (.var 0))))) (.const (.int .i64 0))) (.const (.bool false))))
 (.cond (.var 5)
 (.seq
 (.set 3 (.const (.int .i64 7)))
 .ret)
 (.seq
 (.set 6 (.pick (.isnil 0 false (.var 1)) (.bin .eql (.var 2) (.const (.int .u64 2))) (.const (.bool false))))
 (.cond (.var 6)
 (.seq
 (.set 3 (.const (.int .i64 2)))
 .ret)
 .skip)))))))
 (.seq
 (.set 3 (.const (.int .i64 0)))
 .ret))),
  [(.var 3)]⟩
theorem okx_50 : FnOk Tryz.prog 3 365 50 xf50 := fnOk_of Tryz.func50 (np := 3) (V := [0, 1, 2, 6, 7, 14, 25]) (ks := []) (by kernel_rfl)

/- (*tipstaff/bmap.Map).room -/
def xf51 : XF := ⟨1, [0, 2, 25, 3, 32],
  (.seq
 (.set 1 (.const (.int .i64 0)))
 (.seq
 (.seq
 .skip
 (.cond (.bin .lss (.len false (.ld none (.offp 4 (.nn (.var 0))))) (.ld none (.offp 3 (.offp 0 (.nn (.var 0))))))
 (.seq
 (.set 1 (.const (.int .i64 0)))
 .ret)
 .skip))
 (.seq
 (.cond (.bin .neq (.ld none (.offp 0 (.offp 0 (.nn (.var 0))))) (.const (.int .i64 2)))
 (.seq
 (.set 1 (.const (.int .i64 7)))
 .ret)
 .skip)
 (.seq
 (.seq
 (.call (some 2) 93 [(.ld none (.offp 4 (.nn (.var 0)))), (.const (.func (.func 94) #[] #[]))] [])
 (.seq
 (.new (some 3) 101 (.const (.pointer none)))
 (.store 1 (.var 3) (.var 2) [])))
 (.seq
 (.seq
 (.chk [(.cap1 (.const (.func (.func 97) #[] #[])) (.var 3))])
 (.seq
 (.call (some 4) 96 [(.ld none (.offp 4 (.nn (.var 0)))), (.cap1 (.const (.func (.func 97) #[] #[])) (.var 3))] [])
 (.store 1 (.offp 4 (.nn (.var 0))) (.var 4) [])))
 (.seq
 (.set 1 (.const (.int .i64 0)))
 .ret)))))),
  [(.var 1)]⟩
theorem okx_51 : FnOk Tryz.prog 3 365 51 xf51 := fnOk_of Tryz.func51 (np := 1) (V := [0, 2, 25, 3, 32]) (ks := []) (by kernel_rfl)

/- (*tipstaff/bmap.Map).plain -/
def xf52 : XF := ⟨2, [0, 1, 4, 13, 14],
  (.seq
 (.set 2 (.const (.string ⟨#[]⟩)))
 (.seq
 (.cond (.bin .eql (.ld none (.offp 0 (.offp 0 (.nn (.var 0))))) (.const (.int .i64 5)))
 (.seq
 (.call (some 3) 90 [(.var 1)] [])
 (.seq
 (.call (some 4) 98 [(.var 1), (.var 3)] [])
 (.set 1 (.var 4))))
 .skip)
 (.seq
 (.set 2 (.bstr (.var 1)))
 .ret))),
  [(.var 2)]⟩
theorem okx_52 : FnOk Tryz.prog 3 365 52 xf52 := fnOk_of Tryz.func52 (np := 2) (V := [0, 1, 4, 13, 14]) (ks := []) (by kernel_rfl)

/- (*tipstaff/bmap.Map).use -/
def xf53 : XF := ⟨2, [0, 1],
  (.seq
 (.store 1 (.offp 6 (.nn (.var 0))) (.bin .add (.ld none (.offp 6 (.nn (.var 0)))) (.const (.int .i64 1))) [])
 (.store 1 (.offp 2 (.nn (.var 1))) (.ld none (.offp 6 (.nn (.var 0)))) [])),
  []⟩
theorem okx_53 : FnOk Tryz.prog 3 365 53 xf53 := fnOk_of Tryz.func53 (np := 2) (V := [0, 1]) (ks := []) (by kernel_rfl)

/- tipstaff/loader.slotted -/
def xf54 : XF := ⟨2, [0, 1, 4, 5, 6, 2, 16, 7, 8, 9, 20, 33, 25, 10, 38, 37, 36, 12, 44, 45, 46, 51],
  (.seq
 (.seq
 (.new (some 5) 39 (.var 0))
 (.seq
 (.set 2 (.const (.slice none 0 0)))
 (.seq
 (.new (some 3) 40 (.const (.agg (Array.replicate 32 (.int .u8 0)))))
 (.set 4 (.const (.int .i64 0))))))
 (.seq
 (.seq
 (.call (some 6) 99 [(.ld none (.offp 1 (.var 5)))] [])
 (.seq
 (.chk [(.proj 2 (.var 6)), (.proj 1 (.var 6))])
 (.seq
 (.set 7 (.proj 0 (.var 6)))
 (.seq
 (.set 8 (.proj 1 (.var 6)))
 (.set 9 (.proj 2 (.var 6)))))))
 (.seq
 (.block 0
 (.seq
 (.set 10 (.bin .neq (.var 9) (.const (.int .i64 0))))
 (.cond (.var 10)
 (.seq
 (.seq
 (.chk [(.var 9)])
 (.seq
 (.set 2 (.const (.slice none 0 0)))
 (.seq
 (.store 32 (.var 3) (.const (.agg (Array.replicate 32 (.int .u8 0)))) [])
 (.set 4 (.var 9)))))
 .ret)
 (.seq
 (.seq
 (.chk [(.pick (.bin .neq (.len false (.var 8)) (.len false (.var 1))) (.const (.bool false)) (.var 1))])
 (.seq
 (.cond (.pick (.bin .neq (.len false (.var 8)) (.len false (.var 1))) (.const (.bool false)) (.const (.bool true)))
 (.call (some 11) 79 [(.var 1), (.const (.pointer none))] [])
 (.clr [11]))
 (.set 12 (.pick (.bin .neq (.len false (.var 8)) (.len false (.var 1))) (.const (.bool true)) (.var 11)))))
 (.cond (.var 12)
 (.seq
 (.seq
 (.set 2 (.const (.slice none 0 0)))
 (.seq
 (.store 32 (.var 3) (.const (.agg (Array.replicate 32 (.int .u8 0)))) [])
 (.set 4 (.const (.int .i64 22)))))
 .ret)
 .skip)))))
 (.seq
 (.set 13 (.const (.slice none 0 0)))
 (.seq
 (.seq
 (.seq
 (.set 16 (.var 1))
 (.seq
 (.set 15 (.len false (.var 16)))
 (.set 14 (.const (.int .i64 0)))))
 (.block 1
 (.loop [3, 7, 13, 14, 15, 16]
 (.seq
 (.cond (.bin .lss (.var 14) (.var 15))
 .skip
 (.exit 1))
 (.seq
 (.block 2
 (.seq
 (.set 17 (.ld none (.ixSl 1 (.var 16) (.var 14))))
 (.seq
 (.chk [(.var 13)])
 (.seq
 (.call (some 18) 100 [(.var 17)] [])
 (.seq
 (.row (some 19) 40 1 (.upd 0 32 (.const (.agg (Array.replicate 32 (.int .u8 0)))) (.var 18)))
 (.seq
 (.app (some 20) 40 32 (.var 13) (.var 19) [])
 (.set 13 (.var 20))))))))
 (.set 14 (.bin .add (.var 14) (.const (.int .i64 1)))))))))
 (.seq
 (.seq
 (.call (some 21) 101 [(.var 7), (.var 13)] [])
 (.seq
 (.set 2 (.var 7))
 (.seq
 (.store 32 (.var 3) (.var 21) [])
 (.set 4 (.const (.int .i64 0))))))
 .ret)))))),
  [(.var 2), (.ld (some 32) (.var 3)), (.var 4)]⟩
theorem okx_54 : FnOk Tryz.prog 3 365 54 xf54 := fnOk_of Tryz.func54 (np := 2) (V := [0, 1, 4, 5, 6, 2, 16, 7, 8, 9, 20, 33, 25, 10, 38, 37, 36, 12, 44, 45, 46, 51]) (ks := [[3, 7, 13, 14, 15, 16]]) (by kernel_rfl)

/- tipstaff/token.Root -/
def xf69 : XF := ⟨3, [0, 1, 2, 6, 7, 5, 13, 8, 9, 20, 19, 21, 26],
  (.seq
 (.seq
 (.new (some 5) 33 (.var 2))
 (.seq
 (.set 3 (.const (.pointer none)))
 (.set 4 (.const (.int .i64 0)))))
 (.seq
 (.seq
 (.seq
 (.call (some 6) 81 [(.var 0), (.var 1)] [])
 (.seq
 (.chk [(.proj 1 (.var 6))])
 (.seq
 (.set 7 (.proj 0 (.var 6)))
 (.set 8 (.proj 1 (.var 6))))))
 (.cond (.bin .neq (.var 8) (.const (.int .i64 0)))
 (.seq
 (.seq
 (.chk [(.var 8)])
 (.seq
 (.set 3 (.const (.pointer none)))
 (.set 4 (.var 8))))
 .ret)
 .skip))
 (.seq
 (.seq
 (.seq
 .skip
 (.seq
 (.set 10 (.ld (some 6) (.var 5)))
 (.seq
 (.call (some 9) 7 [] [(.ld (some 6) (.var 5))])
 (.call (some 11) 82 [(.var 10), (.var 9)] []))))
 (.cond (.un .not (.var 11))
 (.seq
 (.seq
 (.set 3 (.const (.pointer none)))
 (.set 4 (.const (.int .i64 1))))
 .ret)
 .skip))
 (.seq
 (.seq
 (.chk [(.upd 1 6 (.upd 0 1 (.const zA7) (.var 1)) (.ld (some 6) (.var 5)))])
 (.seq
 (.new (some 12) 170 (.upd 1 6 (.upd 0 1 (.const zA7) (.var 1)) (.ld (some 6) (.var 5))))
 (.seq
 (.set 3 (.var 12))
 (.set 4 (.const (.int .i64 0))))))
 .ret)))),
  [(.var 3), (.var 4)]⟩
theorem okx_69 : FnOk Tryz.prog 3 365 69 xf69 := fnOk_of Tryz.func69 (np := 3) (V := [0, 1, 2, 6, 7, 5, 13, 8, 9, 20, 19, 21, 26]) (ks := []) (by kernel_rfl)

/- tipstaff/digest.length -/
def xf72 : XF := ⟨1, [0, 2, 3, 4, 15, 16],
  (.seq
 (.set 1 (.const (.slice none 0 0)))
 (.seq
 (.set 2 (.const (.slice none 0 0)))
 (.seq
 (.seq
 (.set 3 (.const (.int .i64 7)))
 (.block 0
 (.loop [0, 2, 3]
 (.seq
 (.cond (.bin .geq (.var 3) (.const (.int .i64 0)))
 .skip
 (.exit 0))
 (.seq
 (.block 1
 (.seq
 (.chk [(.var 2)])
 (.seq
 (.row (some 4) 5 1 (.upd 0 1 (.const (.agg #[(.int .u8 0)])) (.conv .u8 (.bin .shr (.var 0) (.bin .mul (.const (.int .i64 8)) (.var 3))))))
 (.seq
 (.app (some 5) 5 1 (.var 2) (.var 4) [])
 (.set 2 (.var 5))))))
 (.set 3 (.bin .sub (.var 3) (.const (.int .i64 1)))))))))
 (.seq
 (.set 1 (.var 2))
 .ret)))),
  [(.var 1)]⟩
theorem okx_72 : FnOk Tryz.prog 3 365 72 xf72 := fnOk_of Tryz.func72 (np := 1) (V := [0, 2, 3, 4, 15, 16]) (ks := [[0, 2, 3]]) (by kernel_rfl)

/- (*tipstaff/digest.state).work -/
def xf73 : XF := ⟨2, [0, 1, 4, 14, 16, 17, 5, 6, 7, 8, 28, 30, 33, 26, 45, 49, 9, 54, 56, 59, 75, 10, 90, 11],
  (.seq
 (.seq
 (.set 3 (.ld (some 8) (.nn (.var 0))))
 (.seq
 (.new (some 2) 155 (.const (.agg (Array.replicate 8 (.int .u32 0)))))
 (.store 8 (.var 2) (.var 3) [])))
 (.seq
 (.seq
 (.seq
 (.call (some 4) 124 [(.var 1)] [])
 (.set 5 (.const (.int .i64 0))))
 (.block 0
 (.loop [0, 2, 4, 5]
 (.seq
 (.cond (.bin .lss (.var 5) (.const (.int .i64 64)))
 .skip
 (.exit 0))
 (.seq
 (.block 1
 (.seq
 (.seq
 (.chk [(.idxAgg none 1 64 (.var 4) (.var 5))])
 (.seq
 (.set 6 (.var 5))
 (.set 7 (.idxAgg none 1 64 (.var 4) (.var 5)))))
 (.seq
 (.seq
 .skip
 (.seq
 (.chk [(.ld none (.ixArr 8 1 (.var 2) (.const (.int .i64 4))))])
 (.seq
 (.set 8 (.ld none (.ixArr 8 1 (.var 2) (.const (.int .i64 0)))))
 (.set 9 (.ld none (.ixArr 8 1 (.var 2) (.const (.int .i64 4))))))))
 (.seq
 (.seq
 .skip
 (.seq
 (.set 13 (.ld none (.ixArr 8 1 (.var 2) (.const (.int .i64 7)))))
 (.seq
 (.set 14 (.bin .xor (.bin .and (.var 9) (.ld none (.ixArr 8 1 (.var 2) (.const (.int .i64 5))))) (.bin .and (.un .xor (.var 9)) (.ld none (.ixArr 8 1 (.var 2) (.const (.int .i64 6)))))))
 (.seq
 (.chk [(.ixArr 64 1 (.const (.pointer (some ⟨1, 0, none⟩))) (.var 6))])
 (.seq
 (.set 15 (.ld none (.ixArr 64 1 (.const (.pointer (some ⟨1, 0, none⟩))) (.var 6))))
 (.seq
 (.chk [(.var 7)])
 (.seq
 (.call (some 10) 125 [(.var 9), (.const (.int .i64 6))] [(.ld none (.ixArr 64 1 (.const (.pointer (some ⟨1, 0, none⟩))) (.var 6))), (.ld none (.ixArr 8 1 (.var 2) (.const (.int .i64 6)))), (.ld none (.ixArr 8 1 (.var 2) (.const (.int .i64 5)))), (.ld none (.ixArr 8 1 (.var 2) (.const (.int .i64 7))))])
 (.seq
 (.call (some 11) 125 [(.var 9), (.const (.int .i64 11))] [(.ld none (.ixArr 64 1 (.const (.pointer (some ⟨1, 0, none⟩))) (.var 6))), (.ld none (.ixArr 8 1 (.var 2) (.const (.int .i64 6)))), (.ld none (.ixArr 8 1 (.var 2) (.const (.int .i64 5)))), (.ld none (.ixArr 8 1 (.var 2) (.const (.int .i64 7))))])
 (.seq
 (.chk [(.bin .xor (.var 10) (.var 11))])
 (.seq
 (.call (some 12) 125 [(.var 9), (.const (.int .i64 25))] [(.ld none (.ixArr 64 1 (.const (.pointer (some ⟨1, 0, none⟩))) (.var 6))), (.ld none (.ixArr 8 1 (.var 2) (.const (.int .i64 6)))), (.ld none (.ixArr 8 1 (.var 2) (.const (.int .i64 5)))), (.ld none (.ixArr 8 1 (.var 2) (.const (.int .i64 7))))])
 (.set 16 (.bin .add (.bin .add (.bin .add (.bin .add (.var 13) (.bin .xor (.bin .xor (.var 10) (.var 11)) (.var 12))) (.var 14)) (.var 15)) (.var 7)))))))))))))
 (.seq
 (.seq
 .skip
 (.seq
 (.set 20 (.bin .xor (.bin .xor (.bin .and (.var 8) (.ld none (.ixArr 8 1 (.var 2) (.const (.int .i64 1))))) (.bin .and (.var 8) (.ld none (.ixArr 8 1 (.var 2) (.const (.int .i64 2)))))) (.bin .and (.ld none (.ixArr 8 1 (.var 2) (.const (.int .i64 1)))) (.ld none (.ixArr 8 1 (.var 2) (.const (.int .i64 2)))))))
 (.seq
 (.call (some 17) 125 [(.var 8), (.const (.int .i64 2))] [(.ld none (.ixArr 8 1 (.var 2) (.const (.int .i64 2)))), (.ld none (.ixArr 8 1 (.var 2) (.const (.int .i64 1)))), (.ld none (.ixArr 8 1 (.var 2) (.const (.int .i64 2)))), (.ld none (.ixArr 8 1 (.var 2) (.const (.int .i64 1))))])
 (.seq
 (.call (some 18) 125 [(.var 8), (.const (.int .i64 13))] [(.ld none (.ixArr 8 1 (.var 2) (.const (.int .i64 2)))), (.ld none (.ixArr 8 1 (.var 2) (.const (.int .i64 1)))), (.ld none (.ixArr 8 1 (.var 2) (.const (.int .i64 2)))), (.ld none (.ixArr 8 1 (.var 2) (.const (.int .i64 1))))])
 (.seq
 (.chk [(.bin .xor (.var 17) (.var 18))])
 (.seq
 (.call (some 19) 125 [(.var 8), (.const (.int .i64 22))] [(.ld none (.ixArr 8 1 (.var 2) (.const (.int .i64 2)))), (.ld none (.ixArr 8 1 (.var 2) (.const (.int .i64 1)))), (.ld none (.ixArr 8 1 (.var 2) (.const (.int .i64 2)))), (.ld none (.ixArr 8 1 (.var 2) (.const (.int .i64 1))))])
 (.set 21 (.bin .add (.bin .xor (.bin .xor (.var 17) (.var 18)) (.var 19)) (.var 20)))))))))
 (.seq
 (.seq
 .skip
 (.copy none 1 (.slArr 8 1 (.var 2) (.const (.int .i64 1)) (.const (.int .i64 8))) (.slArr 8 1 (.var 2) (.const (.int .i64 0)) (.const (.int .i64 7))) []))
 (.seq
 (.store 1 (.ixArr 8 1 (.var 2) (.const (.int .i64 0))) (.bin .add (.var 16) (.var 21)) [])
 (.store 1 (.ixArr 8 1 (.var 2) (.const (.int .i64 4))) (.bin .add (.ld none (.ixArr 8 1 (.var 2) (.const (.int .i64 4)))) (.var 16)) []))))))))
 (.set 5 (.bin .add (.var 5) (.const (.int .i64 1)))))))))
 (.seq
 (.set 22 (.const (.int .i64 0)))
 (.block 2
 (.loop [0, 2, 22]
 (.seq
 (.cond (.bin .lss (.var 22) (.const (.int .i64 8)))
 .skip
 (.exit 2))
 (.seq
 (.block 3
 (.seq
 (.set 23 (.var 22))
 (.seq
 .skip
 (.store 1 (.ixArr 8 1 (.nn (.var 0)) (.var 23)) (.bin .add (.ld none (.ixArr 8 1 (.nn (.var 0)) (.var 23))) (.ld none (.ixArr 8 1 (.var 2) (.var 23)))) []))))
 (.set 22 (.bin .add (.var 22) (.const (.int .i64 1))))))))))),
  []⟩
theorem okx_73 : FnOk Tryz.prog 3 365 73 xf73 := fnOk_of Tryz.func73 (np := 2) (V := [0, 1, 4, 14, 16, 17, 5, 6, 7, 8, 28, 30, 33, 26, 45, 49, 9, 54, 56, 59, 75, 10, 90, 11]) (ks := [[0, 2, 4, 5], [0, 2, 22]]) (by kernel_rfl)

/- tipstaff/token.Program -/
def xf78 : XF := ⟨2, [0, 1, 4, 6, 9],
  (.seq
 (.set 2 (.const (.int .i64 0)))
 (.seq
 (.seq
 (.call (some 3) 103 [(.var 0)] [])
 (.seq
 (.call (some 4) 102 [(.part none 1 (.var 3)), (.var 1)] [])
 (.set 2 (.var 4))))
 .ret)),
  [(.var 2)]⟩
theorem okx_78 : FnOk Tryz.prog 3 365 78 xf78 := fnOk_of Tryz.func78 (np := 2) (V := [0, 1, 4, 6, 9]) (ks := []) (by kernel_rfl)

/- slices.Contains[[]*tipstaff/bmap.Map,*tipstaff/bmap.Map] -/
def xf79 : XF := ⟨2, [0, 1, 4, 7],
  (.seq
 (.set 2 (.const (.bool false)))
 (.seq
 (.seq
 (.call (some 3) 129 [(.var 0), (.var 1)] [])
 (.set 2 (.bin .geq (.var 3) (.const (.int .i64 0)))))
 .ret)),
  [(.var 2)]⟩
theorem okx_79 : FnOk Tryz.prog 3 365 79 xf79 := fnOk_of Tryz.func79 (np := 2) (V := [0, 1, 4, 7]) (ks := []) (by kernel_rfl)

/- tipstaff/loader.may -/
def xf80 : XF := ⟨4, [0, 1, 2, 3, 8, 16, 18, 17, 10, 24, 11, 31, 30, 29, 13, 37, 39, 14],
  (.seq
 (.set 4 (.const (.int .i64 0)))
 (.seq
 (.seq
 (.seq
 (.call (some 5) 130 [(.var 1)] [])
 (.seq
 (.set 7 (.len false (.var 5)))
 (.set 6 (.const (.int .i64 0)))))
 (.block 0
 (.loop [0, 2, 3, 5, 6, 7]
 (.seq
 (.cond (.bin .lss (.var 6) (.var 7))
 .skip
 (.exit 0))
 (.seq
 (.block 1
 (.seq
 (.set 8 (.ld none (.ixSl 1 (.var 5) (.var 6))))
 (.seq
 (.seq
 (.call (some 9) 131 [(.var 0), (.var 8)] [])
 (.set 10 (.var 9)))
 (.cond (.bin .neq (.var 10) (.const (.int .i64 0)))
 (.seq
 (.set 4 (.var 10))
 .ret)
 .skip))))
 (.set 6 (.bin .add (.var 6) (.const (.int .i64 1)))))))))
 (.seq
 (.seq
 (.seq
 (.set 13 (.var 2))
 (.seq
 (.set 12 (.len false (.var 13)))
 (.set 11 (.const (.int .i64 0)))))
 (.block 2
 (.loop [0, 3, 11, 12, 13]
 (.seq
 (.cond (.bin .lss (.var 11) (.var 12))
 .skip
 (.exit 2))
 (.seq
 (.block 3
 (.seq
 (.set 14 (.ld none (.ixSl 1 (.var 13) (.var 11))))
 (.seq
 (.seq
 (.chk [(.var 0)])
 (.seq
 (.call (some 15) 132 [(.var 14)] [])
 (.seq
 (.call (some 16) 104 [(.var 0), (.part none 0 (.var 15))] [])
 (.set 17 (.var 16)))))
 (.cond (.bin .neq (.var 17) (.const (.int .i64 0)))
 (.seq
 (.set 4 (.var 17))
 .ret)
 .skip))))
 (.set 11 (.bin .add (.var 11) (.const (.int .i64 1)))))))))
 (.seq
 (.cond (.pick (.var 3) (.un .not (.ld none (.offp 4 (.offp 1 (.nn (.var 0)))))) (.const (.bool false)))
 (.seq
 (.set 4 (.const (.int .i64 1)))
 .ret)
 .skip)
 (.seq
 (.set 4 (.const (.int .i64 0)))
 .ret))))),
  [(.var 4)]⟩
theorem okx_80 : FnOk Tryz.prog 3 365 80 xf80 := fnOk_of Tryz.func80 (np := 4) (V := [0, 1, 2, 3, 8, 16, 18, 17, 10, 24, 11, 31, 30, 29, 13, 37, 39, 14]) (ks := [[0, 2, 3, 5, 6, 7], [0, 3, 11, 12, 13]]) (by kernel_rfl)

/- (*tipstaff/space.Tree).Depth -/
def xf81 : XF := ⟨2, [0, 1, 4, 5, 11, 6, 7],
  (.seq
 (.seq
 (.set 2 (.const (.int .i64 0)))
 (.set 3 (.const (.int .i64 0))))
 (.seq
 (.seq
 (.call (some 4) 122 [(.var 0), (.var 1)] [])
 (.seq
 (.chk [(.proj 1 (.var 4)), (.proj 0 (.var 4))])
 (.seq
 (.new (some 5) 227 (.const (.agg #[(.int .i64 0), (.int .i64 0)])))
 (.seq
 (.store 2 (.var 5) (.proj 0 (.var 4)) [])
 (.set 6 (.proj 1 (.var 4)))))))
 (.seq
 (.seq
 (.chk [(.var 6)])
 (.seq
 (.set 2 (.ld none (.offp 1 (.var 5))))
 (.set 3 (.var 6))))
 .ret))),
  [(.var 2), (.var 3)]⟩
theorem okx_81 : FnOk Tryz.prog 3 365 81 xf81 := fnOk_of Tryz.func81 (np := 2) (V := [0, 1, 4, 5, 11, 6, 7]) (ks := []) (by kernel_rfl)

/- tipstaff/rights.Within -/
def xf82 : XF := ⟨2, [0, 1, 4, 2, 3, 7, 8],
  (.seq
 (.seq
 (.new (some 3) 33 (.var 0))
 (.seq
 (.new (some 4) 33 (.var 1))
 (.set 2 (.const (.bool false)))))
 (.seq
 (.seq
 .skip
 (.seq
 (.chk [(.ld (some 6) (.var 4))])
 (.seq
 (.set 6 (.ld (some 6) (.var 3)))
 (.seq
 (.call (some 5) 133 [(.ld (some 6) (.var 3)), (.ld (some 6) (.var 4))] [(.ld (some 6) (.var 3))])
 (.set 2 (.eqx false (.cons 0 none .int (.cons 1 none .int (.cons 2 none .int (.cons 3 none .int (.cons 4 none .bool (.cons 5 none .bool .nil)))))) (.var 5) (.var 6)))))))
 .ret)),
  [(.var 2)]⟩
theorem okx_82 : FnOk Tryz.prog 3 365 82 xf82 := fnOk_of Tryz.func82 (np := 2) (V := [0, 1, 4, 2, 3, 7, 8]) (ks := []) (by kernel_rfl)

/- tipstaff/bmap.within -/
def xf84 : XF := ⟨3, [0, 1, 2, 6],
  (.seq
 (.set 3 (.const (.bool false)))
 (.seq
 (.set 3 (.pick (.bin .geq (.var 0) (.var 1)) (.bin .leq (.var 0) (.var 2)) (.const (.bool false))))
 .ret)),
  [(.var 3)]⟩
theorem okx_84 : FnOk Tryz.prog 3 365 84 xf84 := fnOk_of Tryz.func84 (np := 3) (V := [0, 1, 2, 6]) (ks := []) (by kernel_rfl)

/- tipstaff/verify.Check -/
def xf85 : XF := ⟨2, [0, 1, 4, 5, 3, 14, 6, 7, 27, 8, 33, 32, 35, 9, 37, 39, 44],
  (.seq
 (.seq
 (.new (some 4) 181 (.var 1))
 (.seq
 (.new (some 2) 175 (.const (.agg #[(.int .i64 0), (.int .i64 0)])))
 (.set 3 (.const (.int .i64 0)))))
 (.seq
 (.seq
 (.seq
 (.call (some 5) 135 [(.var 0), (.ld none (.offp 2 (.var 4)))] [])
 (.seq
 (.chk [(.proj 1 (.var 5))])
 (.seq
 (.set 6 (.proj 0 (.var 5)))
 (.set 7 (.proj 1 (.var 5))))))
 (.cond (.bin .neq (.var 7) (.const (.int .i64 0)))
 (.seq
 (.cond (.bin .eql (.var 7) (.const (.int .i64 7)))
 (.seq
 (.seq
 (.chk [(.var 7)])
 (.seq
 (.store 2 (.var 2) (.const (.agg #[(.int .i64 0), (.int .i64 0)])) [])
 (.set 3 (.var 7))))
 .ret)
 .skip)
 (.seq
 (.seq
 (.chk [(.upd 0 1 (.const (.agg #[(.int .i64 0), (.int .i64 0)])) (.var 6))])
 (.seq
 (.store 2 (.var 2) (.upd 0 1 (.const (.agg #[(.int .i64 0), (.int .i64 0)])) (.var 6)) [])
 (.set 3 (.const (.int .i64 22)))))
 .ret))
 .skip))
 (.seq
 (.seq
 (.call (some 8) 136 [(.ld none (.offp 0 (.var 4))), (.const (.func (.func 137) #[] #[]))] [])
 (.cond (.var 8)
 (.seq
 (.seq
 (.store 2 (.var 2) (.const (.agg #[(.int .i64 0), (.int .i64 0)])) [])
 (.set 3 (.const (.int .i64 22))))
 .ret)
 .skip))
 (.seq
 (.set 9 (.const (.int .i64 512)))
 (.seq
 (.cond (.ld none (.offp 2 (.var 4)))
 (.set 9 (.const (.int .i64 2048)))
 .skip)
 (.seq
 (.seq
 (.chk [(.var 0)])
 (.seq
 (.set 11 (.ld (some 3) (.var 4)))
 (.seq
 (.mkmap (some 10) .i64 [])
 (.seq
 (.chk [(.upd 5 1 (.upd 1 3 (.upd 0 1 (.const (.agg #[(.slice none 0 0), (.slice none 0 0), (.slice none 0 0), (.bool false), (.slice none 0 0), (.map none), (.int .i64 0)])) (.var 0)) (.var 11)) (.var 10))])
 (.seq
 (.new (some 12) 251 (.upd 5 1 (.upd 1 3 (.upd 0 1 (.const (.agg #[(.slice none 0 0), (.slice none 0 0), (.slice none 0 0), (.bool false), (.slice none 0 0), (.map none), (.int .i64 0)])) (.var 0)) (.var 11)) (.var 10)))
 (.set 13 (.var 12)))))))
 (.seq
 (.seq
 (.chk [(.var 13)])
 (.seq
 (.call (some 14) 138 [] [])
 (.seq
 (.chk [(.upd 1 273 (.upd 0 1 (.const zA18) (.const (.int .i64 0))) (.var 14))])
 (.seq
 (.row (some 15) 265 1 (.upd 0 274 (.const zA18) (.upd 1 273 (.upd 0 1 (.const zA18) (.const (.int .i64 0))) (.var 14))))
 (.store 1 (.offp 4 (.nn (.var 13))) (.var 15) [])))))
 (.seq
 (.seq
 (.call (some 16) 139 [(.var 13), (.var 9)] [])
 (.seq
 (.chk [(.proj 1 (.var 16))])
 (.seq
 (.store 2 (.var 2) (.proj 0 (.var 16)) [])
 (.set 3 (.proj 1 (.var 16))))))
 .ret)))))))),
  [(.ld (some 2) (.var 2)), (.var 3)]⟩
theorem okx_85 : FnOk Tryz.prog 3 365 85 xf85 := fnOk_of Tryz.func85 (np := 2) (V := [0, 1, 4, 5, 3, 14, 6, 7, 27, 8, 33, 32, 35, 9, 37, 39, 44]) (ks := []) (by kernel_rfl)
end Go.Proofs.YtipfkfecelkhnaaGreatDoor
