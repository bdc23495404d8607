/- The interpreter's functions, part 4: made by program (geny.py). -/
import Derived.Test.YtmpgfgemnhbkhaaGreatDoorXttz
import Derived.Test.YtmpgfgemnhbkhaaGreatDoorProg
set_option maxRecDepth 100000
set_option linter.unusedVariables false
namespace Go.Proofs.YtmpgfgemnhbkhaaGreatDoor
open Go.Eng
def cm4 : Cmd :=
  (.seq
 (.set 2 (.const (.bool false)))
 (.seq
 (.seq
 (.chk [(.upd 3 1 (.upd 2 1 (.upd 1 1 (.upd 0 1 (.const (.agg (Array.replicate 4 (.int .i64 0)))) (.const (.int .i64 0))) (.const (.int .i64 4))) (.const (.int .i64 8))) (.const (.int .i64 1)))])
 (.seq
 (.new (some 3) 24 (.const (.agg (Array.replicate 4 (.int .i64 0)))) [])
 (.store 4 (.var 3) (.upd 3 1 (.upd 2 1 (.upd 1 1 (.upd 0 1 (.const (.agg (Array.replicate 4 (.int .i64 0)))) (.const (.int .i64 0))) (.const (.int .i64 4))) (.const (.int .i64 8))) (.const (.int .i64 1))) [])))
 (.seq
 (.seq
 (.chk [(.upd 3 1 (.upd 1 1 (.upd 0 1 (.const zA2) (.const (.int .u8 85))) (.const (.int .u8 0))) (.const (.int .i16 2))), (.upd 4 1 (.upd 0 1 (.const zA2) (.const (.int .u8 133))) (.const (.int .i32 1))), (.upd 4 1 (.upd 1 1 (.upd 0 1 (.const zA2) (.const (.int .u8 7))) (.const (.int .u8 2))) (.const (.int .i32 (-4)))), (.upd 2 1 (.upd 1 1 (.upd 0 1 (.const zA2) (.const (.int .u8 191))) (.const (.int .u8 2))) (.const (.int .u8 10))), (.upd 2 1 (.upd 1 1 (.upd 0 1 (.const zA2) (.const (.int .u8 24))) (.const (.int .u8 1))) (.const (.int .u8 1))), (.upd 3 1 (.upd 1 1 (.upd 0 1 (.const zA2) (.const (.int .u8 98))) (.const (.int .u8 10))) (.const (.int .i16 (-4))))])
 (.seq
 (.call (some 4) 15 [(.const (.int .u8 0)), (.const (.int .i32 0))] [])
 (.seq
 (.call (some 5) 16 [] [])
 (.seq
 (.call (some 6) 15 [(.const (.int .u8 1)), (.const (.int .i32 1))] [])
 (.seq
 (.chk [(.upd 2 1 (.upd 1 1 (.upd 0 1 (.const zA2) (.const (.int .u8 121))) (.const (.int .u8 0))) (.const (.int .u8 0))), (.upd 2 1 (.upd 1 1 (.upd 0 1 (.const zA2) (.const (.int .u8 219))) (.const (.int .u8 0))) (.const (.int .u8 1)))])
 (.seq
 (.call (some 7) 16 [] [])
 (.seq
 (.row (some 8) 32 13 (.upd 60 5 (.upd 55 5 (.upd 50 5 (.upd 45 5 (.upd 40 5 (.upd 35 5 (.upd 30 5 (.upd 25 5 (.upd 20 5 (.upd 15 5 (.upd 10 5 (.upd 5 5 (.upd 0 5 (.const zA19) (.upd 3 1 (.upd 1 1 (.upd 0 1 (.const zA2) (.const (.int .u8 98))) (.const (.int .u8 10))) (.const (.int .i16 (-4))))) (.upd 2 1 (.upd 1 1 (.upd 0 1 (.const zA2) (.const (.int .u8 24))) (.const (.int .u8 1))) (.const (.int .u8 1)))) (.const zA2)) (.upd 2 1 (.upd 1 1 (.upd 0 1 (.const zA2) (.const (.int .u8 191))) (.const (.int .u8 2))) (.const (.int .u8 10)))) (.upd 4 1 (.upd 1 1 (.upd 0 1 (.const zA2) (.const (.int .u8 7))) (.const (.int .u8 2))) (.const (.int .i32 (-4))))) (.upd 4 1 (.upd 0 1 (.const zA2) (.const (.int .u8 133))) (.const (.int .i32 1)))) (.upd 3 1 (.upd 1 1 (.upd 0 1 (.const zA2) (.const (.int .u8 85))) (.const (.int .u8 0))) (.const (.int .i16 2)))) (.var 4)) (.var 5)) (.var 6)) (.upd 2 1 (.upd 1 1 (.upd 0 1 (.const zA2) (.const (.int .u8 219))) (.const (.int .u8 0))) (.const (.int .u8 1)))) (.upd 2 1 (.upd 1 1 (.upd 0 1 (.const zA2) (.const (.int .u8 121))) (.const (.int .u8 0))) (.const (.int .u8 0)))) (.var 7)) [])
 (.set 9 (.var 8)))))))))
 (.seq
 (.seq
 (.chk [(.var 9)])
 (.seq
 (.row (some 10) 24 1 (.upd 0 4 (.const (.agg (Array.replicate 4 (.int .i64 0)))) (.ld (some 4) (.var 3))) [])
 (.seq
 (.chk [(.upd 0 1 (.const (.agg #[(.slice none 0 0), (.slice none 0 0), (.bool false)])) (.var 10))])
 (.seq
 (.call (some 11) 17 [(.var 9), (.upd 0 1 (.const (.agg #[(.slice none 0 0), (.slice none 0 0), (.bool false)])) (.var 10))] [])
 (.seq
 (.chk [(.proj 1 (.var 11)), (.proj 0 (.var 11))])
 (.seq
 (.new (some 12) 37 (.const (.agg #[(.int .i64 0), (.int .i64 0)])) [])
 (.seq
 (.store 2 (.var 12) (.proj 0 (.var 11)) [])
 (.set 13 (.proj 1 (.var 11))))))))))
 (.seq
 (.seq
 (.call (some 14) 12 [(.ld (some 4) (.var 3))] [])
 (.seq
 (.chk [(.proj 1 (.var 14))])
 (.seq
 (.set 15 (.proj 0 (.var 14)))
 (.set 16 (.proj 1 (.var 14))))))
 (.seq
 (.seq
 (.seq
 (.call (some 17) 13 [] [])
 (.cond (.pick (.un .not (.var 17)) (.const (.bool false)) (.const (.bool true)))
 (.call (some 18) 14 [] [])
 (.clr [18])))
 (.cond (.pick (.pick (.pick (.un .not (.var 17)) (.const (.bool true)) (.un .not (.var 18))) (.const (.bool true)) (.bin .neq (.var 13) (.const (.int .i64 0)))) (.const (.bool true)) (.bin .neq (.var 16) (.const (.int .i64 0))))
 (.seq
 (.set 2 (.const (.bool false)))
 .ret)
 .skip))
 (.seq
 (.set 19 (.conv .i64 (.bin .rem (.conv .u64 (.var 0)) (.const (.int .u64 20)))))
 (.seq
 (.seq
 (.set 20 (.const (.int .i64 1)))
 (.block 0
 (.loop [0, 1, 9, 15, 19, 20]
 (.seq
 (.cond (.bin .leq (.var 20) (.var 19))
 .skip
 (.exit 0))
 (.seq
 (.block 1
 (.seq
 (.seq
 (.chk [(.var 9)])
 (.seq
 (.row (some 21) 25 1 (.upd 0 1 (.const (.agg #[(.pointer none)])) (.var 15)) [])
 (.seq
 (.chk [(.upd 35 1 (.upd 32 1 (.const zA15) (.var 21)) (.const (.int .i64 50)))])
 (.seq
 (.call (some 22) 18 [(.var 9), (.upd 35 1 (.upd 32 1 (.const zA15) (.var 21)) (.const (.int .i64 50)))] [])
 (.seq
 (.new (some 23) 46 (.const (.agg #[(.int .u64 0), (.int .i64 0), (.int .i64 0), (.int .i64 0)])) [])
 (.store 4 (.var 23) (.var 22) []))))))
 (.cond (.pick (.bin .neq (.ld none (.offp 3 (.var 23))) (.const (.int .i64 0))) (.const (.bool true)) (.bin .neq (.ld none (.offp 0 (.var 23))) (.conv .u64 (.var 20))))
 (.seq
 (.set 2 (.const (.bool false)))
 .ret)
 .skip)))
 (.set 20 (.bin .add (.var 20) (.const (.int .i64 1)))))))))
 (.seq
 (.set 24 (.conv .i64 (.bin .rem (.conv .u64 (.var 1)) (.const (.int .u64 12)))))
 (.seq
 (.seq
 (.chk [(.var 9)])
 (.seq
 (.row (some 25) 25 1 (.upd 0 1 (.const (.agg #[(.pointer none)])) (.var 15)) [])
 (.seq
 (.chk [(.upd 35 1 (.upd 32 1 (.const zA15) (.var 25)) (.var 24))])
 (.seq
 (.call (some 26) 18 [(.var 9), (.upd 35 1 (.upd 32 1 (.const zA15) (.var 25)) (.var 24))] [])
 (.seq
 (.new (some 27) 46 (.const (.agg #[(.int .u64 0), (.int .i64 0), (.int .i64 0), (.int .i64 0)])) [])
 (.store 4 (.var 27) (.var 26) []))))))
 (.seq
 (.seq
 (.chk [(.var 15)])
 (.seq
 (.sem (some 28) (.mk 55) [(.const (.int .i64 4)), (.const (.int .i64 4))] [])
 (.seq
 (.call (some 29) 20 [(.var 15), (.var 28)] [])
 (.seq
 (.chk [(.proj 1 (.var 29))])
 (.seq
 (.set 30 (.proj 0 (.var 29)))
 (.set 31 (.proj 1 (.var 29))))))))
 (.seq
 (.set 32 (.conv .u8 (.var 19)))
 (.seq
 (.cond (.bin .geq (.var 24) (.const (.int .i64 8)))
 (.set 32 (.bin .add (.var 32) (.const (.int .u8 1))))
 .skip)
 (.seq
 (.cond (.pick (.pick (.bin .neq (.var 31) (.const (.int .i64 0))) (.const (.bool true)) (.bin .neq (.len false (.var 30)) (.const (.int .i64 8)))) (.const (.bool true)) (.bin .neq (.ld none (.ixSl 1 (.var 30) (.const (.int .i64 0)))) (.var 32)))
 (.seq
 (.set 2 (.const (.bool false)))
 .ret)
 .skip)
 (.seq
 (.cond (.bin .geq (.var 24) (.const (.int .i64 10)))
 (.seq
 (.set 2 (.pick (.bin .eql (.ld none (.offp 3 (.var 27))) (.const (.int .i64 0))) (.bin .eql (.ld none (.offp 0 (.var 27))) (.bin .add (.conv .u64 (.var 19)) (.const (.int .u64 1)))) (.const (.bool false))))
 .ret)
 .skip)
 (.seq
 (.set 2 (.pick (.bin .eql (.ld none (.offp 3 (.var 27))) (.const (.int .i64 62))) (.bin .eql (.ld none (.offp 2 (.var 27))) (.var 24)) (.const (.bool false))))
 .ret))))))))))))))))
def xf4 : XF := ⟨2, [0, 1, 4, 5, 27, 28, 29, 32, 33, 6, 37, 39, 7, 8, 44, 9, 10, 47, 50, 11, 12, 72, 74, 13, 14, 91, 94, 15, 97, 98, 16, 17, 18],
  (.seq
 (.set 2 (.const (.bool false)))
 (.seq
 (.seq
 (.chk [(.upd 3 1 (.upd 2 1 (.upd 1 1 (.upd 0 1 (.const (.agg (Array.replicate 4 (.int .i64 0)))) (.const (.int .i64 0))) (.const (.int .i64 4))) (.const (.int .i64 8))) (.const (.int .i64 1)))])
 (.seq
 (.new (some 3) 24 (.const (.agg (Array.replicate 4 (.int .i64 0)))))
 (.store 4 (.var 3) (.upd 3 1 (.upd 2 1 (.upd 1 1 (.upd 0 1 (.const (.agg (Array.replicate 4 (.int .i64 0)))) (.const (.int .i64 0))) (.const (.int .i64 4))) (.const (.int .i64 8))) (.const (.int .i64 1))) [])))
 (.seq
 (.seq
 (.chk [(.upd 3 1 (.upd 1 1 (.upd 0 1 (.const zA2) (.const (.int .u8 85))) (.const (.int .u8 0))) (.const (.int .i16 2))), (.upd 4 1 (.upd 0 1 (.const zA2) (.const (.int .u8 133))) (.const (.int .i32 1))), (.upd 4 1 (.upd 1 1 (.upd 0 1 (.const zA2) (.const (.int .u8 7))) (.const (.int .u8 2))) (.const (.int .i32 (-4)))), (.upd 2 1 (.upd 1 1 (.upd 0 1 (.const zA2) (.const (.int .u8 191))) (.const (.int .u8 2))) (.const (.int .u8 10))), (.upd 2 1 (.upd 1 1 (.upd 0 1 (.const zA2) (.const (.int .u8 24))) (.const (.int .u8 1))) (.const (.int .u8 1))), (.upd 3 1 (.upd 1 1 (.upd 0 1 (.const zA2) (.const (.int .u8 98))) (.const (.int .u8 10))) (.const (.int .i16 (-4))))])
 (.seq
 (.call (some 4) 15 [(.const (.int .u8 0)), (.const (.int .i32 0))] [])
 (.seq
 (.call (some 5) 16 [] [])
 (.seq
 (.call (some 6) 15 [(.const (.int .u8 1)), (.const (.int .i32 1))] [])
 (.seq
 (.chk [(.upd 2 1 (.upd 1 1 (.upd 0 1 (.const zA2) (.const (.int .u8 121))) (.const (.int .u8 0))) (.const (.int .u8 0))), (.upd 2 1 (.upd 1 1 (.upd 0 1 (.const zA2) (.const (.int .u8 219))) (.const (.int .u8 0))) (.const (.int .u8 1)))])
 (.seq
 (.call (some 7) 16 [] [])
 (.seq
 (.row (some 8) 32 13 (.upd 60 5 (.upd 55 5 (.upd 50 5 (.upd 45 5 (.upd 40 5 (.upd 35 5 (.upd 30 5 (.upd 25 5 (.upd 20 5 (.upd 15 5 (.upd 10 5 (.upd 5 5 (.upd 0 5 (.const zA19) (.upd 3 1 (.upd 1 1 (.upd 0 1 (.const zA2) (.const (.int .u8 98))) (.const (.int .u8 10))) (.const (.int .i16 (-4))))) (.upd 2 1 (.upd 1 1 (.upd 0 1 (.const zA2) (.const (.int .u8 24))) (.const (.int .u8 1))) (.const (.int .u8 1)))) (.const zA2)) (.upd 2 1 (.upd 1 1 (.upd 0 1 (.const zA2) (.const (.int .u8 191))) (.const (.int .u8 2))) (.const (.int .u8 10)))) (.upd 4 1 (.upd 1 1 (.upd 0 1 (.const zA2) (.const (.int .u8 7))) (.const (.int .u8 2))) (.const (.int .i32 (-4))))) (.upd 4 1 (.upd 0 1 (.const zA2) (.const (.int .u8 133))) (.const (.int .i32 1)))) (.upd 3 1 (.upd 1 1 (.upd 0 1 (.const zA2) (.const (.int .u8 85))) (.const (.int .u8 0))) (.const (.int .i16 2)))) (.var 4)) (.var 5)) (.var 6)) (.upd 2 1 (.upd 1 1 (.upd 0 1 (.const zA2) (.const (.int .u8 219))) (.const (.int .u8 0))) (.const (.int .u8 1)))) (.upd 2 1 (.upd 1 1 (.upd 0 1 (.const zA2) (.const (.int .u8 121))) (.const (.int .u8 0))) (.const (.int .u8 0)))) (.var 7)))
 (.set 9 (.var 8)))))))))
 (.seq
 (.seq
 (.chk [(.var 9)])
 (.seq
 (.row (some 10) 24 1 (.upd 0 4 (.const (.agg (Array.replicate 4 (.int .i64 0)))) (.ld (some 4) (.var 3))))
 (.seq
 (.chk [(.upd 0 1 (.const (.agg #[(.slice none 0 0), (.slice none 0 0), (.bool false)])) (.var 10))])
 (.seq
 (.call (some 11) 17 [(.var 9), (.upd 0 1 (.const (.agg #[(.slice none 0 0), (.slice none 0 0), (.bool false)])) (.var 10))] [])
 (.seq
 (.chk [(.proj 1 (.var 11)), (.proj 0 (.var 11))])
 (.seq
 (.new (some 12) 37 (.const (.agg #[(.int .i64 0), (.int .i64 0)])))
 (.seq
 (.store 2 (.var 12) (.proj 0 (.var 11)) [])
 (.set 13 (.proj 1 (.var 11))))))))))
 (.seq
 (.seq
 (.call (some 14) 12 [(.ld (some 4) (.var 3))] [])
 (.seq
 (.chk [(.proj 1 (.var 14))])
 (.seq
 (.set 15 (.proj 0 (.var 14)))
 (.set 16 (.proj 1 (.var 14))))))
 (.seq
 (.seq
 (.seq
 (.call (some 17) 13 [] [])
 (.cond (.pick (.un .not (.var 17)) (.const (.bool false)) (.const (.bool true)))
 (.call (some 18) 14 [] [])
 (.clr [18])))
 (.cond (.pick (.pick (.pick (.un .not (.var 17)) (.const (.bool true)) (.un .not (.var 18))) (.const (.bool true)) (.bin .neq (.var 13) (.const (.int .i64 0)))) (.const (.bool true)) (.bin .neq (.var 16) (.const (.int .i64 0))))
 (.seq
 (.set 2 (.const (.bool false)))
 .ret)
 .skip))
 (.seq
 (.set 19 (.conv .i64 (.bin .rem (.conv .u64 (.var 0)) (.const (.int .u64 20)))))
 (.seq
 (.seq
 (.set 20 (.const (.int .i64 1)))
 (.block 0
 (.loop [0, 1, 9, 15, 19, 20]
 (.seq
 (.cond (.bin .leq (.var 20) (.var 19))
 .skip
 (.exit 0))
 (.seq
 (.block 1
 (.seq
 (.seq
 (.chk [(.var 9)])
 (.seq
 (.row (some 21) 25 1 (.upd 0 1 (.const (.agg #[(.pointer none)])) (.var 15)))
 (.seq
 (.chk [(.upd 35 1 (.upd 32 1 (.const zA15) (.var 21)) (.const (.int .i64 50)))])
 (.seq
 (.call (some 22) 18 [(.var 9), (.upd 35 1 (.upd 32 1 (.const zA15) (.var 21)) (.const (.int .i64 50)))] [])
 (.seq
 (.new (some 23) 46 (.const (.agg #[(.int .u64 0), (.int .i64 0), (.int .i64 0), (.int .i64 0)])))
 (.store 4 (.var 23) (.var 22) []))))))
 (.cond (.pick (.bin .neq (.ld none (.offp 3 (.var 23))) (.const (.int .i64 0))) (.const (.bool true)) (.bin .neq (.ld none (.offp 0 (.var 23))) (.conv .u64 (.var 20))))
 (.seq
 (.set 2 (.const (.bool false)))
 .ret)
 .skip)))
 (.set 20 (.bin .add (.var 20) (.const (.int .i64 1)))))))))
 (.seq
 (.set 24 (.conv .i64 (.bin .rem (.conv .u64 (.var 1)) (.const (.int .u64 12)))))
 (.seq
 (.seq
 (.chk [(.var 9)])
 (.seq
 (.row (some 25) 25 1 (.upd 0 1 (.const (.agg #[(.pointer none)])) (.var 15)))
 (.seq
 (.chk [(.upd 35 1 (.upd 32 1 (.const zA15) (.var 25)) (.var 24))])
 (.seq
 (.call (some 26) 18 [(.var 9), (.upd 35 1 (.upd 32 1 (.const zA15) (.var 25)) (.var 24))] [])
 (.seq
 (.new (some 27) 46 (.const (.agg #[(.int .u64 0), (.int .i64 0), (.int .i64 0), (.int .i64 0)])))
 (.store 4 (.var 27) (.var 26) []))))))
 (.seq
 (.seq
 (.chk [(.var 15)])
 (.seq
 (.mk (some 28) 5 [(.int .u8 0)] (.const (.int .i64 4)) (.const (.int .i64 4)) [])
 (.seq
 (.call (some 29) 20 [(.var 15), (.var 28)] [])
 (.seq
 (.chk [(.proj 1 (.var 29))])
 (.seq
 (.set 30 (.proj 0 (.var 29)))
 (.set 31 (.proj 1 (.var 29))))))))
 (.seq
 (.set 32 (.conv .u8 (.var 19)))
 (.seq
 (.cond (.bin .geq (.var 24) (.const (.int .i64 8)))
 (.set 32 (.bin .add (.var 32) (.const (.int .u8 1))))
 .skip)
 (.seq
 (.cond (.pick (.pick (.bin .neq (.var 31) (.const (.int .i64 0))) (.const (.bool true)) (.bin .neq (.len false (.var 30)) (.const (.int .i64 8)))) (.const (.bool true)) (.bin .neq (.ld none (.ixSl 1 (.var 30) (.const (.int .i64 0)))) (.var 32)))
 (.seq
 (.set 2 (.const (.bool false)))
 .ret)
 .skip)
 (.seq
 (.cond (.bin .geq (.var 24) (.const (.int .i64 10)))
 (.seq
 (.set 2 (.pick (.bin .eql (.ld none (.offp 3 (.var 27))) (.const (.int .i64 0))) (.bin .eql (.ld none (.offp 0 (.var 27))) (.bin .add (.conv .u64 (.var 19)) (.const (.int .u64 1)))) (.const (.bool false))))
 .ret)
 .skip)
 (.seq
 (.set 2 (.pick (.bin .eql (.ld none (.offp 3 (.var 27))) (.const (.int .i64 62))) (.bin .eql (.ld none (.offp 2 (.var 27))) (.var 24)) (.const (.bool false))))
 .ret)))))))))))))))),
  [(.var 2)]⟩
theorem cmp_4 : compile Tryz.prog Tryz.f4 [0, 1, 4, 5, 27, 28, 29, 32, 33, 6, 37, 39, 7, 8, 44, 9, 10, 47, 50, 11, 12, 72, 74, 13, 14, 91, 94, 15, 97, 98, 16, 17, 18] [[0, 1, 9, 15, 19, 20]] = some (cm4, [(.var 2)]) := by kernel_rfl
theorem tox_4 : toX Tryz.prog 2 377 cm4 = some xf4.c := by kernel_rfl
theorem okx_4 : FnOk Tryz.prog 2 377 4 xf4 := fnOk_parts Tryz.func4 (by kernel_rfl) (by kernel_rfl) cmp_4 tox_4 (by kernel_rfl)
def cm3 : Cmd :=
  (.seq
 (.set 2 (.const (.bool false)))
 (.seq
 (.seq
 (.chk [(.upd 3 1 (.upd 2 1 (.upd 0 1 (.const (.agg (Array.replicate 4 (.int .i64 0)))) (.const (.int .i64 3))) (.const (.int .i64 8))) (.const (.int .i64 8)))])
 (.seq
 (.new (some 3) 24 (.const (.agg (Array.replicate 4 (.int .i64 0)))) [])
 (.store 4 (.var 3) (.upd 3 1 (.upd 2 1 (.upd 0 1 (.const (.agg (Array.replicate 4 (.int .i64 0)))) (.const (.int .i64 3))) (.const (.int .i64 8))) (.const (.int .i64 8))) [])))
 (.seq
 (.cond (.var 1)
 (.store 1 (.offp 0 (.var 3)) (.const (.int .i64 4)) [])
 .skip)
 (.seq
 (.seq
 (.call (some 4) 12 [(.ld (some 4) (.var 3))] [])
 (.seq
 (.chk [(.proj 1 (.var 4))])
 (.seq
 (.set 5 (.proj 0 (.var 4)))
 (.set 6 (.proj 1 (.var 4))))))
 (.seq
 (.seq
 (.seq
 (.call (some 7) 13 [] [])
 (.cond (.pick (.un .not (.var 7)) (.const (.bool false)) (.const (.bool true)))
 (.call (some 8) 14 [] [])
 (.clr [8])))
 (.cond (.pick (.pick (.un .not (.var 7)) (.const (.bool true)) (.un .not (.var 8))) (.const (.bool true)) (.bin .neq (.var 6) (.const (.int .i64 0))))
 (.seq
 (.set 2 (.const (.bool false)))
 .ret)
 .skip))
 (.seq
 (.set 9 (.mn (.len false (.var 0)) (.const (.int .i64 8))))
 (.seq
 (.seq
 (.set 10 (.const (.int .i64 0)))
 (.block 0
 (.loop [0, 1, 3, 5, 9, 10]
 (.seq
 (.cond (.bin .lss (.var 10) (.var 9))
 .skip
 (.exit 0))
 (.seq
 (.block 1
 (.seq
 (.seq
 .draw
 (.seq
 (.set 13 (.upd 4 1 (.upd 3 1 (.upd 1 1 (.upd 0 1 (.const zA2) (.const (.int .u8 122))) (.const (.int .u8 10))) (.const (.int .i16 (-8)))) (.ld none (.ixSl 1 (.var 0) (.var 10)))))
 (.seq
 (.chk [(.upd 4 1 (.upd 0 1 (.const zA2) (.const (.int .u8 133))) (.const (.int .i32 87))), (.upd 4 1 (.upd 1 1 (.upd 0 1 (.const zA2) (.const (.int .u8 7))) (.const (.int .u8 2))) (.const (.int .i32 (-8)))), (.upd 2 1 (.upd 1 1 (.upd 0 1 (.const zA2) (.const (.int .u8 191))) (.const (.int .u8 2))) (.const (.int .u8 10))), (.upd 2 1 (.upd 1 1 (.upd 0 1 (.const zA2) (.const (.int .u8 24))) (.const (.int .u8 1))) (.const (.int .u8 1)))])
 (.seq
 (.call (some 11) 15 [(.const (.int .u8 3)), (.const (.int .i32 0))] [(.ld none (.ixSl 1 (.var 0) (.var 10)))])
 (.seq
 (.call (some 12) 16 [] [(.ld none (.ixSl 1 (.var 0) (.var 10)))])
 (.seq
 (.row (some 14) 32 8 (.upd 35 5 (.upd 30 5 (.upd 25 5 (.upd 20 5 (.upd 15 5 (.upd 10 5 (.upd 5 5 (.upd 0 5 (.const zA17) (.var 13)) (.upd 2 1 (.upd 1 1 (.upd 0 1 (.const zA2) (.const (.int .u8 24))) (.const (.int .u8 1))) (.const (.int .u8 1)))) (.const zA2)) (.upd 2 1 (.upd 1 1 (.upd 0 1 (.const zA2) (.const (.int .u8 191))) (.const (.int .u8 2))) (.const (.int .u8 10)))) (.upd 4 1 (.upd 1 1 (.upd 0 1 (.const zA2) (.const (.int .u8 7))) (.const (.int .u8 2))) (.const (.int .i32 (-8))))) (.var 11)) (.upd 4 1 (.upd 0 1 (.const zA2) (.const (.int .u8 133))) (.const (.int .i32 87)))) (.var 12)) [])
 (.set 15 (.var 14))))))))
 (.seq
 (.seq
 (.chk [(.var 15)])
 (.seq
 (.row (some 16) 24 1 (.upd 0 4 (.const (.agg (Array.replicate 4 (.int .i64 0)))) (.ld (some 4) (.var 3))) [])
 (.seq
 (.chk [(.upd 0 1 (.const (.agg #[(.slice none 0 0), (.slice none 0 0), (.bool false)])) (.var 16))])
 (.seq
 (.call (some 17) 17 [(.var 15), (.upd 0 1 (.const (.agg #[(.slice none 0 0), (.slice none 0 0), (.bool false)])) (.var 16))] [])
 (.seq
 (.chk [(.proj 1 (.var 17)), (.proj 0 (.var 17))])
 (.seq
 (.new (some 18) 37 (.const (.agg #[(.int .i64 0), (.int .i64 0)])) [])
 (.seq
 (.store 2 (.var 18) (.proj 0 (.var 17)) [])
 (.set 19 (.proj 1 (.var 17))))))))))
 (.seq
 (.seq
 (.chk [(.var 15)])
 (.seq
 (.row (some 20) 25 1 (.upd 0 1 (.const (.agg #[(.pointer none)])) (.var 5)) [])
 (.seq
 (.chk [(.upd 35 1 (.upd 32 1 (.const zA15) (.var 20)) (.const (.int .i64 50)))])
 (.seq
 (.call (some 21) 18 [(.var 15), (.upd 35 1 (.upd 32 1 (.const zA15) (.var 20)) (.const (.int .i64 50)))] [])
 (.seq
 (.new (some 22) 46 (.const (.agg #[(.int .u64 0), (.int .i64 0), (.int .i64 0), (.int .i64 0)])) [])
 (.store 4 (.var 22) (.var 21) []))))))
 (.cond (.pick (.pick (.bin .neq (.var 19) (.const (.int .i64 0))) (.const (.bool true)) (.bin .neq (.ld none (.offp 3 (.var 22))) (.const (.int .i64 0)))) (.const (.bool true)) (.bin .neq (.ld none (.offp 0 (.var 22))) (.const (.int .u64 0))))
 (.seq
 (.set 2 (.const (.bool false)))
 .ret)
 .skip)))))
 (.set 10 (.bin .add (.var 10) (.const (.int .i64 1)))))))))
 (.seq
 (.seq
 (.chk [(.upd 3 1 (.upd 2 1 (.upd 1 1 (.upd 0 1 (.const zA2) (.const (.int .u8 121))) (.const (.int .u8 0))) (.const (.int .u8 10))) (.const (.int .i16 (-8)))), (.upd 4 1 (.upd 0 1 (.const zA2) (.const (.int .u8 133))) (.const (.int .i32 88))), (.upd 4 1 (.upd 1 1 (.upd 0 1 (.const zA2) (.const (.int .u8 7))) (.const (.int .u8 2))) (.const (.int .i32 (-8)))), (.upd 2 1 (.upd 1 1 (.upd 0 1 (.const zA2) (.const (.int .u8 191))) (.const (.int .u8 2))) (.const (.int .u8 10))), (.upd 2 1 (.upd 1 1 (.upd 0 1 (.const zA2) (.const (.int .u8 24))) (.const (.int .u8 1))) (.const (.int .u8 1)))])
 (.seq
 (.call (some 23) 16 [] [])
 (.seq
 (.row (some 24) 32 7 (.upd 30 5 (.upd 25 5 (.upd 20 5 (.upd 15 5 (.upd 10 5 (.upd 5 5 (.upd 0 5 (.const zA14) (.upd 2 1 (.upd 1 1 (.upd 0 1 (.const zA2) (.const (.int .u8 24))) (.const (.int .u8 1))) (.const (.int .u8 1)))) (.const zA2)) (.upd 2 1 (.upd 1 1 (.upd 0 1 (.const zA2) (.const (.int .u8 191))) (.const (.int .u8 2))) (.const (.int .u8 10)))) (.upd 4 1 (.upd 1 1 (.upd 0 1 (.const zA2) (.const (.int .u8 7))) (.const (.int .u8 2))) (.const (.int .i32 (-8))))) (.upd 4 1 (.upd 0 1 (.const zA2) (.const (.int .u8 133))) (.const (.int .i32 88)))) (.upd 3 1 (.upd 2 1 (.upd 1 1 (.upd 0 1 (.const zA2) (.const (.int .u8 121))) (.const (.int .u8 0))) (.const (.int .u8 10))) (.const (.int .i16 (-8))))) (.var 23)) [])
 (.set 25 (.var 24)))))
 (.seq
 (.seq
 (.seq
 (.chk [(.var 25)])
 (.seq
 (.row (some 26) 24 1 (.upd 0 4 (.const (.agg (Array.replicate 4 (.int .i64 0)))) (.ld (some 4) (.var 3))) [])
 (.seq
 (.chk [(.upd 0 1 (.const (.agg #[(.slice none 0 0), (.slice none 0 0), (.bool false)])) (.var 26))])
 (.seq
 (.call (some 27) 17 [(.var 25), (.upd 0 1 (.const (.agg #[(.slice none 0 0), (.slice none 0 0), (.bool false)])) (.var 26))] [])
 (.seq
 (.chk [(.proj 1 (.var 27)), (.proj 0 (.var 27))])
 (.seq
 (.new (some 28) 37 (.const (.agg #[(.int .i64 0), (.int .i64 0)])) [])
 (.seq
 (.store 2 (.var 28) (.proj 0 (.var 27)) [])
 (.set 29 (.proj 1 (.var 27))))))))))
 (.cond (.bin .neq (.var 29) (.const (.int .i64 0)))
 (.seq
 (.set 2 (.const (.bool false)))
 .ret)
 .skip))
 (.seq
 (.seq
 (.set 30 (.const (.int .i64 0)))
 (.block 2
 (.loop [0, 1, 5, 9, 25, 30]
 (.seq
 (.cond (.bin .lss (.var 30) (.bin .add (.var 9) (.const (.int .i64 1))))
 .skip
 (.exit 2))
 (.seq
 (.block 3
 (.seq
 (.set 31 (.const (.int .u64 0)))
 (.seq
 (.cond (.bin .lss (.var 30) (.var 9))
 (.set 31 (.conv .u64 (.conv .i64 (.ld none (.ixSl 1 (.var 0) (.var 30))))))
 .skip)
 (.seq
 (.cond (.pick (.var 1) (.bin .lss (.var 30) (.var 9)) (.const (.bool false)))
 (.set 31 (.conv .u64 (.conv .i64 (.ld none (.ixSl 1 (.var 0) (.bin .sub (.bin .sub (.var 9) (.const (.int .i64 1))) (.var 30)))))))
 .skip)
 (.seq
 (.seq
 (.chk [(.var 25)])
 (.seq
 (.row (some 32) 25 1 (.upd 0 1 (.const (.agg #[(.pointer none)])) (.var 5)) [])
 (.seq
 (.chk [(.upd 35 1 (.upd 32 1 (.const zA15) (.var 32)) (.const (.int .i64 50)))])
 (.seq
 (.call (some 33) 18 [(.var 25), (.upd 35 1 (.upd 32 1 (.const zA15) (.var 32)) (.const (.int .i64 50)))] [])
 (.seq
 (.new (some 34) 46 (.const (.agg #[(.int .u64 0), (.int .i64 0), (.int .i64 0), (.int .i64 0)])) [])
 (.store 4 (.var 34) (.var 33) []))))))
 (.cond (.pick (.bin .neq (.ld none (.offp 3 (.var 34))) (.const (.int .i64 0))) (.const (.bool true)) (.bin .neq (.ld none (.offp 0 (.var 34))) (.var 31)))
 (.seq
 (.set 2 (.const (.bool false)))
 .ret)
 .skip))))))
 (.set 30 (.bin .add (.var 30) (.const (.int .i64 1)))))))))
 (.seq
 (.seq
 (.call (some 35) 19 [(.var 5)] [])
 (.set 2 (.bin .eql (.var 35) (.const (.int .i64 0)))))
 .ret)))))))))))
def xf3 : XF := ⟨2, [0, 1, 4, 5, 25, 6, 7, 28, 31, 8, 9, 55, 57, 50, 58, 10, 62, 64, 11, 12, 69, 71, 13, 90, 91, 14, 95, 97, 15, 16, 17, 18, 134, 136, 19, 147],
  (.seq
 (.set 2 (.const (.bool false)))
 (.seq
 (.seq
 (.chk [(.upd 3 1 (.upd 2 1 (.upd 0 1 (.const (.agg (Array.replicate 4 (.int .i64 0)))) (.const (.int .i64 3))) (.const (.int .i64 8))) (.const (.int .i64 8)))])
 (.seq
 (.new (some 3) 24 (.const (.agg (Array.replicate 4 (.int .i64 0)))))
 (.store 4 (.var 3) (.upd 3 1 (.upd 2 1 (.upd 0 1 (.const (.agg (Array.replicate 4 (.int .i64 0)))) (.const (.int .i64 3))) (.const (.int .i64 8))) (.const (.int .i64 8))) [])))
 (.seq
 (.cond (.var 1)
 (.store 1 (.offp 0 (.var 3)) (.const (.int .i64 4)) [])
 .skip)
 (.seq
 (.seq
 (.call (some 4) 12 [(.ld (some 4) (.var 3))] [])
 (.seq
 (.chk [(.proj 1 (.var 4))])
 (.seq
 (.set 5 (.proj 0 (.var 4)))
 (.set 6 (.proj 1 (.var 4))))))
 (.seq
 (.seq
 (.seq
 (.call (some 7) 13 [] [])
 (.cond (.pick (.un .not (.var 7)) (.const (.bool false)) (.const (.bool true)))
 (.call (some 8) 14 [] [])
 (.clr [8])))
 (.cond (.pick (.pick (.un .not (.var 7)) (.const (.bool true)) (.un .not (.var 8))) (.const (.bool true)) (.bin .neq (.var 6) (.const (.int .i64 0))))
 (.seq
 (.set 2 (.const (.bool false)))
 .ret)
 .skip))
 (.seq
 (.set 9 (.mn (.len false (.var 0)) (.const (.int .i64 8))))
 (.seq
 (.seq
 (.set 10 (.const (.int .i64 0)))
 (.block 0
 (.loop [0, 1, 3, 5, 9, 10]
 (.seq
 (.cond (.bin .lss (.var 10) (.var 9))
 .skip
 (.exit 0))
 (.seq
 (.block 1
 (.seq
 (.seq
 .skip
 (.seq
 (.set 13 (.upd 4 1 (.upd 3 1 (.upd 1 1 (.upd 0 1 (.const zA2) (.const (.int .u8 122))) (.const (.int .u8 10))) (.const (.int .i16 (-8)))) (.ld none (.ixSl 1 (.var 0) (.var 10)))))
 (.seq
 (.chk [(.upd 4 1 (.upd 0 1 (.const zA2) (.const (.int .u8 133))) (.const (.int .i32 87))), (.upd 4 1 (.upd 1 1 (.upd 0 1 (.const zA2) (.const (.int .u8 7))) (.const (.int .u8 2))) (.const (.int .i32 (-8)))), (.upd 2 1 (.upd 1 1 (.upd 0 1 (.const zA2) (.const (.int .u8 191))) (.const (.int .u8 2))) (.const (.int .u8 10))), (.upd 2 1 (.upd 1 1 (.upd 0 1 (.const zA2) (.const (.int .u8 24))) (.const (.int .u8 1))) (.const (.int .u8 1)))])
 (.seq
 (.call (some 11) 15 [(.const (.int .u8 3)), (.const (.int .i32 0))] [(.ld none (.ixSl 1 (.var 0) (.var 10)))])
 (.seq
 (.call (some 12) 16 [] [(.ld none (.ixSl 1 (.var 0) (.var 10)))])
 (.seq
 (.row (some 14) 32 8 (.upd 35 5 (.upd 30 5 (.upd 25 5 (.upd 20 5 (.upd 15 5 (.upd 10 5 (.upd 5 5 (.upd 0 5 (.const zA17) (.var 13)) (.upd 2 1 (.upd 1 1 (.upd 0 1 (.const zA2) (.const (.int .u8 24))) (.const (.int .u8 1))) (.const (.int .u8 1)))) (.const zA2)) (.upd 2 1 (.upd 1 1 (.upd 0 1 (.const zA2) (.const (.int .u8 191))) (.const (.int .u8 2))) (.const (.int .u8 10)))) (.upd 4 1 (.upd 1 1 (.upd 0 1 (.const zA2) (.const (.int .u8 7))) (.const (.int .u8 2))) (.const (.int .i32 (-8))))) (.var 11)) (.upd 4 1 (.upd 0 1 (.const zA2) (.const (.int .u8 133))) (.const (.int .i32 87)))) (.var 12)))
 (.set 15 (.var 14))))))))
 (.seq
 (.seq
 (.chk [(.var 15)])
 (.seq
 (.row (some 16) 24 1 (.upd 0 4 (.const (.agg (Array.replicate 4 (.int .i64 0)))) (.ld (some 4) (.var 3))))
 (.seq
 (.chk [(.upd 0 1 (.const (.agg #[(.slice none 0 0), (.slice none 0 0), (.bool false)])) (.var 16))])
 (.seq
 (.call (some 17) 17 [(.var 15), (.upd 0 1 (.const (.agg #[(.slice none 0 0), (.slice none 0 0), (.bool false)])) (.var 16))] [])
 (.seq
 (.chk [(.proj 1 (.var 17)), (.proj 0 (.var 17))])
 (.seq
 (.new (some 18) 37 (.const (.agg #[(.int .i64 0), (.int .i64 0)])))
 (.seq
 (.store 2 (.var 18) (.proj 0 (.var 17)) [])
 (.set 19 (.proj 1 (.var 17))))))))))
 (.seq
 (.seq
 (.chk [(.var 15)])
 (.seq
 (.row (some 20) 25 1 (.upd 0 1 (.const (.agg #[(.pointer none)])) (.var 5)))
 (.seq
 (.chk [(.upd 35 1 (.upd 32 1 (.const zA15) (.var 20)) (.const (.int .i64 50)))])
 (.seq
 (.call (some 21) 18 [(.var 15), (.upd 35 1 (.upd 32 1 (.const zA15) (.var 20)) (.const (.int .i64 50)))] [])
 (.seq
 (.new (some 22) 46 (.const (.agg #[(.int .u64 0), (.int .i64 0), (.int .i64 0), (.int .i64 0)])))
 (.store 4 (.var 22) (.var 21) []))))))
 (.cond (.pick (.pick (.bin .neq (.var 19) (.const (.int .i64 0))) (.const (.bool true)) (.bin .neq (.ld none (.offp 3 (.var 22))) (.const (.int .i64 0)))) (.const (.bool true)) (.bin .neq (.ld none (.offp 0 (.var 22))) (.const (.int .u64 0))))
 (.seq
 (.set 2 (.const (.bool false)))
 .ret)
 .skip)))))
 (.set 10 (.bin .add (.var 10) (.const (.int .i64 1)))))))))
 (.seq
 (.seq
 (.chk [(.upd 3 1 (.upd 2 1 (.upd 1 1 (.upd 0 1 (.const zA2) (.const (.int .u8 121))) (.const (.int .u8 0))) (.const (.int .u8 10))) (.const (.int .i16 (-8)))), (.upd 4 1 (.upd 0 1 (.const zA2) (.const (.int .u8 133))) (.const (.int .i32 88))), (.upd 4 1 (.upd 1 1 (.upd 0 1 (.const zA2) (.const (.int .u8 7))) (.const (.int .u8 2))) (.const (.int .i32 (-8)))), (.upd 2 1 (.upd 1 1 (.upd 0 1 (.const zA2) (.const (.int .u8 191))) (.const (.int .u8 2))) (.const (.int .u8 10))), (.upd 2 1 (.upd 1 1 (.upd 0 1 (.const zA2) (.const (.int .u8 24))) (.const (.int .u8 1))) (.const (.int .u8 1)))])
 (.seq
 (.call (some 23) 16 [] [])
 (.seq
 (.row (some 24) 32 7 (.upd 30 5 (.upd 25 5 (.upd 20 5 (.upd 15 5 (.upd 10 5 (.upd 5 5 (.upd 0 5 (.const zA14) (.upd 2 1 (.upd 1 1 (.upd 0 1 (.const zA2) (.const (.int .u8 24))) (.const (.int .u8 1))) (.const (.int .u8 1)))) (.const zA2)) (.upd 2 1 (.upd 1 1 (.upd 0 1 (.const zA2) (.const (.int .u8 191))) (.const (.int .u8 2))) (.const (.int .u8 10)))) (.upd 4 1 (.upd 1 1 (.upd 0 1 (.const zA2) (.const (.int .u8 7))) (.const (.int .u8 2))) (.const (.int .i32 (-8))))) (.upd 4 1 (.upd 0 1 (.const zA2) (.const (.int .u8 133))) (.const (.int .i32 88)))) (.upd 3 1 (.upd 2 1 (.upd 1 1 (.upd 0 1 (.const zA2) (.const (.int .u8 121))) (.const (.int .u8 0))) (.const (.int .u8 10))) (.const (.int .i16 (-8))))) (.var 23)))
 (.set 25 (.var 24)))))
 (.seq
 (.seq
 (.seq
 (.chk [(.var 25)])
 (.seq
 (.row (some 26) 24 1 (.upd 0 4 (.const (.agg (Array.replicate 4 (.int .i64 0)))) (.ld (some 4) (.var 3))))
 (.seq
 (.chk [(.upd 0 1 (.const (.agg #[(.slice none 0 0), (.slice none 0 0), (.bool false)])) (.var 26))])
 (.seq
 (.call (some 27) 17 [(.var 25), (.upd 0 1 (.const (.agg #[(.slice none 0 0), (.slice none 0 0), (.bool false)])) (.var 26))] [])
 (.seq
 (.chk [(.proj 1 (.var 27)), (.proj 0 (.var 27))])
 (.seq
 (.new (some 28) 37 (.const (.agg #[(.int .i64 0), (.int .i64 0)])))
 (.seq
 (.store 2 (.var 28) (.proj 0 (.var 27)) [])
 (.set 29 (.proj 1 (.var 27))))))))))
 (.cond (.bin .neq (.var 29) (.const (.int .i64 0)))
 (.seq
 (.set 2 (.const (.bool false)))
 .ret)
 .skip))
 (.seq
 (.seq
 (.set 30 (.const (.int .i64 0)))
 (.block 2
 (.loop [0, 1, 5, 9, 25, 30]
 (.seq
 (.cond (.bin .lss (.var 30) (.bin .add (.var 9) (.const (.int .i64 1))))
 .skip
 (.exit 2))
 (.seq
 (.block 3
 (.seq
 (.set 31 (.const (.int .u64 0)))
 (.seq
 (.cond (.bin .lss (.var 30) (.var 9))
 (.set 31 (.conv .u64 (.conv .i64 (.ld none (.ixSl 1 (.var 0) (.var 30))))))
 .skip)
 (.seq
 (.cond (.pick (.var 1) (.bin .lss (.var 30) (.var 9)) (.const (.bool false)))
 (.set 31 (.conv .u64 (.conv .i64 (.ld none (.ixSl 1 (.var 0) (.bin .sub (.bin .sub (.var 9) (.const (.int .i64 1))) (.var 30)))))))
 .skip)
 (.seq
 (.seq
 (.chk [(.var 25)])
 (.seq
 (.row (some 32) 25 1 (.upd 0 1 (.const (.agg #[(.pointer none)])) (.var 5)))
 (.seq
 (.chk [(.upd 35 1 (.upd 32 1 (.const zA15) (.var 32)) (.const (.int .i64 50)))])
 (.seq
 (.call (some 33) 18 [(.var 25), (.upd 35 1 (.upd 32 1 (.const zA15) (.var 32)) (.const (.int .i64 50)))] [])
 (.seq
 (.new (some 34) 46 (.const (.agg #[(.int .u64 0), (.int .i64 0), (.int .i64 0), (.int .i64 0)])))
 (.store 4 (.var 34) (.var 33) []))))))
 (.cond (.pick (.bin .neq (.ld none (.offp 3 (.var 34))) (.const (.int .i64 0))) (.const (.bool true)) (.bin .neq (.ld none (.offp 0 (.var 34))) (.var 31)))
 (.seq
 (.set 2 (.const (.bool false)))
 .ret)
 .skip))))))
 (.set 30 (.bin .add (.var 30) (.const (.int .i64 1)))))))))
 (.seq
 (.seq
 (.call (some 35) 19 [(.var 5)] [])
 (.set 2 (.bin .eql (.var 35) (.const (.int .i64 0)))))
 .ret))))))))))),
  [(.var 2)]⟩
theorem cmp_3 : compile Tryz.prog Tryz.f3 [0, 1, 4, 5, 25, 6, 7, 28, 31, 8, 9, 55, 57, 50, 58, 10, 62, 64, 11, 12, 69, 71, 13, 90, 91, 14, 95, 97, 15, 16, 17, 18, 134, 136, 19, 147] [[0, 1, 3, 5, 9, 10], [0, 1, 5, 9, 25, 30]] = some (cm3, [(.var 2)]) := by kernel_rfl
theorem tox_3 : toX Tryz.prog 2 377 cm3 = some xf3.c := by kernel_rfl
theorem okx_3 : FnOk Tryz.prog 2 377 3 xf3 := fnOk_parts Tryz.func3 (by kernel_rfl) (by kernel_rfl) cmp_3 tox_3 (by kernel_rfl)
end Go.Proofs.YtmpgfgemnhbkhaaGreatDoor
