/- The interpreter's functions, part 0: made by program (geny.py). -/
import Derived.Test.YtmpgfgemnhbkhaaGreatDoorXgtz
import Derived.Test.YtmpgfgemnhbkhaaGreatDoorProg
set_option maxRecDepth 100000
set_option linter.unusedVariables false
namespace Go.Proofs.YtmpgfgemnhbkhaaGreatDoor
open Go.Eng
/- tipstaff/tipstafflaw22.GateChain -/
def xf6 : XF := ⟨2, [0, 1, 4, 16, 5, 17, 19, 6, 7, 8, 9, 10, 36, 44, 11, 58, 12, 62, 68, 13, 79, 77, 85, 83, 90, 89, 92, 14, 15, 110, 108],
  (.seq
 (.set 2 (.const (.bool false)))
 (.seq
 (.seq
 (.call (some 3) 27 [] [])
 (.set 4 (.var 3)))
 (.seq
 (.seq
 (.call (some 5) 28 [] [])
 (.cond (.un .not (.var 5))
 (.seq
 (.set 2 (.const (.bool false)))
 .ret)
 .skip))
 (.seq
 (.seq
 (.call (some 6) 24 [] [])
 (.seq
 (.new (some 7) 69 (.const zA4))
 (.store 6 (.var 7) (.var 6) [])))
 (.seq
 (.set 8 (.conv .i64 (.bin .rem (.conv .u64 (.var 0)) (.const (.int .u64 4)))))
 (.seq
 (.set 9 (.const (.int .i64 0)))
 (.seq
 (.seq
 (.set 10 (.const (.int .i64 0)))
 (.block 0
 (.loop [1, 4, 7, 8, 9, 10]
 (.seq
 (.cond (.bin .lss (.var 10) (.const (.int .i64 3)))
 .skip
 (.exit 0))
 (.seq
 (.block 1
 (.seq
 (.cond (.bin .eql (.var 10) (.var 8))
 (.store 1 (.offp 3 (.var 7)) (.bin .andNot (.ld none (.offp 3 (.var 7))) (.const (.int .u16 16))) [])
 .skip)
 (.seq
 (.seq
 (.set 12 (.upd 8 6 (.upd 1 1 (.const zA18) (.const (.int .i64 12))) (.ld (some 6) (.var 7))))
 (.seq
 (.new (some 11) 78 (.const zA18))
 (.store 55 (.var 11) (.var 12) [])))
 (.seq
 (.cond (.bin .gtr (.var 10) (.const (.int .i64 0)))
 (.seq
 (.chk [(.upd 8 6 (.upd 2 1 (.upd 1 1 (.const zA18) (.const (.int .i64 2))) (.var 9)) (.ld (some 6) (.var 7)))])
 (.store 55 (.var 11) (.upd 8 6 (.upd 2 1 (.upd 1 1 (.const zA18) (.const (.int .i64 2))) (.var 9)) (.ld (some 6) (.var 7))) []))
 .skip)
 (.seq
 (.seq
 (.call (some 13) 29 [(.var 4), (.ld (some 55) (.var 11))] [])
 (.seq
 (.new (some 14) 80 (.const zA0))
 (.store 4 (.var 14) (.var 13) [])))
 (.seq
 (.cond (.pick (.bin .neq (.ld none (.offp 0 (.var 14))) (.const (.int .i64 0))) (.const (.bool true)) (.bin .neq (.ld none (.offp 1 (.var 14))) (.var 10)))
 (.seq
 (.set 2 (.const (.bool false)))
 .ret)
 .skip)
 (.set 9 (.ld none (.offp 1 (.var 14))))))))))
 (.set 10 (.bin .add (.var 10) (.const (.int .i64 1)))))))))
 (.seq
 (.seq
 (.chk [(.upd 0 1 (.const zA2) (.const (.int .u8 149))), (.upd 4 1 (.upd 0 1 (.const zA2) (.const (.int .u8 183))) (.const (.int .i32 3)))])
 (.seq
 (.row (some 15) 32 2 (.upd 5 5 (.upd 0 5 (.const zA8) (.upd 4 1 (.upd 0 1 (.const zA2) (.const (.int .u8 183))) (.const (.int .i32 3)))) (.upd 0 1 (.const zA2) (.const (.int .u8 149)))))
 (.set 16 (.var 15))))
 (.seq
 (.cond (.var 1)
 (.seq
 (.chk [(.upd 0 1 (.const zA2) (.const (.int .u8 149))), (.upd 4 1 (.upd 0 1 (.const zA2) (.const (.int .u8 133))) (.const (.int .i32 7)))])
 (.seq
 (.row (some 17) 32 2 (.upd 5 5 (.upd 0 5 (.const zA8) (.upd 4 1 (.upd 0 1 (.const zA2) (.const (.int .u8 133))) (.const (.int .i32 7)))) (.upd 0 1 (.const zA2) (.const (.int .u8 149)))))
 (.set 16 (.var 17))))
 .skip)
 (.seq
 (.seq
 (.chk [(.upd 14 4 (.upd 2 1 (.upd 1 1 (.const zA18) (.const (.int .i64 1))) (.var 9)) (.upd 1 1 (.const zA1) (.var 16))), (.upd 1 1 (.const zA1) (.var 16))])
 (.seq
 (.call (some 18) 29 [(.var 4), (.upd 14 4 (.upd 2 1 (.upd 1 1 (.const zA18) (.const (.int .i64 1))) (.var 9)) (.upd 1 1 (.const zA1) (.var 16)))] [])
 (.seq
 (.new (some 19) 80 (.const zA0))
 (.store 4 (.var 19) (.var 18) []))))
 (.seq
 (.cond (.pick (.var 1) (.bin .lss (.var 8) (.const (.int .i64 3))) (.const (.bool false)))
 (.seq
 (.seq
 (.set 21 (.bin .eql (.ld none (.offp 0 (.var 19))) (.const (.int .i64 1))))
 (.seq
 (.chk [(.pick (.var 21) (.var 4) (.const (.bool false)))])
 (.seq
 (.cond (.pick (.var 21) (.const (.bool true)) (.const (.bool false)))
 (.call (some 20) 30 [(.var 4)] [])
 (.clr [20]))
 (.seq
 (.set 23 (.pick (.var 21) (.bin .eql (.len false (.var 20)) (.const (.int .i64 3))) (.const (.bool false))))
 (.seq
 (.chk [(.pick (.var 23) (.var 4) (.const (.bool false)))])
 (.seq
 (.cond (.pick (.var 23) (.const (.bool true)) (.const (.bool false)))
 (.call (some 22) 31 [(.var 4)] [])
 (.clr [22]))
 (.set 2 (.pick (.var 23) (.var 22) (.const (.bool false))))))))))
 .ret)
 .skip)
 (.seq
 (.seq
 (.chk [(.var 4)])
 (.seq
 (.set 25 (.ld none (.offp 1 (.var 19))))
 (.seq
 (.row (some 24) 44 1 (.upd 0 1 (.const (.agg #[(.int .u64 0)])) (.const (.int .u64 77))))
 (.seq
 (.chk [(.upd 54 1 (.upd 3 1 (.upd 2 1 (.upd 1 1 (.const zA18) (.const (.int .i64 7))) (.var 25)) (.const (.int .i64 9))) (.var 24))])
 (.seq
 (.call (some 26) 29 [(.var 4), (.upd 54 1 (.upd 3 1 (.upd 2 1 (.upd 1 1 (.const zA18) (.const (.int .i64 7))) (.var 25)) (.const (.int .i64 9))) (.var 24))] [])
 (.seq
 (.new (some 27) 80 (.const zA0))
 (.store 4 (.var 27) (.var 26) [])))))))
 (.seq
 (.set 28 (.const (.int .u64 3)))
 (.seq
 (.cond (.var 1)
 (.set 28 (.const (.int .u64 77)))
 .skip)
 (.seq
 (.seq
 (.set 30 (.pick (.pick (.bin .eql (.ld none (.offp 0 (.var 19))) (.const (.int .i64 0))) (.bin .eql (.ld none (.offp 0 (.var 27))) (.const (.int .i64 0))) (.const (.bool false))) (.bin .eql (.ld none (.offp 2 (.var 27))) (.var 28)) (.const (.bool false))))
 (.seq
 (.chk [(.pick (.var 30) (.var 4) (.const (.bool false)))])
 (.seq
 (.cond (.pick (.var 30) (.const (.bool true)) (.const (.bool false)))
 (.call (some 29) 31 [(.var 4)] [])
 (.clr [29]))
 (.set 2 (.pick (.var 30) (.var 29) (.const (.bool false)))))))
 .ret))))))))))))))),
  [(.var 2)]⟩
theorem okx_6 : FnOk Tryz.prog 3 377 6 xf6 := fnOk_of Tryz.func6 (np := 2) (V := [0, 1, 4, 16, 5, 17, 19, 6, 7, 8, 9, 10, 36, 44, 11, 58, 12, 62, 68, 13, 79, 77, 85, 83, 90, 89, 92, 14, 15, 110, 108]) (ks := [[1, 4, 7, 8, 9, 10]]) (by kernel_rfl)

/- tipstaff/tipstafflaw22.GateFull -/
def xf8 : XF := ⟨1, [0, 2, 12, 3, 4, 17, 21, 23, 33, 5, 44, 6, 57, 7, 62, 8, 9, 70, 10, 75, 11, 96, 94],
  (.seq
 (.set 1 (.const (.bool false)))
 (.seq
 (.seq
 (.call (some 2) 27 [] [])
 (.set 3 (.var 2)))
 (.seq
 (.set 4 (.conv .i64 (.bin .rem (.conv .u64 (.var 0)) (.const (.int .u64 4)))))
 (.seq
 (.seq
 (.seq
 (.call (some 5) 28 [] [])
 (.seq
 (.chk [(.pick (.un .not (.var 5)) (.const (.bool false)) (.var 3))])
 (.seq
 (.cond (.pick (.un .not (.var 5)) (.const (.bool false)) (.const (.bool true)))
 (.call (some 6) 32 [] [])
 (.clr [6]))
 (.seq
 (.chk [(.pick (.un .not (.var 5)) (.const (.bool false)) (.upd 8 6 (.upd 1 1 (.const zA18) (.const (.int .i64 12))) (.var 6)))])
 (.cond (.pick (.un .not (.var 5)) (.const (.bool false)) (.const (.bool true)))
 (.call (some 7) 29 [(.var 3), (.upd 8 6 (.upd 1 1 (.const zA18) (.const (.int .i64 12))) (.var 6))] [])
 (.clr [7]))))))
 (.cond (.pick (.un .not (.var 5)) (.const (.bool true)) (.bin .neq (.part none 0 (.var 7)) (.const (.int .i64 0))))
 (.seq
 (.set 1 (.const (.bool false)))
 .ret)
 .skip))
 (.seq
 (.seq
 (.seq
 (.chk [(.pick (.bin .gtr (.var 4) (.const (.int .i64 0))) (.upd 3 1 (.upd 1 1 (.const zA18) (.const (.int .i64 10))) (.var 4)) (.const (.bool false))), (.pick (.bin .gtr (.var 4) (.const (.int .i64 0))) (.var 3) (.const (.bool false)))])
 (.cond (.pick (.bin .gtr (.var 4) (.const (.int .i64 0))) (.const (.bool true)) (.const (.bool false)))
 (.call (some 8) 29 [(.var 3), (.upd 3 1 (.upd 1 1 (.const zA18) (.const (.int .i64 10))) (.var 4))] [])
 (.clr [8])))
 (.cond (.pick (.bin .gtr (.var 4) (.const (.int .i64 0))) (.bin .neq (.part none 0 (.var 8)) (.const (.int .i64 0))) (.const (.bool false)))
 (.seq
 (.set 1 (.const (.bool false)))
 .ret)
 .skip))
 (.seq
 (.seq
 (.set 9 (.const (.int .i64 1)))
 (.block 0
 (.loop [3, 4, 9]
 (.seq
 (.cond (.bin .lss (.var 9) (.const (.int .i64 16)))
 .skip
 (.exit 0))
 (.seq
 (.block 1
 (.seq
 (.seq
 (.chk [(.upd 1 1 (.upd 0 1 (.const zA18) (.var 4)) (.const (.int .i64 9)))])
 (.seq
 (.call (some 10) 29 [(.var 3), (.upd 1 1 (.upd 0 1 (.const zA18) (.var 4)) (.const (.int .i64 9)))] [])
 (.seq
 (.new (some 11) 80 (.const zA0))
 (.store 4 (.var 11) (.var 10) []))))
 (.cond (.pick (.bin .neq (.ld none (.offp 0 (.var 11))) (.const (.int .i64 0))) (.const (.bool true)) (.bin .neq (.ld none (.offp 1 (.var 11))) (.var 9)))
 (.seq
 (.set 1 (.const (.bool false)))
 .ret)
 .skip)))
 (.set 9 (.bin .add (.var 9) (.const (.int .i64 1)))))))))
 (.seq
 (.seq
 (.chk [(.upd 1 1 (.upd 0 1 (.const zA18) (.var 4)) (.const (.int .i64 9)))])
 (.seq
 (.call (some 12) 29 [(.var 3), (.upd 1 1 (.upd 0 1 (.const zA18) (.var 4)) (.const (.int .i64 9)))] [])
 (.seq
 (.new (some 13) 80 (.const zA0))
 (.store 4 (.var 13) (.var 12) []))))
 (.seq
 (.seq
 (.chk [(.upd 4 4 (.upd 1 1 (.upd 0 1 (.const zA18) (.var 4)) (.const (.int .i64 0))) (.upd 3 1 (.upd 2 1 (.upd 1 1 (.upd 0 1 (.const (.agg (Array.replicate 4 (.int .i64 0)))) (.const (.int .i64 0))) (.const (.int .i64 4))) (.const (.int .i64 1))) (.const (.int .i64 1)))), (.upd 3 1 (.upd 2 1 (.upd 1 1 (.upd 0 1 (.const (.agg (Array.replicate 4 (.int .i64 0)))) (.const (.int .i64 0))) (.const (.int .i64 4))) (.const (.int .i64 1))) (.const (.int .i64 1)))])
 (.seq
 (.call (some 14) 29 [(.var 3), (.upd 4 4 (.upd 1 1 (.upd 0 1 (.const zA18) (.var 4)) (.const (.int .i64 0))) (.upd 3 1 (.upd 2 1 (.upd 1 1 (.upd 0 1 (.const (.agg (Array.replicate 4 (.int .i64 0)))) (.const (.int .i64 0))) (.const (.int .i64 4))) (.const (.int .i64 1))) (.const (.int .i64 1))))] [])
 (.seq
 (.new (some 15) 80 (.const zA0))
 (.store 4 (.var 15) (.var 14) []))))
 (.seq
 (.set 16 (.bin .rem (.bin .add (.var 4) (.const (.int .i64 1))) (.const (.int .i64 4))))
 (.seq
 (.seq
 (.chk [(.upd 3 1 (.upd 1 1 (.upd 0 1 (.const zA18) (.var 4)) (.const (.int .i64 10))) (.var 16))])
 (.seq
 (.call (some 17) 29 [(.var 3), (.upd 3 1 (.upd 1 1 (.upd 0 1 (.const zA18) (.var 4)) (.const (.int .i64 10))) (.var 16))] [])
 (.seq
 (.new (some 18) 80 (.const zA0))
 (.store 4 (.var 18) (.var 17) []))))
 (.seq
 (.seq
 (.chk [(.upd 3 1 (.upd 1 1 (.upd 0 1 (.const zA18) (.var 4)) (.const (.int .i64 10))) (.var 4))])
 (.seq
 (.call (some 19) 29 [(.var 3), (.upd 3 1 (.upd 1 1 (.upd 0 1 (.const zA18) (.var 4)) (.const (.int .i64 10))) (.var 4))] [])
 (.seq
 (.new (some 20) 80 (.const zA0))
 (.store 4 (.var 20) (.var 19) []))))
 (.seq
 (.seq
 (.set 22 (.pick (.pick (.pick (.bin .eql (.ld none (.offp 0 (.var 13))) (.const (.int .i64 24))) (.bin .eql (.ld none (.offp 0 (.var 15))) (.const (.int .i64 24))) (.const (.bool false))) (.bin .eql (.ld none (.offp 0 (.var 18))) (.const (.int .i64 0))) (.const (.bool false))) (.bin .eql (.ld none (.offp 0 (.var 20))) (.const (.int .i64 24))) (.const (.bool false))))
 (.seq
 (.chk [(.pick (.var 22) (.var 3) (.const (.bool false)))])
 (.seq
 (.cond (.pick (.var 22) (.const (.bool true)) (.const (.bool false)))
 (.call (some 21) 31 [(.var 3)] [])
 (.clr [21]))
 (.set 1 (.pick (.var 22) (.var 21) (.const (.bool false)))))))
 .ret)))))))))))),
  [(.var 1)]⟩
theorem okx_8 : FnOk Tryz.prog 3 377 8 xf8 := fnOk_of Tryz.func8 (np := 1) (V := [0, 2, 12, 3, 4, 17, 21, 23, 33, 5, 44, 6, 57, 7, 62, 8, 9, 70, 10, 75, 11, 96, 94]) (ks := [[3, 4, 9]]) (by kernel_rfl)

/- tipstaff/tipstafflaw22.GateFrozen -/
def xf9 : XF := ⟨2, [0, 1, 4, 12, 5, 13, 15, 6, 23, 34, 40, 43, 7, 45, 46, 48, 8, 51, 9, 82, 10, 85, 11],
  (.seq
 (.set 2 (.const (.bool false)))
 (.seq
 (.seq
 (.call (some 3) 27 [] [])
 (.set 4 (.var 3)))
 (.seq
 (.seq
 (.call (some 5) 28 [] [])
 (.cond (.un .not (.var 5))
 (.seq
 (.set 2 (.const (.bool false)))
 .ret)
 .skip))
 (.seq
 (.seq
 (.row (some 6) 3 3 (.upd 2 1 (.upd 1 1 (.upd 0 1 (.const (.agg #[(.int .i64 0), (.int .i64 0), (.int .i64 0)])) (.const (.int .i64 1))) (.const (.int .i64 2))) (.const (.int .i64 5))))
 (.set 7 (.ld none (.ixSl 1 (.var 6) (.conv .i64 (.bin .rem (.conv .u64 (.var 1)) (.const (.int .u64 3))))))))
 (.seq
 (.seq
 (.chk [(.var 4)])
 (.seq
 (.call (some 8) 32 [] [])
 (.seq
 (.chk [(.upd 8 6 (.upd 1 1 (.const zA18) (.const (.int .i64 12))) (.var 8))])
 (.call none 29 [(.var 4), (.upd 8 6 (.upd 1 1 (.const zA18) (.const (.int .i64 12))) (.var 8))] []))))
 (.seq
 (.seq
 (.chk [(.upd 4 4 (.upd 1 1 (.const zA18) (.const (.int .i64 0))) (.upd 3 1 (.upd 2 1 (.upd 1 1 (.upd 0 1 (.const (.agg (Array.replicate 4 (.int .i64 0)))) (.const (.int .i64 1))) (.const (.int .i64 8))) (.const (.int .i64 8))) (.const (.int .i64 2)))), (.upd 3 1 (.upd 2 1 (.upd 1 1 (.upd 0 1 (.const (.agg (Array.replicate 4 (.int .i64 0)))) (.const (.int .i64 1))) (.const (.int .i64 8))) (.const (.int .i64 8))) (.const (.int .i64 2)))])
 (.call none 29 [(.var 4), (.upd 4 4 (.upd 1 1 (.const zA18) (.const (.int .i64 0))) (.upd 3 1 (.upd 2 1 (.upd 1 1 (.upd 0 1 (.const (.agg (Array.replicate 4 (.int .i64 0)))) (.const (.int .i64 1))) (.const (.int .i64 8))) (.const (.int .i64 8))) (.const (.int .i64 2))))] []))
 (.seq
 (.seq
 (.seq
 (.chk [(.pick (.var 0) (.upd 2 1 (.upd 1 1 (.const zA18) (.const (.int .i64 6))) (.const (.int .i64 1))) (.const (.bool false))), (.pick (.var 0) (.var 4) (.const (.bool false)))])
 (.cond (.pick (.var 0) (.const (.bool true)) (.const (.bool false)))
 (.call (some 9) 29 [(.var 4), (.upd 2 1 (.upd 1 1 (.const zA18) (.const (.int .i64 6))) (.const (.int .i64 1)))] [])
 (.clr [9])))
 (.cond (.pick (.var 0) (.bin .neq (.part none 0 (.var 9)) (.const (.int .i64 0))) (.const (.bool false)))
 (.seq
 (.set 2 (.const (.bool false)))
 .ret)
 .skip))
 (.seq
 (.seq
 (.chk [(.var 4)])
 (.seq
 (.call (some 10) 33 [(.var 7), (.const (.int .i32 1))] [])
 (.seq
 (.chk [(.upd 14 4 (.upd 1 1 (.const zA18) (.const (.int .i64 1))) (.upd 1 1 (.const zA1) (.var 10))), (.upd 1 1 (.const zA1) (.var 10))])
 (.seq
 (.call (some 11) 29 [(.var 4), (.upd 14 4 (.upd 1 1 (.const zA18) (.const (.int .i64 1))) (.upd 1 1 (.const zA1) (.var 10)))] [])
 (.seq
 (.new (some 12) 80 (.const zA0))
 (.store 4 (.var 12) (.var 11) []))))))
 (.seq
 (.seq
 .skip
 (.seq
 (.resv 3)
 (.seq
 (.seq
 (.set 13 (.const (.bool true)))
 (.seq
 (.set 14 (.const (.bool true)))
 (.seq
 (.set 16 (.const (.bool true)))
 .skip)))
 (.seq
 (.chk [(.var 13), (.var 14), (.var 16)])
 (.seq
 (.clr [13, 14, 16])
 (.seq
 (.chk [(.const (.bool true)), (.pick (.bin .leq (.const (.int .i64 8)) (.const (.int .i64 8))) (.pick (.bin .leq (.const (.int .i64 8)) (.const (.int .i64 100000))) (.pick (.bin .leq (.const (.int .i64 0)) (.const (.int .i64 8))) (.const (.bool true)) (.nn (.const (.bool true)))) (.nn (.const (.bool true)))) (.nn (.const (.bool true)))), (.const (.bool true)), (.pick (.bin .leq (.const (.int .i64 8)) (.const (.int .i64 8))) (.pick (.bin .leq (.const (.int .i64 8)) (.const (.int .i64 100000))) (.pick (.bin .leq (.const (.int .i64 0)) (.const (.int .i64 8))) (.const (.bool true)) (.nn (.const (.bool true)))) (.nn (.const (.bool true)))) (.nn (.const (.bool true)))), (.const zA0)])
 (.seq
 (.chk [(.var 4)])
 (.seq
 (.mkR 0 13 5 [(.int .u8 0)] (.const (.int .i64 8)) (.const (.int .i64 8)))
 (.seq
 (.mkR 1 14 5 [(.int .u8 0)] (.const (.int .i64 8)) (.const (.int .i64 8)))
 (.seq
 (.chk [(.upd 19 1 (.upd 18 1 (.upd 2 1 (.upd 1 1 (.const zA18) (.const (.int .i64 3))) (.const (.int .i64 1))) (.var 13)) (.var 14))])
 (.seq
 (.call (some 15) 29 [(.var 4), (.upd 19 1 (.upd 18 1 (.upd 2 1 (.upd 1 1 (.const zA18) (.const (.int .i64 3))) (.const (.int .i64 1))) (.var 13)) (.var 14))] [])
 (.seq
 (.newR 2 16 80 (.const zA0))
 (.seq
 (.store 4 (.var 16) (.var 15) [])
 .skip)))))))))))))
 (.seq
 (.seq
 (.chk [(.upd 2 1 (.upd 1 1 (.const zA18) (.const (.int .i64 6))) (.const (.int .i64 1)))])
 (.seq
 (.call (some 17) 29 [(.var 4), (.upd 2 1 (.upd 1 1 (.const zA18) (.const (.int .i64 6))) (.const (.int .i64 1)))] [])
 (.seq
 (.new (some 18) 80 (.const zA0))
 (.store 4 (.var 18) (.var 17) []))))
 (.seq
 (.cond (.var 0)
 (.seq
 (.set 2 (.pick (.pick (.pick (.eqx false .bool (.bin .eql (.ld none (.offp 0 (.var 12))) (.const (.int .i64 0))) (.bin .eql (.var 7) (.const (.int .i64 1)))) (.pick (.bin .eql (.var 7) (.const (.int .i64 1))) (.const (.bool true)) (.bin .eql (.ld none (.offp 0 (.var 12))) (.const (.int .i64 13)))) (.const (.bool false))) (.bin .eql (.ld none (.offp 0 (.var 16))) (.const (.int .i64 1))) (.const (.bool false))) (.bin .eql (.ld none (.offp 0 (.var 18))) (.const (.int .i64 16))) (.const (.bool false))))
 .ret)
 .skip)
 (.seq
 (.seq
 (.chk [(.upd 2 1 (.upd 1 1 (.const zA18) (.const (.int .i64 8))) (.ld none (.offp 1 (.var 12))))])
 (.seq
 (.call (some 19) 29 [(.var 4), (.upd 2 1 (.upd 1 1 (.const zA18) (.const (.int .i64 8))) (.ld none (.offp 1 (.var 12))))] [])
 (.seq
 (.new (some 20) 80 (.const zA0))
 (.store 4 (.var 20) (.var 19) []))))
 (.seq
 (.seq
 (.chk [(.upd 2 1 (.upd 1 1 (.const zA18) (.const (.int .i64 6))) (.const (.int .i64 1)))])
 (.seq
 (.call (some 21) 29 [(.var 4), (.upd 2 1 (.upd 1 1 (.const zA18) (.const (.int .i64 6))) (.const (.int .i64 1)))] [])
 (.seq
 (.new (some 22) 80 (.const zA0))
 (.store 4 (.var 22) (.var 21) []))))
 (.seq
 (.set 2 (.pick (.pick (.pick (.pick (.bin .eql (.ld none (.offp 0 (.var 12))) (.const (.int .i64 0))) (.bin .eql (.ld none (.offp 0 (.var 16))) (.const (.int .i64 0))) (.const (.bool false))) (.bin .eql (.ld none (.offp 0 (.var 18))) (.const (.int .i64 16))) (.const (.bool false))) (.bin .eql (.ld none (.offp 0 (.var 20))) (.const (.int .i64 0))) (.const (.bool false))) (.bin .eql (.ld none (.offp 0 (.var 22))) (.const (.int .i64 0))) (.const (.bool false))))
 .ret)))))))))))))),
  [(.var 2)]⟩
theorem okx_9 : FnOk Tryz.prog 3 377 9 xf9 := fnOk_of Tryz.func9 (np := 2) (V := [0, 1, 4, 12, 5, 13, 15, 6, 23, 34, 40, 43, 7, 45, 46, 48, 8, 51, 9, 82, 10, 85, 11]) (ks := []) (by kernel_rfl)

/- tipstaff/tipstafflaw22.GateRights -/
def xf10 : XF := ⟨3, [0, 1, 2, 6, 16, 7, 8, 9, 25, 10, 48, 11, 50, 12, 54, 58, 13, 61, 64, 14, 68, 15, 69, 78, 76],
  (.seq
 (.set 3 (.const (.bool false)))
 (.seq
 (.seq
 (.call (some 4) 27 [] [])
 (.set 5 (.var 4)))
 (.seq
 (.seq
 (.chk [(.conv .i64 (.bin .rem (.conv .u64 (.var 1)) (.const (.int .u64 4))))])
 (.seq
 (.set 6 (.conv .i64 (.bin .rem (.conv .u64 (.var 0)) (.const (.int .u64 3)))))
 (.set 7 (.conv .i64 (.bin .rem (.conv .u64 (.var 1)) (.const (.int .u64 4)))))))
 (.seq
 (.seq
 (.call (some 8) 32 [] [])
 (.seq
 (.new (some 9) 69 (.const zA4))
 (.store 6 (.var 9) (.var 8) [])))
 (.seq
 (.cond (.var 2)
 (.seq
 .skip
 (.store 1 (.offp 0 (.var 9)) (.bin .andNot (.ld none (.offp 0 (.var 9))) (.bin .shl (.const (.int .u16 1)) (.var 6))) []))
 (.seq
 (.seq
 .skip
 (.store 1 (.offp 2 (.var 9)) (.bin .andNot (.ld none (.offp 2 (.var 9))) (.bin .shl (.const (.int .u16 1)) (.var 7))) []))
 (.seq
 .skip
 (.store 1 (.offp 1 (.var 9)) (.bin .andNot (.ld none (.offp 1 (.var 9))) (.bin .shl (.const (.int .u16 1)) (.var 7))) []))))
 (.seq
 (.seq
 (.chk [(.upd 8 6 (.upd 1 1 (.const zA18) (.const (.int .i64 12))) (.ld (some 6) (.var 9)))])
 (.seq
 (.call (some 10) 29 [(.var 5), (.upd 8 6 (.upd 1 1 (.const zA18) (.const (.int .i64 12))) (.ld (some 6) (.var 9)))] [])
 (.seq
 (.new (some 11) 80 (.const zA0))
 (.store 4 (.var 11) (.var 10) []))))
 (.seq
 (.seq
 (.chk [(.var 7)])
 (.seq
 (.row (some 12) 3 4 (.upd 3 1 (.upd 2 1 (.upd 1 1 (.upd 0 1 (.const (.agg (Array.replicate 4 (.int .i64 0)))) (.const (.int .i64 4))) (.const (.int .i64 4))) (.const (.int .i64 4))) (.const (.int .i64 0))))
 (.seq
 (.set 14 (.upd 3 1 (.upd 2 1 (.upd 1 1 (.upd 0 1 (.const (.agg (Array.replicate 4 (.int .i64 0)))) (.var 7)) (.ld none (.ixSl 1 (.var 12) (.var 7)))) (.const (.int .i64 4))) (.const (.int .i64 2))))
 (.seq
 (.new (some 13) 24 (.const (.agg (Array.replicate 4 (.int .i64 0)))))
 (.store 4 (.var 13) (.var 14) [])))))
 (.seq
 (.seq
 (.chk [(.upd 4 4 (.upd 1 1 (.const zA18) (.const (.int .i64 0))) (.ld (some 4) (.var 13)))])
 (.seq
 (.call (some 15) 29 [(.var 5), (.upd 4 4 (.upd 1 1 (.const zA18) (.const (.int .i64 0))) (.ld (some 4) (.var 13)))] [])
 (.seq
 (.new (some 16) 80 (.const zA0))
 (.store 4 (.var 16) (.var 15) []))))
 (.seq
 (.seq
 (.chk [(.var 7), (.var 5)])
 (.seq
 (.call (some 17) 33 [(.const (.int .i64 0)), (.const (.int .i32 0))] [])
 (.seq
 (.chk [(.upd 14 4 (.upd 1 1 (.const zA18) (.const (.int .i64 1))) (.upd 1 1 (.upd 0 1 (.const zA1) (.var 7)) (.var 17))), (.upd 1 1 (.upd 0 1 (.const zA1) (.var 7)) (.var 17))])
 (.seq
 (.call (some 18) 29 [(.var 5), (.upd 14 4 (.upd 1 1 (.const zA18) (.const (.int .i64 1))) (.upd 1 1 (.upd 0 1 (.const zA1) (.var 7)) (.var 17)))] [])
 (.seq
 (.new (some 19) 80 (.const zA0))
 (.store 4 (.var 19) (.var 18) []))))))
 (.seq
 (.seq
 (.chk [(.upd 8 6 (.upd 1 1 (.const zA18) (.const (.int .i64 2))) (.ld (some 6) (.var 9)))])
 (.seq
 (.call (some 20) 29 [(.var 5), (.upd 8 6 (.upd 1 1 (.const zA18) (.const (.int .i64 2))) (.ld (some 6) (.var 9)))] [])
 (.seq
 (.new (some 21) 80 (.const zA0))
 (.store 4 (.var 21) (.var 20) []))))
 (.seq
 (.seq
 (.seq
 (.call (some 22) 28 [] [])
 (.seq
 (.set 24 (.pick (.un .not (.var 22)) (.const (.bool true)) (.bin .neq (.ld none (.offp 0 (.var 11))) (.const (.int .i64 0)))))
 (.seq
 (.chk [(.pick (.var 24) (.const (.bool false)) (.var 5))])
 (.cond (.pick (.var 24) (.const (.bool false)) (.const (.bool true)))
 (.call (some 23) 31 [(.var 5)] [])
 (.clr [23])))))
 (.cond (.pick (.var 24) (.const (.bool true)) (.un .not (.var 23)))
 (.seq
 (.set 3 (.const (.bool false)))
 .ret)
 .skip))
 (.seq
 (.cond (.var 2)
 (.seq
 (.set 3 (.pick (.pick (.eqx false .bool (.bin .eql (.ld none (.offp 0 (.var 16))) (.const (.int .i64 1))) (.bin .eql (.var 6) (.const (.int .i64 0)))) (.eqx false .bool (.bin .eql (.ld none (.offp 0 (.var 19))) (.const (.int .i64 1))) (.bin .eql (.var 6) (.const (.int .i64 1)))) (.const (.bool false))) (.eqx false .bool (.bin .eql (.ld none (.offp 0 (.var 21))) (.const (.int .i64 1))) (.bin .eql (.var 6) (.const (.int .i64 2)))) (.const (.bool false))))
 .ret)
 .skip)
 (.seq
 (.set 3 (.pick (.pick (.bin .eql (.ld none (.offp 0 (.var 16))) (.const (.int .i64 1))) (.bin .eql (.ld none (.offp 0 (.var 19))) (.const (.int .i64 1))) (.const (.bool false))) (.bin .eql (.ld none (.offp 0 (.var 21))) (.const (.int .i64 0))) (.const (.bool false))))
 .ret))))))))))))),
  [(.var 3)]⟩
theorem okx_10 : FnOk Tryz.prog 3 377 10 xf10 := fnOk_of Tryz.func10 (np := 3) (V := [0, 1, 2, 6, 16, 7, 8, 9, 25, 10, 48, 11, 50, 12, 54, 58, 13, 61, 64, 14, 68, 15, 69, 78, 76]) (ks := []) (by kernel_rfl)

/- tipstaff/bmap.New -/
def xf12 : XF := ⟨1, [0, 2, 3, 1, 8, 4, 14, 5, 20, 19, 6, 29, 32, 33, 35, 30, 37, 38, 27, 39],
  (.seq
 (.seq
 (.new (some 3) 24 (.var 0))
 (.seq
 (.set 1 (.const (.pointer none)))
 (.set 2 (.const (.int .i64 0)))))
 (.seq
 (.seq
 (.seq
 (.call (some 4) 37 [(.ld (some 4) (.var 3))] [])
 (.set 5 (.var 4)))
 (.cond (.bin .neq (.var 5) (.const (.int .i64 0)))
 (.seq
 (.seq
 (.chk [(.var 5)])
 (.seq
 (.set 1 (.const (.pointer none)))
 (.set 2 (.var 5))))
 .ret)
 .skip))
 (.seq
 (.seq
 (.chk [(.upd 0 4 (.const (.agg #[(.int .i64 0), (.int .i64 0), (.int .i64 0), (.int .i64 0), (.slice none 0 0), (.bool false), (.int .i64 0)])) (.ld (some 4) (.var 3)))])
 (.seq
 (.new (some 6) 96 (.upd 0 4 (.const (.agg #[(.int .i64 0), (.int .i64 0), (.int .i64 0), (.int .i64 0), (.slice none 0 0), (.bool false), (.int .i64 0)])) (.ld (some 4) (.var 3))))
 (.set 7 (.var 6))))
 (.seq
 (.cond (.bin .eql (.ld none (.offp 0 (.var 3))) (.const (.int .i64 0)))
 (.seq
 (.seq
 (.set 9 (.ld none (.offp 3 (.var 3))))
 (.set 8 (.const (.int .i64 0))))
 (.block 0
 (.loop [3, 7, 8, 9]
 (.seq
 (.cond (.bin .lss (.var 8) (.var 9))
 .skip
 (.exit 0))
 (.seq
 (.block 1
 (.seq
 (.set 10 (.var 8))
 (.seq
 .skip
 (.seq
 (.set 18 (.ld none (.offp 4 (.nn (.var 7)))))
 (.seq
 (.chk [(.var 10)])
 (.seq
 (.set 12 (.ld none (.offp 2 (.var 3))))
 (.seq
 (.resv 2)
 (.seq
 (.seq
 (.set 13 (.const (.bool true)))
 (.seq
 (.set 14 (.const (.bool true)))
 .skip))
 (.seq
 (.chk [(.var 13), (.var 14)])
 (.seq
 (.clr [13, 14])
 (.seq
 (.chk [(.const (.bool true)), (.pick (.bin .leq (.var 12) (.var 12)) (.pick (.bin .leq (.var 12) (.const (.int .i64 100000))) (.pick (.bin .leq (.const (.int .i64 0)) (.var 12)) (.const (.bool true)) (.nn (.const (.bool true)))) (.nn (.const (.bool true)))) (.nn (.const (.bool true)))), (.upd 0 1 (.const (.agg #[(.slice none 0 0)])) (.const (.pointer none)))])
 (.seq
 (.call (some 11) 38 [(.var 10)] [(.ld none (.offp 2 (.var 3))), (.ld none (.offp 4 (.nn (.var 7))))])
 (.seq
 (.set 15 (.bstr (.var 11)))
 (.seq
 (.mkR 0 13 5 [(.int .u8 0)] (.var 12) (.var 12))
 (.seq
 (.newR 1 14 101 (.upd 0 1 (.const (.agg #[(.slice none 0 0)])) (.var 13)))
 (.seq
 (.chk [(.upd 1 1 (.upd 0 1 (.const (.agg #[(.string ⟨#[]⟩), (.pointer none), (.int .i64 0)])) (.var 15)) (.var 14))])
 (.seq
 (.new (some 16) 103 (.upd 1 1 (.upd 0 1 (.const (.agg #[(.string ⟨#[]⟩), (.pointer none), (.int .i64 0)])) (.var 15)) (.var 14)))
 (.seq
 (.row (some 17) 97 1 (.upd 0 1 (.const (.agg #[(.pointer none)])) (.var 16)))
 (.seq
 (.app (some 19) 97 1 (.var 18) (.var 17) [])
 (.seq
 (.store 1 (.offp 4 (.nn (.var 7))) (.var 19) [])
 .skip))))))))))))))))))))
 (.set 8 (.bin .add (.var 8) (.const (.int .i64 1)))))))))
 .skip)
 (.seq
 (.seq
 (.set 1 (.var 7))
 (.set 2 (.const (.int .i64 0))))
 .ret))))),
  [(.var 1), (.var 2)]⟩
theorem okx_12 : FnOk Tryz.prog 3 377 12 xf12 := fnOk_of Tryz.func12 (np := 1) (V := [0, 2, 3, 1, 8, 4, 14, 5, 20, 19, 6, 29, 32, 33, 35, 30, 37, 38, 27, 39]) (ks := [[3, 7, 8, 9]]) (by kernel_rfl)

/- tipstaff/verify.Check -/
def xf17 : XF := ⟨2, [0, 1, 4, 5, 3, 14, 6, 7, 27, 8, 33, 32, 35, 9, 37, 39, 44],
  (.seq
 (.seq
 (.new (some 4) 43 (.var 1))
 (.seq
 (.new (some 2) 37 (.const (.agg #[(.int .i64 0), (.int .i64 0)])))
 (.set 3 (.const (.int .i64 0)))))
 (.seq
 (.seq
 (.seq
 (.call (some 5) 44 [(.var 0), (.ld none (.offp 2 (.var 4)))] [])
 (.seq
 (.chk [(.proj 1 (.var 5))])
 (.seq
 (.set 6 (.proj 0 (.var 5)))
 (.set 7 (.proj 1 (.var 5))))))
 (.cond (.bin .neq (.var 7) (.const (.int .i64 0)))
 (.seq
 (.cond (.bin .eql (.var 7) (.const (.int .i64 7)))
 (.seq
 (.seq
 (.chk [(.var 7)])
 (.seq
 (.store 2 (.var 2) (.const (.agg #[(.int .i64 0), (.int .i64 0)])) [])
 (.set 3 (.var 7))))
 .ret)
 .skip)
 (.seq
 (.seq
 (.chk [(.upd 0 1 (.const (.agg #[(.int .i64 0), (.int .i64 0)])) (.var 6))])
 (.seq
 (.store 2 (.var 2) (.upd 0 1 (.const (.agg #[(.int .i64 0), (.int .i64 0)])) (.var 6)) [])
 (.set 3 (.const (.int .i64 22)))))
 .ret))
 .skip))
 (.seq
 (.seq
 (.call (some 8) 45 [(.ld none (.offp 0 (.var 4))), (.const (.func (.func 46) #[] #[]))] [])
 (.cond (.var 8)
 (.seq
 (.seq
 (.store 2 (.var 2) (.const (.agg #[(.int .i64 0), (.int .i64 0)])) [])
 (.set 3 (.const (.int .i64 22))))
 .ret)
 .skip))
 (.seq
 (.set 9 (.const (.int .i64 512)))
 (.seq
 (.cond (.ld none (.offp 2 (.var 4)))
 (.set 9 (.const (.int .i64 2048)))
 .skip)
 (.seq
 (.seq
 (.chk [(.var 0)])
 (.seq
 (.set 11 (.ld (some 3) (.var 4)))
 (.seq
 (.mkmap (some 10) .i64 [])
 (.seq
 (.chk [(.upd 5 1 (.upd 1 3 (.upd 0 1 (.const (.agg #[(.slice none 0 0), (.slice none 0 0), (.slice none 0 0), (.bool false), (.slice none 0 0), (.map none), (.int .i64 0)])) (.var 0)) (.var 11)) (.var 10))])
 (.seq
 (.new (some 12) 118 (.upd 5 1 (.upd 1 3 (.upd 0 1 (.const (.agg #[(.slice none 0 0), (.slice none 0 0), (.slice none 0 0), (.bool false), (.slice none 0 0), (.map none), (.int .i64 0)])) (.var 0)) (.var 11)) (.var 10)))
 (.set 13 (.var 12)))))))
 (.seq
 (.seq
 (.chk [(.var 13)])
 (.seq
 (.call (some 14) 47 [] [])
 (.seq
 (.chk [(.upd 1 273 (.upd 0 1 (.const zA23) (.const (.int .i64 0))) (.var 14))])
 (.seq
 (.row (some 15) 132 1 (.upd 0 274 (.const zA23) (.upd 1 273 (.upd 0 1 (.const zA23) (.const (.int .i64 0))) (.var 14))))
 (.store 1 (.offp 4 (.nn (.var 13))) (.var 15) [])))))
 (.seq
 (.seq
 (.call (some 16) 48 [(.var 13), (.var 9)] [])
 (.seq
 (.chk [(.proj 1 (.var 16))])
 (.seq
 (.store 2 (.var 2) (.proj 0 (.var 16)) [])
 (.set 3 (.proj 1 (.var 16))))))
 .ret)))))))),
  [(.ld (some 2) (.var 2)), (.var 3)]⟩
theorem okx_17 : FnOk Tryz.prog 3 377 17 xf17 := fnOk_of Tryz.func17 (np := 2) (V := [0, 1, 4, 5, 3, 14, 6, 7, 27, 8, 33, 32, 35, 9, 37, 39, 44]) (ks := []) (by kernel_rfl)

/- tipstaff/vm.Run -/
def xf18 : XF := ⟨2, [0, 1, 4, 3, 14, 9, 16, 5, 6, 32, 31, 7, 36],
  (.seq
 (.seq
 (.new (some 3) 52 (.var 1))
 (.new (some 2) 46 (.const (.agg #[(.int .u64 0), (.int .i64 0), (.int .i64 0), (.int .i64 0)]))))
 (.seq
 (.seq
 .skip
 (.seq
 (.chk [(.var 0)])
 (.seq
 (.set 5 (.ld (some 36) (.var 3)))
 (.seq
 (.call (some 4) 49 [(.ld (some 32) (.offp 0 (.var 3))), (.ld none (.offp 32 (.var 3)))] [(.ld (some 36) (.var 3))])
 (.seq
 (.chk [(.upd 37 1 (.upd 1 36 (.upd 0 1 (.const zA20) (.var 0)) (.var 5)) (.var 4))])
 (.seq
 (.new (some 6) 141 (.upd 37 1 (.upd 1 36 (.upd 0 1 (.const zA20) (.var 0)) (.var 5)) (.var 4)))
 (.set 7 (.var 6))))))))
 (.seq
 (.seq
 (.chk [(.upd 0 1 (.const (.agg #[(.int .i64 0), (.int .u64 0), (.int .i64 0), (.pointer none)])) (.const (.int .i64 2)))])
 (.store 4 (.ixArr 11 4 (.offp 38 (.nn (.var 7))) (.const (.int .i64 1))) (.upd 0 1 (.const (.agg #[(.int .i64 0), (.int .u64 0), (.int .i64 0), (.pointer none)])) (.const (.int .i64 2))) []))
 (.seq
 (.seq
 (.chk [(.upd 0 1 (.const (.agg #[(.int .i64 0), (.int .u64 0), (.int .i64 0), (.pointer none)])) (.const (.int .i64 3)))])
 (.store 4 (.ixArr 11 4 (.offp 38 (.nn (.var 7))) (.const (.int .i64 10))) (.upd 0 1 (.const (.agg #[(.int .i64 0), (.int .u64 0), (.int .i64 0), (.pointer none)])) (.const (.int .i64 3))) []))
 (.seq
 (.set 8 (.mn (.mx (.ld none (.offp 35 (.var 3))) (.const (.int .i64 0))) (.const (.int .i64 4096))))
 (.seq
 (.seq
 (.seq
 (.set 10 (.var 8))
 (.set 9 (.const (.int .i64 0))))
 (.block 0
 (.loop [2, 7, 8, 9, 10]
 (.seq
 (.cond (.bin .lss (.var 9) (.var 10))
 .skip
 (.exit 0))
 (.seq
 (.block 1
 (.seq
 (.set 11 (.var 9))
 (.seq
 (.seq
 (.call (some 12) 50 [(.var 7)] [])
 (.cond (.un .not (.var 12))
 (.seq
 (.seq
 (.chk [(.upd 3 1 (.upd 2 1 (.upd 1 1 (.const (.agg #[(.int .u64 0), (.int .i64 0), (.int .i64 0), (.int .i64 0)])) (.ld none (.offp 82 (.nn (.var 7))))) (.var 11)) (.const (.int .i64 14)))])
 (.store 4 (.var 2) (.upd 3 1 (.upd 2 1 (.upd 1 1 (.const (.agg #[(.int .u64 0), (.int .i64 0), (.int .i64 0), (.int .i64 0)])) (.ld none (.offp 82 (.nn (.var 7))))) (.var 11)) (.const (.int .i64 14))) []))
 .ret)
 .skip))
 (.cond (.ld none (.offp 83 (.nn (.var 7))))
 (.seq
 (.seq
 .skip
 (.seq
 (.chk [(.upd 2 1 (.upd 1 1 (.upd 0 1 (.const (.agg #[(.int .u64 0), (.int .i64 0), (.int .i64 0), (.int .i64 0)])) (.ld none (.offp 1 (.ixArr 11 4 (.offp 38 (.nn (.var 7))) (.const (.int .i64 0)))))) (.ld none (.offp 82 (.nn (.var 7))))) (.bin .add (.var 11) (.const (.int .i64 1))))])
 (.store 4 (.var 2) (.upd 2 1 (.upd 1 1 (.upd 0 1 (.const (.agg #[(.int .u64 0), (.int .i64 0), (.int .i64 0), (.int .i64 0)])) (.ld none (.offp 1 (.ixArr 11 4 (.offp 38 (.nn (.var 7))) (.const (.int .i64 0)))))) (.ld none (.offp 82 (.nn (.var 7))))) (.bin .add (.var 11) (.const (.int .i64 1)))) [])))
 .ret)
 .skip))))
 (.set 9 (.bin .add (.var 9) (.const (.int .i64 1)))))))))
 (.seq
 (.seq
 (.chk [(.upd 3 1 (.upd 2 1 (.upd 1 1 (.const (.agg #[(.int .u64 0), (.int .i64 0), (.int .i64 0), (.int .i64 0)])) (.ld none (.offp 82 (.nn (.var 7))))) (.var 8)) (.const (.int .i64 62)))])
 (.store 4 (.var 2) (.upd 3 1 (.upd 2 1 (.upd 1 1 (.const (.agg #[(.int .u64 0), (.int .i64 0), (.int .i64 0), (.int .i64 0)])) (.ld none (.offp 82 (.nn (.var 7))))) (.var 8)) (.const (.int .i64 62))) []))
 .ret))))))),
  [(.ld (some 4) (.var 2))]⟩
theorem okx_18 : FnOk Tryz.prog 3 377 18 xf18 := fnOk_of Tryz.func18 (np := 2) (V := [0, 1, 4, 3, 14, 9, 16, 5, 6, 32, 31, 7, 36]) (ks := [[2, 7, 8, 9, 10]]) (by kernel_rfl)

/- tipstaff/loader.Load -/
def xf22 : XF := ⟨4, [0, 1, 2, 3, 8, 9, 4, 23, 10, 30, 12, 11, 13, 42, 14, 51, 52, 15, 16, 68, 17, 76, 73, 77, 79, 82],
  (.seq
 (.seq
 (.new (some 6) 64 (.var 0))
 (.seq
 (.set 4 (.const (.pointer none)))
 (.set 5 (.const (.int .i64 0)))))
 (.seq
 (.cond (.isnil 0 false (.var 2))
 (.seq
 (.seq
 (.set 4 (.const (.pointer none)))
 (.set 5 (.const (.int .i64 1))))
 .ret)
 .skip)
 (.seq
 (.seq
 (.seq
 (.call (some 7) 53 [(.var 2), (.ld none (.offp 0 (.var 6)))] [])
 (.set 8 (.var 7)))
 (.cond (.bin .neq (.var 8) (.const (.int .i64 0)))
 (.seq
 (.seq
 (.chk [(.var 8)])
 (.seq
 (.set 4 (.const (.pointer none)))
 (.set 5 (.var 8))))
 .ret)
 .skip))
 (.seq
 (.seq
 (.call (some 9) 54 [(.ld (some 4) (.var 6)), (.var 1)] [])
 (.seq
 (.chk [(.proj 2 (.var 9)), (.proj 1 (.var 9)), (.proj 0 (.var 9))])
 (.seq
 (.new (some 10) 49 (.const (.agg (Array.replicate 32 (.int .u8 0)))))
 (.seq
 (.set 11 (.proj 0 (.var 9)))
 (.seq
 (.store 32 (.var 10) (.proj 1 (.var 9)) [])
 (.set 12 (.proj 2 (.var 9))))))))
 (.seq
 (.cond (.bin .neq (.var 12) (.const (.int .i64 0)))
 (.seq
 (.seq
 (.chk [(.var 12)])
 (.seq
 (.set 4 (.const (.pointer none)))
 (.set 5 (.var 12))))
 .ret)
 .skip)
 (.seq
 (.seq
 (.seq
 (.call (some 13) 55 [(.var 2), (.var 11), (.var 1), (.ld none (.offp 2 (.var 6)))] [])
 (.set 14 (.var 13)))
 (.cond (.bin .neq (.var 14) (.const (.int .i64 0)))
 (.seq
 (.seq
 (.chk [(.var 14)])
 (.seq
 (.set 4 (.const (.pointer none)))
 (.set 5 (.var 14))))
 .ret)
 .skip))
 (.seq
 (.seq
 (.seq
 (.chk [(.var 11)])
 (.seq
 (.call (some 15) 56 [(.var 1), (.ld none (.offp 2 (.var 6)))] [])
 (.seq
 (.call (some 16) 17 [(.var 11), (.var 15)] [])
 (.seq
 (.chk [(.proj 1 (.var 16)), (.proj 0 (.var 16))])
 (.seq
 (.new (some 17) 37 (.const (.agg #[(.int .i64 0), (.int .i64 0)])))
 (.seq
 (.store 2 (.var 17) (.proj 0 (.var 16)) [])
 (.set 18 (.proj 1 (.var 16)))))))))
 (.cond (.bin .neq (.var 18) (.const (.int .i64 0)))
 (.seq
 (.seq
 (.chk [(.var 18)])
 (.seq
 (.set 4 (.const (.pointer none)))
 (.set 5 (.var 18))))
 .ret)
 .skip))
 (.seq
 (.cond (.ld none (.offp 5 (.offp 1 (.nn (.var 2)))))
 (.seq
 (.seq
 (.call (some 19) 57 [(.ld (some 32) (.var 10)), (.ld none (.offp 3 (.var 6))), (.var 1), (.var 3)] [])
 (.set 20 (.var 19)))
 (.cond (.bin .neq (.var 20) (.const (.int .i64 0)))
 (.seq
 (.seq
 (.chk [(.var 20)])
 (.seq
 (.set 4 (.const (.pointer none)))
 (.set 5 (.var 20))))
 .ret)
 .skip))
 .skip)
 (.seq
 (.seq
 .skip
 (.seq
 (.set 22 (.ld none (.offp 0 (.var 6))))
 (.seq
 (.chk [(.var 1), (.var 11)])
 (.seq
 (.set 23 (.ld (some 32) (.var 10)))
 (.seq
 (.set 24 (.ld none (.offp 2 (.var 6))))
 (.seq
 (.chk [(.var 2)])
 (.seq
 (.call (some 21) 58 [(.var 1)] [(.ld none (.offp 2 (.var 6))), (.ld (some 32) (.var 10)), (.ld none (.offp 0 (.var 6)))])
 (.seq
 (.chk [(.upd 36 1 (.upd 35 1 (.upd 3 32 (.upd 2 1 (.upd 1 1 (.upd 0 1 (.const zA16) (.var 22)) (.var 11)) (.var 21)) (.var 23)) (.var 24)) (.var 2))])
 (.seq
 (.new (some 25) 73 (.upd 36 1 (.upd 35 1 (.upd 3 32 (.upd 2 1 (.upd 1 1 (.upd 0 1 (.const zA16) (.var 22)) (.var 11)) (.var 21)) (.var 23)) (.var 24)) (.var 2)))
 (.seq
 (.set 4 (.var 25))
 (.set 5 (.const (.int .i64 0)))))))))))))
 .ret))))))))),
  [(.var 4), (.var 5)]⟩
theorem okx_22 : FnOk Tryz.prog 3 377 22 xf22 := fnOk_of Tryz.func22 (np := 4) (V := [0, 1, 2, 3, 8, 9, 4, 23, 10, 30, 12, 11, 13, 42, 14, 51, 52, 15, 16, 68, 17, 76, 73, 77, 79, 82]) (ks := []) (by kernel_rfl)

/- tipstaff/rights.All -/
def xf24 : XF := ⟨0, [0],
  (.seq
 (.new (some 0) 69 (.const zA4))
 (.seq
 (.seq
 (.chk [(.upd 5 1 (.upd 4 1 (.upd 3 1 (.upd 2 1 (.upd 1 1 (.upd 0 1 (.const zA4) (.const (.int .u16 255))) (.const (.int .u16 15))) (.const (.int .u16 63))) (.const (.int .u16 255))) (.const (.bool true))) (.const (.bool false)))])
 (.store 6 (.var 0) (.upd 5 1 (.upd 4 1 (.upd 3 1 (.upd 2 1 (.upd 1 1 (.upd 0 1 (.const zA4) (.const (.int .u16 255))) (.const (.int .u16 15))) (.const (.int .u16 63))) (.const (.int .u16 255))) (.const (.bool true))) (.const (.bool false))) []))
 .ret)),
  [(.ld (some 6) (.var 0))]⟩
theorem okx_24 : FnOk Tryz.prog 3 377 24 xf24 := fnOk_of Tryz.func24 (np := 0) (V := [0]) (ks := []) (by kernel_rfl)

/- tipstaff/loader.Held -/
def xf26 : XF := ⟨1, [0, 2, 21, 12, 29, 24, 47],
  (.seq
 (.set 1 (.const (.bool false)))
 (.seq
 (.seq
 (.seq
 .skip
 (.seq
 (.set 3 (.pick (.isnil 0 false (.var 0)) (.const (.bool true)) (.isnil 0 false (.ld none (.offp 36 (.nn (.var 0)))))))
 (.seq
 (.chk [(.pick (.var 3) (.const (.bool false)) (.ld none (.offp 0 (.nn (.var 0))))), (.pick (.var 3) (.const (.bool false)) (.ld none (.offp 36 (.nn (.var 0)))))])
 (.seq
 (.cond (.pick (.var 3) (.const (.bool false)) (.const (.bool true)))
 (.call (some 2) 53 [(.ld none (.offp 36 (.nn (.var 0)))), (.ld none (.offp 0 (.nn (.var 0))))] [])
 (.clr [2]))
 (.seq
 (.set 5 (.pick (.var 3) (.const (.bool true)) (.bin .neq (.var 2) (.const (.int .i64 0)))))
 (.seq
 (.chk [(.pick (.var 5) (.const (.bool false)) (.ld none (.offp 2 (.nn (.var 0)))))])
 (.cond (.pick (.var 5) (.const (.bool false)) (.const (.bool true)))
 (.call (some 4) 61 [(.ld none (.offp 2 (.nn (.var 0)))), (.const (.pointer none))] [])
 (.clr [4]))))))))
 (.cond (.pick (.var 5) (.const (.bool true)) (.var 4))
 (.seq
 (.set 1 (.const (.bool false)))
 .ret)
 .skip))
 (.seq
 (.seq
 .skip
 (.seq
 (.call (some 6) 55 [(.ld none (.offp 36 (.nn (.var 0)))), (.ld none (.offp 1 (.nn (.var 0)))), (.ld none (.offp 2 (.nn (.var 0)))), (.ld none (.offp 35 (.nn (.var 0))))] [])
 (.set 1 (.bin .eql (.var 6) (.const (.int .i64 0))))))
 .ret))),
  [(.var 1)]⟩
theorem okx_26 : FnOk Tryz.prog 3 377 26 xf26 := fnOk_of Tryz.func26 (np := 1) (V := [0, 2, 21, 12, 29, 24, 47]) (ks := []) (by kernel_rfl)

/- tipstaff/gate.New -/
def xf27 : XF := ⟨0, [0, 3, 4, 6, 1, 9, 14, 2, 20],
  (.seq
 (.set 0 (.const (.pointer none)))
 (.seq
 (.seq
 (.call (some 1) 60 [] [])
 (.seq
 (.call (some 2) 62 [] [])
 (.seq
 (.chk [(.upd 1 1 (.upd 0 1 (.const (.agg (Array.replicate 7 (.pointer none)))) (.var 1)) (.var 2))])
 (.seq
 (.new (some 3) 164 (.upd 1 1 (.upd 0 1 (.const (.agg (Array.replicate 7 (.pointer none)))) (.var 1)) (.var 2)))
 (.set 4 (.var 3))))))
 (.seq
 (.seq
 (.chk [(.var 4)])
 (.seq
 (.call (some 5) 63 [(.const (.int .i64 64))] [])
 (.seq
 (.chk [(.proj 1 (.var 5))])
 (.store 1 (.offp 2 (.nn (.var 4))) (.proj 0 (.var 5)) []))))
 (.seq
 (.seq
 (.set 6 (.const (.int .i64 0)))
 (.block 0
 (.loop [4, 6]
 (.seq
 (.cond (.bin .lss (.var 6) (.const (.int .i64 4)))
 .skip
 (.exit 0))
 (.seq
 (.block 1
 (.seq
 (.set 7 (.var 6))
 (.seq
 .skip
 (.seq
 (.chk [(.offp 3 (.nn (.var 4))), (.var 7)])
 (.seq
 (.call (some 8) 41 [(.const (.int .i64 16))] [])
 (.seq
 (.chk [(.proj 1 (.var 8))])
 (.store 1 (.ixArr 4 1 (.offp 3 (.nn (.var 4))) (.var 7)) (.proj 0 (.var 8)) [])))))))
 (.set 6 (.bin .add (.var 6) (.const (.int .i64 1)))))))))
 (.seq
 (.set 0 (.var 4))
 .ret))))),
  [(.var 0)]⟩
theorem okx_27 : FnOk Tryz.prog 3 377 27 xf27 := fnOk_of Tryz.func27 (np := 0) (V := [0, 3, 4, 6, 1, 9, 14, 2, 20]) (ks := [[4, 6]]) (by kernel_rfl)

/- tipstaff/tipstafflaw22.gates -/
def xf28 : XF := ⟨0, [0, 6, 1, 8, 10, 2, 14, 3, 30, 28, 36, 39, 4, 5, 50, 48, 56, 54],
  (.seq
 (.set 0 (.const (.bool false)))
 (.seq
 (.seq
 (.call (some 1) 27 [] [])
 (.set 2 (.var 1)))
 (.seq
 (.seq
 (.chk [(.var 2)])
 (.seq
 (.call (some 3) 32 [] [])
 (.seq
 (.chk [(.upd 8 6 (.upd 1 1 (.const zA18) (.const (.int .i64 12))) (.var 3))])
 (.seq
 (.call (some 4) 29 [(.var 2), (.upd 8 6 (.upd 1 1 (.const zA18) (.const (.int .i64 12))) (.var 3))] [])
 (.seq
 (.new (some 5) 80 (.const zA0))
 (.store 4 (.var 5) (.var 4) []))))))
 (.seq
 (.seq
 (.chk [(.upd 4 4 (.upd 1 1 (.const zA18) (.const (.int .i64 0))) (.upd 3 1 (.upd 2 1 (.upd 1 1 (.upd 0 1 (.const (.agg (Array.replicate 4 (.int .i64 0)))) (.const (.int .i64 1))) (.const (.int .i64 1))) (.const (.int .i64 1))) (.const (.int .i64 1)))), (.upd 3 1 (.upd 2 1 (.upd 1 1 (.upd 0 1 (.const (.agg (Array.replicate 4 (.int .i64 0)))) (.const (.int .i64 1))) (.const (.int .i64 1))) (.const (.int .i64 1))) (.const (.int .i64 1)))])
 (.seq
 (.call (some 6) 29 [(.var 2), (.upd 4 4 (.upd 1 1 (.const zA18) (.const (.int .i64 0))) (.upd 3 1 (.upd 2 1 (.upd 1 1 (.upd 0 1 (.const (.agg (Array.replicate 4 (.int .i64 0)))) (.const (.int .i64 1))) (.const (.int .i64 1))) (.const (.int .i64 1))) (.const (.int .i64 1))))] [])
 (.seq
 (.new (some 7) 80 (.const zA0))
 (.store 4 (.var 7) (.var 6) []))))
 (.seq
 (.seq
 (.seq
 (.set 9 (.pick (.pick (.bin .neq (.ld none (.offp 0 (.var 5))) (.const (.int .i64 0))) (.const (.bool true)) (.bin .neq (.ld none (.offp 0 (.var 7))) (.const (.int .i64 0)))) (.const (.bool true)) (.bin .neq (.ld none (.offp 1 (.var 7))) (.const (.int .i64 1)))))
 (.seq
 (.chk [(.pick (.var 9) (.const (.bool false)) (.var 2))])
 (.cond (.pick (.var 9) (.const (.bool false)) (.const (.bool true)))
 (.call (some 8) 30 [(.var 2)] [])
 (.clr [8]))))
 (.cond (.pick (.var 9) (.const (.bool true)) (.bin .neq (.len false (.var 8)) (.const (.int .i64 2))))
 (.seq
 (.set 0 (.const (.bool false)))
 .ret)
 .skip))
 (.seq
 (.seq
 (.chk [(.upd 1 1 (.const zA18) (.const (.int .i64 8)))])
 (.seq
 (.call (some 10) 29 [(.var 2), (.upd 1 1 (.const zA18) (.const (.int .i64 8)))] [])
 (.seq
 (.chk [(.upd 2 1 (.upd 1 1 (.const zA18) (.const (.int .i64 8))) (.const (.int .i64 1)))])
 (.seq
 (.call (some 11) 29 [(.var 2), (.upd 2 1 (.upd 1 1 (.const zA18) (.const (.int .i64 8))) (.const (.int .i64 1)))] [])
 (.seq
 (.new (some 12) 80 (.const zA0))
 (.seq
 (.new (some 13) 80 (.const zA0))
 (.seq
 (.store 4 (.var 12) (.var 10) [])
 (.store 4 (.var 13) (.var 11) []))))))))
 (.seq
 (.seq
 (.set 15 (.pick (.bin .eql (.ld none (.offp 0 (.var 12))) (.const (.int .i64 0))) (.bin .eql (.ld none (.offp 0 (.var 13))) (.const (.int .i64 0))) (.const (.bool false))))
 (.seq
 (.chk [(.pick (.var 15) (.var 2) (.const (.bool false)))])
 (.seq
 (.cond (.pick (.var 15) (.const (.bool true)) (.const (.bool false)))
 (.call (some 14) 30 [(.var 2)] [])
 (.clr [14]))
 (.seq
 (.set 17 (.pick (.var 15) (.bin .eql (.len false (.var 14)) (.const (.int .i64 0))) (.const (.bool false))))
 (.seq
 (.chk [(.pick (.var 17) (.var 2) (.const (.bool false)))])
 (.seq
 (.cond (.pick (.var 17) (.const (.bool true)) (.const (.bool false)))
 (.call (some 16) 31 [(.var 2)] [])
 (.clr [16]))
 (.set 0 (.pick (.var 17) (.var 16) (.const (.bool false))))))))))
 .ret))))))),
  [(.var 0)]⟩
theorem okx_28 : FnOk Tryz.prog 3 377 28 xf28 := fnOk_of Tryz.func28 (np := 0) (V := [0, 6, 1, 8, 10, 2, 14, 3, 30, 28, 36, 39, 4, 5, 50, 48, 56, 54]) (ks := []) (by kernel_rfl)

/- (*tipstaff/gate.Kernel).Do -/
def xf29 : XF := ⟨2, [0, 1, 4, 3, 17, 19, 20, 26, 27, 34, 35, 39, 40, 46, 47, 53, 54],
  (.seq
 (.seq
 (.new (some 3) 78 (.var 1))
 (.new (some 2) 80 (.const zA0)))
 (.seq
 (.cond (.pick (.pick (.isnil 0 false (.var 0)) (.const (.bool true)) (.bin .lss (.ld none (.offp 0 (.var 3))) (.const (.int .i64 0)))) (.const (.bool true)) (.bin .geq (.ld none (.offp 0 (.var 3))) (.const (.int .i64 4))))
 (.seq
 (.seq
 (.call (some 4) 64 [(.const (.int .i64 22))] [])
 (.store 4 (.var 2) (.var 4) []))
 .ret)
 .skip)
 (.seq
 (.seq
 (.set 5 (.ld none (.offp 1 (.var 3))))
 (.block 0
 (.seq
 (.seq
 (.set 6 (.bin .eql (.var 5) (.const (.int .i64 0))))
 (.cond (.var 6)
 .skip
 (.seq
 (.set 6 (.bin .eql (.var 5) (.const (.int .i64 1))))
 (.cond (.var 6)
 .skip
 (.set 6 (.bin .eql (.var 5) (.const (.int .i64 2))))))))
 (.cond (.var 6)
 (.seq
 (.seq
 (.call (some 7) 65 [(.var 0), (.ld (some 55) (.var 3))] [])
 (.store 4 (.var 2) (.var 7) []))
 .ret)
 (.seq
 (.seq
 (.set 8 (.bin .eql (.var 5) (.const (.int .i64 3))))
 (.cond (.var 8)
 .skip
 (.seq
 (.set 8 (.bin .eql (.var 5) (.const (.int .i64 4))))
 (.cond (.var 8)
 .skip
 (.seq
 (.set 8 (.bin .eql (.var 5) (.const (.int .i64 5))))
 (.cond (.var 8)
 .skip
 (.set 8 (.bin .eql (.var 5) (.const (.int .i64 6))))))))))
 (.cond (.var 8)
 (.seq
 (.seq
 (.call (some 9) 66 [(.var 0), (.ld (some 55) (.var 3))] [])
 (.store 4 (.var 2) (.var 9) []))
 .ret)
 (.seq
 (.set 10 (.bin .eql (.var 5) (.const (.int .i64 7))))
 (.cond (.var 10)
 (.seq
 (.seq
 (.call (some 11) 67 [(.var 0), (.ld (some 55) (.var 3))] [])
 (.store 4 (.var 2) (.var 11) []))
 .ret)
 (.seq
 (.seq
 (.set 12 (.bin .eql (.var 5) (.const (.int .i64 8))))
 (.cond (.var 12)
 .skip
 (.seq
 (.set 12 (.bin .eql (.var 5) (.const (.int .i64 9))))
 (.cond (.var 12)
 .skip
 (.set 12 (.bin .eql (.var 5) (.const (.int .i64 10))))))))
 (.cond (.var 12)
 (.seq
 (.seq
 (.call (some 13) 68 [(.var 0), (.ld (some 55) (.var 3))] [])
 (.store 4 (.var 2) (.var 13) []))
 .ret)
 (.seq
 (.seq
 (.set 14 (.bin .eql (.var 5) (.const (.int .i64 11))))
 (.cond (.var 14)
 .skip
 (.seq
 (.set 14 (.bin .eql (.var 5) (.const (.int .i64 12))))
 (.cond (.var 14)
 .skip
 (.set 14 (.bin .eql (.var 5) (.const (.int .i64 13))))))))
 (.cond (.var 14)
 (.seq
 (.seq
 (.call (some 15) 69 [(.var 0), (.ld (some 55) (.var 3))] [])
 (.store 4 (.var 2) (.var 15) []))
 .ret)
 .skip))))))))))))
 (.seq
 (.seq
 (.call (some 16) 64 [(.const (.int .i64 22))] [])
 (.store 4 (.var 2) (.var 16) []))
 .ret)))),
  [(.ld (some 4) (.var 2))]⟩
theorem okx_29 : FnOk Tryz.prog 3 377 29 xf29 := fnOk_of Tryz.func29 (np := 2) (V := [0, 1, 4, 3, 17, 19, 20, 26, 27, 34, 35, 39, 40, 46, 47, 53, 54]) (ks := []) (by kernel_rfl)

/- (*tipstaff/gate.Kernel).Objects -/
def xf30 : XF := ⟨1, [0, 2, 3, 14, 16, 15, 5, 26, 6, 7, 37, 39, 40, 46, 47],
  (.seq
 (.set 1 (.const (.slice none 0 0)))
 (.seq
 (.cond (.isnil 0 false (.var 0))
 (.seq
 (.set 1 (.const (.slice none 0 0)))
 .ret)
 .skip)
 (.seq
 (.set 2 (.const (.slice none 0 0)))
 (.seq
 (.seq
 (.seq
 (.call (some 3) 70 [(.ld none (.offp 2 (.nn (.var 0))))] [])
 (.seq
 (.set 5 (.len false (.var 3)))
 (.set 4 (.const (.int .i64 0)))))
 (.block 0
 (.loop [0, 2, 3, 4, 5]
 (.seq
 (.cond (.bin .lss (.var 4) (.var 5))
 .skip
 (.exit 0))
 (.seq
 (.block 1
 (.seq
 (.set 6 (.ld none (.ixSl 1 (.var 3) (.var 4))))
 (.seq
 (.seq
 (.call (some 7) 71 [(.ld none (.offp 2 (.nn (.var 0)))), (.var 6)] [])
 (.seq
 (.chk [(.proj 1 (.var 7)), (.proj 0 (.var 7))])
 (.seq
 (.new (some 8) 168 (.const zA6))
 (.seq
 (.store 7 (.var 8) (.proj 0 (.var 7)) [])
 (.set 9 (.proj 1 (.var 7)))))))
 (.seq
 (.cond (.bin .neq (.var 9) (.const (.int .i64 0)))
 (.exit 1)
 .skip)
 (.seq
 (.seq
 .skip
 (.seq
 (.chk [(.var 6), (.ld none (.offp 2 (.nn (.var 0))))])
 (.seq
 (.set 11 (.ld none (.offp 3 (.var 8))))
 (.seq
 (.chk [(.offp 0 (.var 8))])
 (.seq
 (.call (some 10) 72 [(.ld none (.offp 2 (.nn (.var 0)))), (.var 6)] [(.ld none (.offp 3 (.var 8)))])
 (.seq
 (.call (some 12) 73 [(.var 11)] [])
 (.seq
 (.store 1 (.offp 0 (.var 8)) (.var 6) [])
 (.seq
 (.store 1 (.offp 2 (.var 8)) (.var 10) [])
 (.store 1 (.offp 3 (.var 8)) (.var 12) [])))))))))
 (.seq
 (.chk [(.var 2)])
 (.seq
 (.row (some 13) 168 1 (.upd 0 7 (.const zA6) (.ld (some 7) (.var 8))))
 (.seq
 (.app (some 14) 168 7 (.var 2) (.var 13) [])
 (.set 2 (.var 14))))))))))
 (.set 4 (.bin .add (.var 4) (.const (.int .i64 1)))))))))
 (.seq
 (.set 1 (.var 2))
 .ret))))),
  [(.var 1)]⟩
theorem okx_30 : FnOk Tryz.prog 3 377 30 xf30 := fnOk_of Tryz.func30 (np := 1) (V := [0, 2, 3, 14, 16, 15, 5, 26, 6, 7, 37, 39, 40, 46, 47]) (ks := [[0, 2, 3, 4, 5]]) (by kernel_rfl)

/- (*tipstaff/gate.Kernel).Sound -/
def xf31 : XF := ⟨1, [0, 2, 9, 3, 11, 13, 12, 5, 16, 21, 17, 32, 29, 25, 46, 39, 35],
  (.seq
 (.set 1 (.const (.bool false)))
 (.seq
 (.cond (.isnil 0 false (.var 0))
 (.seq
 (.set 1 (.const (.bool false)))
 .ret)
 .skip)
 (.seq
 (.seq
 (.call (some 2) 74 [(.var 0)] [])
 (.set 3 (.var 2)))
 (.seq
 (.seq
 (.seq
 (.call (some 4) 30 [(.var 0)] [])
 (.seq
 (.set 6 (.len false (.var 4)))
 (.set 5 (.const (.int .i64 0)))))
 (.block 0
 (.loop [0, 3, 4, 5, 6]
 (.seq
 (.cond (.bin .lss (.var 5) (.var 6))
 .skip
 (.exit 0))
 (.seq
 (.block 1
 (.seq
 (.seq
 (.set 8 (.ld (some 7) (.ixSl 7 (.var 4) (.var 5))))
 (.seq
 (.new (some 7) 168 (.const zA6))
 (.store 7 (.var 7) (.var 8) [])))
 (.block 2
 (.seq
 (.seq
 (.look (some 9) (.int .i64 0) false .i64 (.var 3) (.ld none (.offp 0 (.var 7))) [])
 (.set 10 (.bin .neq (.var 9) (.ld none (.offp 2 (.var 7))))))
 (.cond (.var 10)
 (.seq
 (.set 1 (.const (.bool false)))
 .ret)
 (.seq
 (.seq
 (.set 12 (.bin .eql (.ld none (.offp 1 (.var 7))) (.const (.int .i64 2))))
 (.seq
 (.chk [(.pick (.var 12) (.ld none (.offp 5 (.var 7))) (.const (.bool false)))])
 (.seq
 (.cond (.pick (.var 12) (.const (.bool true)) (.const (.bool false)))
 (.call (some 11) 26 [(.ld none (.offp 5 (.var 7)))] [])
 (.clr [11]))
 (.set 13 (.pick (.var 12) (.un .not (.var 11)) (.const (.bool false)))))))
 (.cond (.var 13)
 (.seq
 (.set 1 (.const (.bool false)))
 .ret)
 (.seq
 (.seq
 .skip
 (.seq
 (.set 15 (.bin .eql (.ld none (.offp 1 (.var 7))) (.const (.int .i64 3))))
 (.seq
 (.chk [(.pick (.var 15) (.ld none (.offp 6 (.var 7))) (.const (.bool false))), (.pick (.var 15) (.ld none (.offp 0 (.nn (.var 0)))) (.const (.bool false)))])
 (.seq
 (.cond (.pick (.var 15) (.const (.bool true)) (.const (.bool false)))
 (.call (some 14) 75 [(.ld none (.offp 0 (.nn (.var 0)))), (.ld none (.offp 6 (.var 7)))] [])
 (.clr [14]))
 (.set 16 (.pick (.var 15) (.un .not (.var 14)) (.const (.bool false))))))))
 (.cond (.var 16)
 (.seq
 (.set 1 (.const (.bool false)))
 .ret)
 .skip)))))))))
 (.set 5 (.bin .add (.var 5) (.const (.int .i64 1)))))))))
 (.seq
 (.set 1 (.const (.bool true)))
 .ret))))),
  [(.var 1)]⟩
theorem okx_31 : FnOk Tryz.prog 3 377 31 xf31 := fnOk_of Tryz.func31 (np := 1) (V := [0, 2, 9, 3, 11, 13, 12, 5, 16, 21, 17, 32, 29, 25, 46, 39, 35]) (ks := [[0, 3, 4, 5, 6]]) (by kernel_rfl)

/- tipstaff/tipstafflaw22.all -/
def xf32 : XF := ⟨0, [0, 1],
  (.seq
 (.new (some 0) 69 (.const zA4))
 (.seq
 (.seq
 (.call (some 1) 24 [] [])
 (.store 6 (.var 0) (.var 1) []))
 .ret)),
  [(.ld (some 6) (.var 0))]⟩
theorem okx_32 : FnOk Tryz.prog 3 377 32 xf32 := fnOk_of Tryz.func32 (np := 0) (V := [0, 1]) (ks := []) (by kernel_rfl)

/- tipstaff/tipstafflaw22.program -/
def xf33 : XF := ⟨2, [0, 1, 4, 12, 5, 22, 6, 26, 27, 30, 34, 35, 37, 38, 45, 46, 48, 49, 52, 53, 57, 59, 62, 63, 65],
  (.seq
 (.set 2 (.const (.slice none 0 0)))
 (.seq
 (.seq
 (.chk [(.upd 0 1 (.const zA2) (.const (.int .u8 149))), (.upd 4 1 (.upd 0 1 (.const zA2) (.const (.int .u8 183))) (.conv .i32 (.bin .rem (.var 0) (.const (.int .i64 7)))))])
 (.seq
 (.row (some 3) 32 2 (.upd 5 5 (.upd 0 5 (.const zA8) (.upd 4 1 (.upd 0 1 (.const zA2) (.const (.int .u8 183))) (.conv .i32 (.bin .rem (.var 0) (.const (.int .i64 7)))))) (.upd 0 1 (.const zA2) (.const (.int .u8 149)))))
 (.set 4 (.var 3))))
 (.seq
 (.seq
 (.chk [(.upd 4 1 (.upd 1 1 (.upd 0 1 (.const zA2) (.const (.int .u8 7))) (.const (.int .u8 2))) (.const (.int .i32 (-8)))), (.upd 2 1 (.upd 1 1 (.upd 0 1 (.const zA2) (.const (.int .u8 191))) (.const (.int .u8 2))) (.const (.int .u8 10))), (.upd 4 1 (.upd 2 1 (.upd 1 1 (.upd 0 1 (.const zA2) (.const (.int .u8 24))) (.const (.int .u8 1))) (.const (.int .u8 1))) (.var 1)), (.upd 4 1 (.upd 3 1 (.upd 1 1 (.upd 0 1 (.const zA2) (.const (.int .u8 122))) (.const (.int .u8 10))) (.const (.int .i16 (-8)))) (.conv .i32 (.bin .rem (.var 0) (.const (.int .i64 3)))))])
 (.seq
 (.row (some 5) 32 5 (.upd 20 5 (.upd 15 5 (.upd 10 5 (.upd 5 5 (.upd 0 5 (.const zA11) (.upd 4 1 (.upd 3 1 (.upd 1 1 (.upd 0 1 (.const zA2) (.const (.int .u8 122))) (.const (.int .u8 10))) (.const (.int .i16 (-8)))) (.conv .i32 (.bin .rem (.var 0) (.const (.int .i64 3)))))) (.upd 4 1 (.upd 2 1 (.upd 1 1 (.upd 0 1 (.const zA2) (.const (.int .u8 24))) (.const (.int .u8 1))) (.const (.int .u8 1))) (.var 1))) (.const zA2)) (.upd 2 1 (.upd 1 1 (.upd 0 1 (.const zA2) (.const (.int .u8 191))) (.const (.int .u8 2))) (.const (.int .u8 10)))) (.upd 4 1 (.upd 1 1 (.upd 0 1 (.const zA2) (.const (.int .u8 7))) (.const (.int .u8 2))) (.const (.int .i32 (-8))))))
 (.set 6 (.var 5))))
 (.seq
 (.seq
 (.set 7 (.conv .i64 (.bin .rem (.conv .u64 (.var 0)) (.const (.int .u64 6)))))
 (.block 0
 (.seq
 (.set 8 (.bin .eql (.var 7) (.const (.int .i64 0))))
 (.cond (.var 8)
 (.seq
 (.set 2 (.var 4))
 .ret)
 (.seq
 (.set 9 (.bin .eql (.var 7) (.const (.int .i64 1))))
 (.cond (.var 9)
 (.seq
 (.seq
 (.chk [(.upd 4 1 (.upd 0 1 (.const zA2) (.const (.int .u8 133))) (.const (.int .i32 1))), (.var 6)])
 (.seq
 (.row (some 10) 32 1 (.upd 0 5 (.const zA2) (.upd 4 1 (.upd 0 1 (.const zA2) (.const (.int .u8 133))) (.const (.int .i32 1)))))
 (.seq
 (.app (some 11) 32 5 (.var 6) (.var 10) [])
 (.seq
 (.app (some 12) 32 5 (.var 11) (.var 4) [])
 (.set 2 (.var 12))))))
 .ret)
 (.seq
 (.set 13 (.bin .eql (.var 7) (.const (.int .i64 2))))
 (.cond (.var 13)
 (.seq
 (.seq
 (.chk [(.upd 4 1 (.upd 0 1 (.const zA2) (.const (.int .u8 133))) (.const (.int .i32 2))), (.upd 1 1 (.upd 0 1 (.const zA2) (.const (.int .u8 183))) (.const (.int .u8 4))), (.upd 4 1 (.upd 1 1 (.upd 0 1 (.const zA2) (.const (.int .u8 7))) (.const (.int .u8 3))) (.const (.int .i32 (-8)))), (.upd 2 1 (.upd 1 1 (.upd 0 1 (.const zA2) (.const (.int .u8 191))) (.const (.int .u8 3))) (.const (.int .u8 10))), (.var 6)])
 (.seq
 (.row (some 14) 32 4 (.upd 15 5 (.upd 10 5 (.upd 5 5 (.upd 0 5 (.const (.agg #[(.int .u8 0), (.int .u8 0), (.int .u8 0), (.int .i16 0), (.int .i32 0), (.int .u8 0), (.int .u8 0), (.int .u8 0), (.int .i16 0), (.int .i32 0), (.int .u8 0), (.int .u8 0), (.int .u8 0), (.int .i16 0), (.int .i32 0), (.int .u8 0), (.int .u8 0), (.int .u8 0), (.int .i16 0), (.int .i32 0)])) (.upd 2 1 (.upd 1 1 (.upd 0 1 (.const zA2) (.const (.int .u8 191))) (.const (.int .u8 3))) (.const (.int .u8 10)))) (.upd 4 1 (.upd 1 1 (.upd 0 1 (.const zA2) (.const (.int .u8 7))) (.const (.int .u8 3))) (.const (.int .i32 (-8))))) (.upd 1 1 (.upd 0 1 (.const zA2) (.const (.int .u8 183))) (.const (.int .u8 4)))) (.upd 4 1 (.upd 0 1 (.const zA2) (.const (.int .u8 133))) (.const (.int .i32 2)))))
 (.seq
 (.app (some 15) 32 5 (.var 6) (.var 14) [])
 (.seq
 (.app (some 16) 32 5 (.var 15) (.var 4) [])
 (.set 2 (.var 16))))))
 .ret)
 (.seq
 (.set 17 (.bin .eql (.var 7) (.const (.int .i64 3))))
 (.cond (.var 17)
 (.seq
 (.seq
 (.chk [(.upd 0 1 (.const zA2) (.const (.int .u8 149)))])
 (.seq
 (.row (some 18) 32 1 (.upd 0 5 (.const zA2) (.upd 0 1 (.const zA2) (.const (.int .u8 149)))))
 (.set 2 (.var 18))))
 .ret)
 (.seq
 (.set 19 (.bin .eql (.var 7) (.const (.int .i64 4))))
 (.cond (.var 19)
 (.seq
 (.seq
 (.chk [(.upd 3 1 (.upd 2 1 (.upd 1 1 (.upd 0 1 (.const zA2) (.const (.int .u8 123))) (.const (.int .u8 10))) (.const (.int .u8 0))) (.const (.int .i16 (-16)))), (.upd 4 1 (.upd 0 1 (.const zA2) (.const (.int .u8 133))) (.const (.int .i32 7)))])
 (.seq
 (.row (some 20) 32 2 (.upd 5 5 (.upd 0 5 (.const zA8) (.upd 4 1 (.upd 0 1 (.const zA2) (.const (.int .u8 133))) (.const (.int .i32 7)))) (.upd 3 1 (.upd 2 1 (.upd 1 1 (.upd 0 1 (.const zA2) (.const (.int .u8 123))) (.const (.int .u8 10))) (.const (.int .u8 0))) (.const (.int .i16 (-16))))))
 (.seq
 (.app (some 21) 32 5 (.var 20) (.var 4) [])
 (.set 2 (.var 21)))))
 .ret)
 .skip))))))))))))
 (.seq
 (.seq
 (.chk [(.upd 4 1 (.upd 0 1 (.const zA2) (.const (.int .u8 133))) (.const (.int .i32 3))), (.var 6)])
 (.seq
 (.row (some 22) 32 1 (.upd 0 5 (.const zA2) (.upd 4 1 (.upd 0 1 (.const zA2) (.const (.int .u8 133))) (.const (.int .i32 3)))))
 (.seq
 (.app (some 23) 32 5 (.var 6) (.var 22) [])
 (.seq
 (.app (some 24) 32 5 (.var 23) (.var 4) [])
 (.set 2 (.var 24))))))
 .ret))))),
  [(.var 2)]⟩
theorem okx_33 : FnOk Tryz.prog 3 377 33 xf33 := fnOk_of Tryz.func33 (np := 2) (V := [0, 1, 4, 12, 5, 22, 6, 26, 27, 30, 34, 35, 37, 38, 45, 46, 48, 49, 52, 53, 57, 59, 62, 63, 65]) (ks := []) (by kernel_rfl)

/- (*tipstaff/gate.Kernel).Fds -/
def xf34 : XF := ⟨2, [0, 1, 4, 5, 26, 28, 27, 7, 40, 8, 9, 49, 50],
  (.seq
 (.set 2 (.const (.slice none 0 0)))
 (.seq
 (.cond (.pick (.pick (.isnil 0 false (.var 0)) (.const (.bool true)) (.bin .lss (.var 1) (.const (.int .i64 0)))) (.const (.bool true)) (.bin .geq (.var 1) (.const (.int .i64 4))))
 (.seq
 (.set 2 (.const (.slice none 0 0)))
 .ret)
 .skip)
 (.seq
 (.set 3 (.const (.slice none 0 0)))
 (.seq
 (.seq
 (.seq
 (.call (some 4) 76 [(.ld none (.ixArr 4 1 (.offp 3 (.nn (.var 0))) (.var 1)))] [])
 (.seq
 (.set 6 (.len false (.var 4)))
 (.set 5 (.const (.int .i64 0)))))
 (.block 0
 (.loop [0, 1, 3, 4, 5, 6]
 (.seq
 (.cond (.bin .lss (.var 5) (.var 6))
 .skip
 (.exit 0))
 (.seq
 (.block 1
 (.seq
 (.set 7 (.ld none (.ixSl 1 (.var 4) (.var 5))))
 (.seq
 (.seq
 (.call (some 8) 43 [(.ld none (.ixArr 4 1 (.offp 3 (.nn (.var 0))) (.var 1))), (.var 7)] [])
 (.seq
 (.chk [(.proj 1 (.var 8))])
 (.seq
 (.set 9 (.proj 0 (.var 8)))
 (.set 10 (.proj 1 (.var 8))))))
 (.cond (.bin .eql (.var 10) (.const (.int .i64 0)))
 (.seq
 (.chk [(.upd 1 1 (.upd 0 1 (.const (.agg #[(.int .i64 0), (.int .i64 0)])) (.var 7)) (.var 9)), (.var 3)])
 (.seq
 (.row (some 11) 178 1 (.upd 0 2 (.const (.agg #[(.int .i64 0), (.int .i64 0)])) (.upd 1 1 (.upd 0 1 (.const (.agg #[(.int .i64 0), (.int .i64 0)])) (.var 7)) (.var 9))))
 (.seq
 (.app (some 12) 178 2 (.var 3) (.var 11) [])
 (.set 3 (.var 12)))))
 .skip))))
 (.set 5 (.bin .add (.var 5) (.const (.int .i64 1)))))))))
 (.seq
 (.set 2 (.var 3))
 .ret))))),
  [(.var 2)]⟩
theorem okx_34 : FnOk Tryz.prog 3 377 34 xf34 := fnOk_of Tryz.func34 (np := 2) (V := [0, 1, 4, 5, 26, 28, 27, 7, 40, 8, 9, 49, 50]) (ks := [[0, 1, 3, 4, 5, 6]]) (by kernel_rfl)

/- tipstaff/bmap.Check -/
def xf37 : XF := ⟨1, [0, 2, 1, 6, 10, 3, 13, 14, 22, 29, 31, 40, 46],
  (.seq
 (.seq
 (.new (some 2) 24 (.var 0))
 (.set 1 (.const (.int .i64 0))))
 (.seq
 (.seq
 (.call (some 3) 79 [(.ld none (.offp 2 (.var 2))), (.const (.int .i64 1)), (.const (.int .i64 64))] [])
 (.seq
 (.chk [(.pick (.var 3) (.ld none (.offp 3 (.var 2))) (.const (.bool false)))])
 (.seq
 (.cond (.pick (.var 3) (.const (.bool true)) (.const (.bool false)))
 (.call (some 4) 79 [(.ld none (.offp 3 (.var 2))), (.const (.int .i64 1)), (.const (.int .i64 64))] [])
 (.clr [4]))
 (.set 5 (.pick (.var 3) (.var 4) (.const (.bool false)))))))
 (.seq
 (.seq
 (.set 6 (.ld none (.offp 0 (.var 2))))
 (.block 0
 (.seq
 (.set 7 (.bin .eql (.var 6) (.const (.int .i64 0))))
 (.cond (.var 7)
 (.set 5 (.pick (.var 5) (.bin .eql (.ld none (.offp 1 (.var 2))) (.const (.int .i64 4))) (.const (.bool false))))
 (.seq
 (.seq
 (.set 8 (.bin .eql (.var 6) (.const (.int .i64 1))))
 (.cond (.var 8)
 .skip
 (.set 8 (.bin .eql (.var 6) (.const (.int .i64 2))))))
 (.cond (.var 8)
 (.seq
 (.chk [(.pick (.var 5) (.ld none (.offp 1 (.var 2))) (.const (.bool false)))])
 (.seq
 (.cond (.pick (.var 5) (.const (.bool true)) (.const (.bool false)))
 (.call (some 9) 79 [(.ld none (.offp 1 (.var 2))), (.const (.int .i64 1)), (.const (.int .i64 16))] [])
 (.clr [9]))
 (.set 5 (.pick (.var 5) (.var 9) (.const (.bool false))))))
 (.seq
 (.seq
 (.set 10 (.bin .eql (.var 6) (.const (.int .i64 3))))
 (.cond (.var 10)
 .skip
 (.set 10 (.bin .eql (.var 6) (.const (.int .i64 4))))))
 (.cond (.var 10)
 (.set 5 (.pick (.var 5) (.bin .eql (.ld none (.offp 1 (.var 2))) (.const (.int .i64 0))) (.const (.bool false))))
 (.seq
 (.set 11 (.bin .eql (.var 6) (.const (.int .i64 5))))
 (.cond (.var 11)
 (.seq
 (.chk [(.pick (.var 5) (.ld none (.offp 1 (.var 2))) (.const (.bool false)))])
 (.seq
 (.cond (.pick (.var 5) (.const (.bool true)) (.const (.bool false)))
 (.call (some 12) 79 [(.ld none (.offp 1 (.var 2))), (.const (.int .i64 5)), (.const (.int .i64 16))] [])
 (.clr [12]))
 (.set 5 (.pick (.var 5) (.var 12) (.const (.bool false))))))
 (.set 5 (.const (.bool false)))))))))))))
 (.seq
 (.cond (.un .not (.var 5))
 (.seq
 (.set 1 (.const (.int .i64 22)))
 .ret)
 .skip)
 (.seq
 (.set 1 (.const (.int .i64 0)))
 .ret))))),
  [(.var 1)]⟩
theorem okx_37 : FnOk Tryz.prog 3 377 37 xf37 := fnOk_of Tryz.func37 (np := 1) (V := [0, 2, 1, 6, 10, 3, 13, 14, 22, 29, 31, 40, 46]) (ks := []) (by kernel_rfl)

/- tipstaff/bmap.little -/
def xf38 : XF := ⟨1, [0, 2, 3, 5, 4, 14, 15],
  (.seq
 (.set 1 (.const (.slice none 0 0)))
 (.seq
 (.set 2 (.const (.slice none 0 0)))
 (.seq
 (.seq
 (.set 3 (.const (.int .i64 0)))
 (.block 0
 (.loop [0, 2, 3]
 (.seq
 (.cond (.bin .lss (.var 3) (.const (.int .i64 4)))
 .skip
 (.exit 0))
 (.seq
 (.block 1
 (.seq
 (.set 4 (.var 3))
 (.seq
 (.chk [(.var 2)])
 (.seq
 (.row (some 5) 5 1 (.upd 0 1 (.const (.agg #[(.int .u8 0)])) (.conv .u8 (.bin .shr (.var 0) (.bin .mul (.const (.int .i64 8)) (.var 4))))))
 (.seq
 (.app (some 6) 5 1 (.var 2) (.var 5) [])
 (.set 2 (.var 6)))))))
 (.set 3 (.bin .add (.var 3) (.const (.int .i64 1)))))))))
 (.seq
 (.set 1 (.var 2))
 .ret)))),
  [(.var 1)]⟩
theorem okx_38 : FnOk Tryz.prog 3 377 38 xf38 := fnOk_of Tryz.func38 (np := 1) (V := [0, 2, 3, 5, 4, 14, 15]) (ks := [[0, 2, 3]]) (by kernel_rfl)

/- tipstaff/digest.Sum -/
def xf40 : XF := ⟨1, [0, 2, 7, 9, 3, 11, 12, 18, 19, 25, 26, 4, 27, 5, 36, 6],
  (.seq
 (.new (some 1) 49 (.const (.agg (Array.replicate 32 (.int .u8 0)))))
 (.seq
 (.seq
 (.row (some 2) 5 0 (.const (.agg #[])))
 (.seq
 (.app (some 3) 5 1 (.var 2) (.var 0) [])
 (.set 4 (.var 3))))
 (.seq
 (.seq
 (.chk [(.var 4)])
 (.seq
 (.row (some 5) 5 1 (.upd 0 1 (.const (.agg #[(.int .u8 0)])) (.const (.int .u8 128))))
 (.seq
 (.app (some 6) 5 1 (.var 4) (.var 5) [])
 (.set 4 (.var 6)))))
 (.seq
 (.block 0
 (.loop [0, 1, 4]
 (.seq
 (.cond (.bin .neq (.bin .rem (.len false (.var 4)) (.const (.int .i64 64))) (.const (.int .i64 56)))
 .skip
 (.exit 0))
 (.block 1
 (.seq
 (.chk [(.var 4)])
 (.seq
 (.row (some 7) 5 1 (.upd 0 1 (.const (.agg #[(.int .u8 0)])) (.const (.int .u8 0))))
 (.seq
 (.app (some 8) 5 1 (.var 4) (.var 7) [])
 (.set 4 (.var 8)))))))))
 (.seq
 (.seq
 (.chk [(.var 4)])
 (.seq
 (.call (some 9) 80 [(.bin .mul (.const (.int .u64 8)) (.conv .u64 (.len false (.var 0))))] [])
 (.seq
 (.app (some 10) 5 1 (.var 4) (.var 9) [])
 (.set 4 (.var 10)))))
 (.seq
 (.seq
 (.set 12 (.ld (some 8) (.const (.pointer (some ⟨0, 0, none⟩)))))
 (.seq
 (.new (some 11) 184 (.const (.agg (Array.replicate 8 (.int .u32 0)))))
 (.store 8 (.var 11) (.var 12) [])))
 (.seq
 (.block 2
 (.loop [1, 4, 11]
 (.seq
 (.cond (.bin .gtr (.len false (.var 4)) (.const (.int .i64 0)))
 .skip
 (.exit 2))
 (.seq
 (.block 3
 (.call none 81 [(.var 11), (.slSl 1 (.var 4) (.const (.int .i64 0)) (.const (.int .i64 64)))] []))
 (.set 4 (.slSl 1 (.var 4) (.const (.int .i64 64)) (.len false (.var 4))))))))
 (.seq
 (.new (some 13) 49 (.const (.agg (Array.replicate 32 (.int .u8 0)))))
 (.seq
 (.seq
 (.set 14 (.const (.int .i64 0)))
 (.block 4
 (.loop [1, 11, 13, 14]
 (.seq
 (.cond (.bin .lss (.var 14) (.const (.int .i64 32)))
 .skip
 (.exit 4))
 (.seq
 (.block 5
 (.seq
 (.set 15 (.var 14))
 (.store 1 (.ixArr 32 1 (.var 13) (.var 15)) (.conv .u8 (.bin .shr (.ld none (.ixArr 8 1 (.var 11) (.bin .quo (.var 15) (.const (.int .i64 4))))) (.bin .sub (.const (.int .i64 24)) (.bin .mul (.const (.int .i64 8)) (.bin .rem (.var 15) (.const (.int .i64 4))))))) [])))
 (.set 14 (.bin .add (.var 14) (.const (.int .i64 1)))))))))
 (.seq
 (.store 32 (.var 1) (.ld (some 32) (.var 13)) [])
 .ret)))))))))),
  [(.ld (some 32) (.var 1))]⟩
theorem okx_40 : FnOk Tryz.prog 3 377 40 xf40 := fnOk_of Tryz.func40 (np := 1) (V := [0, 2, 7, 9, 3, 11, 12, 18, 19, 25, 26, 4, 27, 5, 36, 6]) (ks := [[0, 1, 4], [1, 4, 11], [1, 11, 13, 14]]) (by kernel_rfl)

/- tipstaff/fdtab.New -/
def xf41 : XF := ⟨1, [0, 2, 3, 11, 13],
  (.seq
 (.seq
 (.set 1 (.const (.pointer none)))
 (.set 2 (.const (.int .i64 0))))
 (.seq
 (.cond (.pick (.bin .lss (.var 0) (.const (.int .i64 1))) (.const (.bool true)) (.bin .gtr (.var 0) (.const (.int .i64 16))))
 (.seq
 (.seq
 (.set 1 (.const (.pointer none)))
 (.set 2 (.const (.int .i64 22))))
 .ret)
 .skip)
 (.seq
 (.seq
 (.mk (some 3) 3 [(.int .i64 0)] (.var 0) (.var 0) [])
 (.seq
 (.chk [(.upd 0 1 (.const (.agg #[(.slice none 0 0)])) (.var 3))])
 (.seq
 (.new (some 4) 187 (.upd 0 1 (.const (.agg #[(.slice none 0 0)])) (.var 3)))
 (.seq
 (.set 1 (.var 4))
 (.set 2 (.const (.int .i64 0)))))))
 .ret))),
  [(.var 1), (.var 2)]⟩
theorem okx_41 : FnOk Tryz.prog 3 377 41 xf41 := fnOk_of Tryz.func41 (np := 1) (V := [0, 2, 3, 11, 13]) (ks := []) (by kernel_rfl)

/- (*tipstaff/fdtab.Table).Open -/
def xf42 : XF := ⟨2, [0, 1, 4, 5, 17, 6],
  (.seq
 (.seq
 (.set 2 (.const (.int .i64 0)))
 (.set 3 (.const (.int .i64 0))))
 (.seq
 (.cond (.pick (.isnil 0 false (.var 0)) (.const (.bool true)) (.bin .leq (.var 1) (.const (.int .i64 0))))
 (.seq
 (.seq
 (.set 2 (.const (.int .i64 0)))
 (.set 3 (.const (.int .i64 22))))
 .ret)
 .skip)
 (.seq
 (.seq
 (.call (some 4) 82 [(.ld none (.offp 0 (.nn (.var 0)))), (.const (.int .i64 0))] [])
 (.set 5 (.var 4)))
 (.seq
 (.cond (.bin .lss (.var 5) (.const (.int .i64 0)))
 (.seq
 (.seq
 (.set 2 (.const (.int .i64 0)))
 (.set 3 (.const (.int .i64 24))))
 .ret)
 .skip)
 (.seq
 (.store 1 (.ixSl 1 (.ld none (.offp 0 (.nn (.var 0)))) (.var 5)) (.var 1) [])
 (.seq
 (.seq
 (.set 2 (.var 5))
 (.set 3 (.const (.int .i64 0))))
 .ret)))))),
  [(.var 2), (.var 3)]⟩
theorem okx_42 : FnOk Tryz.prog 3 377 42 xf42 := fnOk_of Tryz.func42 (np := 2) (V := [0, 1, 4, 5, 17, 6]) (ks := []) (by kernel_rfl)

/- (*tipstaff/fdtab.Table).Get -/
def xf43 : XF := ⟨2, [0, 1, 4, 5, 6, 9],
  (.seq
 (.seq
 (.set 2 (.const (.int .i64 0)))
 (.set 3 (.const (.int .i64 0))))
 (.seq
 (.block 0
 (.seq
 (.set 4 (.isnil 0 false (.var 0)))
 (.cond (.var 4)
 (.seq
 (.seq
 (.set 2 (.const (.int .i64 0)))
 (.set 3 (.const (.int .i64 22))))
 .ret)
 (.seq
 (.set 5 (.pick (.pick (.bin .lss (.var 1) (.const (.int .i64 0))) (.const (.bool true)) (.bin .geq (.var 1) (.len false (.ld none (.offp 0 (.nn (.var 0))))))) (.const (.bool true)) (.bin .eql (.ld none (.ixSl 1 (.ld none (.offp 0 (.nn (.var 0)))) (.var 1))) (.const (.int .i64 0)))))
 (.cond (.var 5)
 (.seq
 (.seq
 (.set 2 (.const (.int .i64 0)))
 (.set 3 (.const (.int .i64 9))))
 .ret)
 .skip)))))
 (.seq
 (.seq
 (.set 2 (.ld none (.ixSl 1 (.ld none (.offp 0 (.nn (.var 0)))) (.var 1))))
 (.set 3 (.const (.int .i64 0))))
 .ret))),
  [(.var 2), (.var 3)]⟩
theorem okx_43 : FnOk Tryz.prog 3 377 43 xf43 := fnOk_of Tryz.func43 (np := 2) (V := [0, 1, 4, 5, 6, 9]) (ks := []) (by kernel_rfl)

/- tipstaff/cfg.Check -/
def xf44 : XF := ⟨2, [0, 1, 4, 5, 11, 6, 7, 19, 20, 8, 28],
  (.seq
 (.seq
 (.set 2 (.const (.int .i64 0)))
 (.set 3 (.const (.int .i64 0))))
 (.seq
 (.seq
 (.seq
 (.call (some 4) 83 [(.var 0)] [])
 (.seq
 (.chk [(.proj 1 (.var 4))])
 (.seq
 (.set 5 (.proj 0 (.var 4)))
 (.set 6 (.proj 1 (.var 4))))))
 (.cond (.bin .neq (.var 6) (.const (.int .i64 0)))
 (.seq
 (.seq
 (.chk [(.var 6)])
 (.seq
 (.set 2 (.var 5))
 (.set 3 (.var 6))))
 .ret)
 .skip))
 (.seq
 (.seq
 (.seq
 (.call (some 7) 85 [(.var 0)] [])
 (.seq
 (.call (some 8) 84 [(.var 7), (.const (.bool false))] [])
 (.set 9 (.var 8))))
 (.cond (.bin .geq (.var 9) (.const (.int .i64 0)))
 (.seq
 (.seq
 (.set 2 (.var 9))
 (.set 3 (.const (.int .i64 22))))
 .ret)
 .skip))
 (.seq
 (.seq
 (.seq
 (.chk [(.pick (.un .not (.var 1)) (.var 0) (.const (.bool false)))])
 (.cond (.pick (.un .not (.var 1)) (.const (.bool true)) (.const (.bool false)))
 (.call (some 10) 86 [(.var 0)] [])
 (.clr [10])))
 (.cond (.pick (.un .not (.var 1)) (.var 10) (.const (.bool false)))
 (.seq
 (.seq
 (.set 2 (.const (.int .i64 0)))
 (.set 3 (.const (.int .i64 22))))
 .ret)
 .skip))
 (.seq
 (.seq
 (.set 2 (.const (.int .i64 0)))
 (.set 3 (.const (.int .i64 0))))
 .ret))))),
  [(.var 2), (.var 3)]⟩
theorem okx_44 : FnOk Tryz.prog 3 377 44 xf44 := fnOk_of Tryz.func44 (np := 2) (V := [0, 1, 4, 5, 11, 6, 7, 19, 20, 8, 28]) (ks := []) (by kernel_rfl)

/- slices.ContainsFunc[[]tipstaff/bmap.Spec,tipstaff/bmap.Spec] -/
def xf45 : XF := ⟨2, [0, 1, 4, 7],
  (.seq
 (.set 2 (.const (.bool false)))
 (.seq
 (.seq
 (.call (some 3) 87 [(.var 0), (.var 1)] [])
 (.set 2 (.bin .geq (.var 3) (.const (.int .i64 0)))))
 .ret)),
  [(.var 2)]⟩
theorem okx_45 : FnOk Tryz.prog 3 377 45 xf45 := fnOk_of Tryz.func45 (np := 2) (V := [0, 1, 4, 7]) (ks := []) (by kernel_rfl)

/- tipstaff/verify.Check$1 -/
def xf46 : XF := ⟨1, [0, 2, 1, 4],
  (.seq
 (.seq
 (.new (some 2) 24 (.var 0))
 (.set 1 (.const (.bool false))))
 (.seq
 (.seq
 (.call (some 3) 37 [(.ld (some 4) (.var 2))] [])
 (.set 1 (.bin .neq (.var 3) (.const (.int .i64 0)))))
 .ret)),
  [(.var 1)]⟩
theorem okx_46 : FnOk Tryz.prog 3 377 46 xf46 := fnOk_of Tryz.func46 (np := 1) (V := [0, 2, 1, 4]) (ks := []) (by kernel_rfl)

/- tipstaff/absreg.Start -/
def xf47 : XF := ⟨0, [0, 1],
  (.seq
 (.new (some 0) 129 (.const zA22))
 (.seq
 (.new (some 1) 129 (.const zA22))
 (.seq
 (.seq
 (.chk [(.upd 0 1 (.const zA9) (.const (.int .i64 2)))])
 (.store 11 (.ixArr 11 11 (.offp 0 (.var 1)) (.const (.int .i64 1))) (.upd 0 1 (.const zA9) (.const (.int .i64 2))) []))
 (.seq
 (.seq
 (.chk [(.upd 0 1 (.const zA9) (.const (.int .i64 3)))])
 (.store 11 (.ixArr 11 11 (.offp 0 (.var 1)) (.const (.int .i64 10))) (.upd 0 1 (.const zA9) (.const (.int .i64 3))) []))
 (.seq
 (.store 273 (.var 0) (.ld (some 273) (.var 1)) [])
 .ret))))),
  [(.ld (some 273) (.var 0))]⟩
theorem okx_47 : FnOk Tryz.prog 3 377 47 xf47 := fnOk_of Tryz.func47 (np := 0) (V := [0, 1]) (ks := []) (by kernel_rfl)

/- (*tipstaff/verify.checker).run -/
def xf48 : XF := ⟨2, [0, 1, 4, 5, 6, 7, 8, 29, 41, 61, 63, 64, 65, 52, 54, 58, 60, 71, 9, 10, 86],
  (.seq
 (.seq
 (.new (some 2) 37 (.const (.agg #[(.int .i64 0), (.int .i64 0)])))
 (.set 3 (.const (.int .i64 0))))
 (.seq
 (.set 4 (.const (.int .i64 0)))
 (.seq
 (.block 0
 (.loop [0, 1, 2, 4]
 (.seq
 (.cond (.bin .gtr (.len false (.ld none (.offp 4 (.nn (.var 0))))) (.const (.int .i64 0)))
 .skip
 (.exit 0))
 (.block 1
 (.seq
 (.set 5 (.bin .sub (.len false (.ld none (.offp 4 (.nn (.var 0))))) (.const (.int .i64 1))))
 (.seq
 (.seq
 (.set 7 (.ld (some 274) (.ixSl 274 (.ld none (.offp 4 (.nn (.var 0)))) (.var 5))))
 (.seq
 (.new (some 6) 132 (.const zA23))
 (.store 274 (.var 6) (.var 7) [])))
 (.seq
 (.store 1 (.offp 4 (.nn (.var 0))) (.slSl 274 (.ld none (.offp 4 (.nn (.var 0)))) (.const (.int .i64 0)) (.var 5)) [])
 (.seq
 (.seq
 (.call (some 8) 88 [(.var 0), (.ld (some 274) (.var 6))] [])
 (.cond (.var 8)
 (.exit 1)
 .skip))
 (.seq
 (.cond (.bin .eql (.var 4) (.var 1))
 (.seq
 (.seq
 (.chk [(.upd 1 1 (.upd 0 1 (.const (.agg #[(.int .i64 0), (.int .i64 0)])) (.ld none (.offp 0 (.var 6)))) (.var 4))])
 (.seq
 (.store 2 (.var 2) (.upd 1 1 (.upd 0 1 (.const (.agg #[(.int .i64 0), (.int .i64 0)])) (.ld none (.offp 0 (.var 6)))) (.var 4)) [])
 (.set 3 (.const (.int .i64 7)))))
 .ret)
 .skip)
 (.seq
 (.seq
 .skip
 (.seq
 (.set 13 (.ld none (.offp 5 (.nn (.var 0)))))
 (.seq
 (.set 14 (.ld none (.offp 0 (.var 6))))
 (.seq
 (.set 15 (.ld none (.offp 5 (.nn (.var 0)))))
 (.seq
 (.set 16 (.ld none (.offp 0 (.var 6))))
 (.seq
 (.set 10 (.ld (some 273) (.offp 1 (.var 6))))
 (.seq
 (.resv 1)
 (.seq
 (.seq
 (.set 11 (.const (.bool true)))
 .skip)
 (.seq
 (.chk [(.var 11)])
 (.seq
 (.clr [11])
 (.seq
 (.chk [(.upd 0 273 (.const zA22) (.var 10))])
 (.seq
 (.look (some 9) (.slice none 0 0) false .i64 (.var 15) (.var 16) [(.ld (some 273) (.offp 1 (.var 6))), (.ld none (.offp 0 (.var 6))), (.ld none (.offp 5 (.nn (.var 0)))), (.ld none (.offp 0 (.var 6))), (.ld none (.offp 5 (.nn (.var 0))))])
 (.seq
 (.rowR 0 11 129 1 (.upd 0 273 (.const zA22) (.var 10)))
 (.seq
 (.app (some 12) 129 273 (.var 9) (.var 11) [(.ld none (.offp 0 (.var 6))), (.ld none (.offp 5 (.nn (.var 0))))])
 (.seq
 (.upd .i64 (.var 13) (.var 14) (.var 12) [])
 .skip)))))))))))))))
 (.seq
 (.set 4 (.bin .add (.var 4) (.const (.int .i64 1))))
 (.seq
 (.seq
 (.call (some 17) 89 [(.var 0), (.ld (some 274) (.var 6))] [])
 (.seq
 (.chk [(.proj 1 (.var 17))])
 (.seq
 (.set 18 (.proj 0 (.var 17)))
 (.set 19 (.proj 1 (.var 17))))))
 (.seq
 (.cond (.un .not (.var 19))
 (.seq
 (.seq
 (.chk [(.upd 1 1 (.upd 0 1 (.const (.agg #[(.int .i64 0), (.int .i64 0)])) (.ld none (.offp 0 (.var 6)))) (.var 4))])
 (.seq
 (.store 2 (.var 2) (.upd 1 1 (.upd 0 1 (.const (.agg #[(.int .i64 0), (.int .i64 0)])) (.ld none (.offp 0 (.var 6)))) (.var 4)) [])
 (.set 3 (.const (.int .i64 13)))))
 .ret)
 .skip)
 (.seq
 (.app (some 20) 132 274 (.ld none (.offp 4 (.nn (.var 0)))) (.var 18) [])
 (.store 1 (.offp 4 (.nn (.var 0))) (.var 20) [])))))))))))))))
 (.seq
 (.seq
 (.chk [(.upd 1 1 (.upd 0 1 (.const (.agg #[(.int .i64 0), (.int .i64 0)])) (.const (.int .i64 0))) (.var 4))])
 (.seq
 (.store 2 (.var 2) (.upd 1 1 (.upd 0 1 (.const (.agg #[(.int .i64 0), (.int .i64 0)])) (.const (.int .i64 0))) (.var 4)) [])
 (.set 3 (.const (.int .i64 0)))))
 .ret)))),
  [(.ld (some 2) (.var 2)), (.var 3)]⟩
theorem okx_48 : FnOk Tryz.prog 3 377 48 xf48 := fnOk_of Tryz.func48 (np := 2) (V := [0, 1, 4, 5, 6, 7, 8, 29, 41, 61, 63, 64, 65, 52, 54, 58, 60, 71, 9, 10, 86]) (ks := [[0, 1, 2, 4]]) (by kernel_rfl)
end Go.Proofs.YtmpgfgemnhbkhaaGreatDoor
