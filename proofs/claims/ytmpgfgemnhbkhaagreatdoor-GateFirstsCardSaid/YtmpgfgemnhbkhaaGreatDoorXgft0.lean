/- The interpreter's functions, part 0: made by program (geny.py). -/
import Derived.Test.YtmpgfgemnhbkhaaGreatDoorXgfz
import Derived.Test.YtmpgfgemnhbkhaaGreatDoorProg
set_option maxRecDepth 100000
set_option linter.unusedVariables false
namespace Go.Proofs.YtmpgfgemnhbkhaaGreatDoor
open Go.Eng
/- tipstaff/tipstafflaw22.GateFirsts -/
def xf11 : XF := ⟨3, [0, 1, 2, 6, 12, 7, 8, 17, 23, 28, 9, 32, 34, 10, 39, 11, 40, 59, 57, 64, 62, 69, 67, 102, 100, 120, 118, 125, 123],
  (.seq
 (.set 3 (.const (.bool false)))
 (.seq
 (.seq
 (.call (some 4) 27 [] [])
 (.set 5 (.var 4)))
 (.seq
 (.set 6 (.conv .i64 (.bin .rem (.conv .u64 (.var 0)) (.const (.int .u64 4)))))
 (.seq
 (.seq
 (.row (some 7) 5 0 (.const (.agg #[])))
 (.seq
 (.app (some 8) 5 1 (.var 7) (.slSl 1 (.var 1) (.const (.int .i64 0)) (.mn (.len false (.var 1)) (.const (.int .i64 40)))) [])
 (.set 1 (.var 8))))
 (.seq
 (.seq
 (.chk [(.upd 18 1 (.upd 1 1 (.upd 0 1 (.const zA18) (.var 6)) (.const (.int .i64 11))) (.var 1))])
 (.seq
 (.call (some 9) 29 [(.var 5), (.upd 18 1 (.upd 1 1 (.upd 0 1 (.const zA18) (.var 6)) (.const (.int .i64 11))) (.var 1))] [])
 (.seq
 (.new (some 10) 80 (.const zA0))
 (.store 4 (.var 10) (.var 9) []))))
 (.seq
 (.seq
 (.chk [(.var 2), (.var 6), (.var 5)])
 (.seq
 (.call (some 11) 32 [] [])
 (.seq
 (.chk [(.upd 8 6 (.upd 3 1 (.upd 1 1 (.upd 0 1 (.const zA18) (.var 6)) (.const (.int .i64 12))) (.var 2)) (.var 11))])
 (.seq
 (.call (some 12) 29 [(.var 5), (.upd 8 6 (.upd 3 1 (.upd 1 1 (.upd 0 1 (.const zA18) (.var 6)) (.const (.int .i64 12))) (.var 2)) (.var 11))] [])
 (.seq
 (.new (some 13) 80 (.const zA0))
 (.store 4 (.var 13) (.var 12) []))))))
 (.seq
 (.seq
 (.chk [(.upd 3 1 (.upd 1 1 (.upd 0 1 (.const zA18) (.var 6)) (.const (.int .i64 13))) (.var 2))])
 (.seq
 (.call (some 14) 29 [(.var 5), (.upd 3 1 (.upd 1 1 (.upd 0 1 (.const zA18) (.var 6)) (.const (.int .i64 13))) (.var 2))] [])
 (.seq
 (.new (some 15) 80 (.const zA0))
 (.store 4 (.var 15) (.var 14) []))))
 (.seq
 (.seq
 (.call (some 16) 28 [] [])
 (.cond (.un .not (.var 16))
 (.seq
 (.set 3 (.const (.bool false)))
 .ret)
 .skip))
 (.seq
 (.cond (.bin .gtr (.var 6) (.const (.int .i64 0)))
 (.seq
 (.seq
 (.set 18 (.pick (.pick (.bin .eql (.ld none (.offp 0 (.var 10))) (.const (.int .i64 1))) (.bin .eql (.ld none (.offp 0 (.var 13))) (.const (.int .i64 1))) (.const (.bool false))) (.bin .eql (.ld none (.offp 0 (.var 15))) (.const (.int .i64 1))) (.const (.bool false))))
 (.seq
 (.chk [(.pick (.var 18) (.var 5) (.const (.bool false)))])
 (.seq
 (.cond (.pick (.var 18) (.const (.bool true)) (.const (.bool false)))
 (.call (some 17) 35 [(.var 5)] [])
 (.clr [17]))
 (.seq
 (.set 20 (.pick (.var 18) (.bin .eql (.var 17) (.const (.int .i64 0))) (.const (.bool false))))
 (.seq
 (.chk [(.pick (.var 20) (.var 5) (.const (.bool false)))])
 (.seq
 (.cond (.pick (.var 20) (.const (.bool true)) (.const (.bool false)))
 (.call (some 19) 36 [(.var 5)] [])
 (.clr [19]))
 (.seq
 (.set 22 (.pick (.var 20) (.bin .eql (.var 19) (.const (.int .i64 1))) (.const (.bool false))))
 (.seq
 (.chk [(.pick (.var 22) (.var 5) (.const (.bool false)))])
 (.seq
 (.cond (.pick (.var 22) (.const (.bool true)) (.const (.bool false)))
 (.call (some 21) 30 [(.var 5)] [])
 (.clr [21]))
 (.set 3 (.pick (.var 22) (.bin .eql (.len false (.var 21)) (.const (.int .i64 0))) (.const (.bool false)))))))))))))
 .ret)
 .skip)
 (.seq
 (.cond (.pick (.eqx true .bool (.bin .eql (.ld none (.offp 0 (.var 10))) (.const (.int .i64 0))) (.bin .eql (.len false (.var 1)) (.const (.int .i64 32)))) (.const (.bool true)) (.pick (.bin .neq (.ld none (.offp 0 (.var 10))) (.const (.int .i64 0))) (.bin .neq (.ld none (.offp 0 (.var 10))) (.const (.int .i64 22))) (.const (.bool false))))
 (.seq
 (.set 3 (.const (.bool false)))
 .ret)
 .skip)
 (.seq
 (.cond (.bin .neq (.var 2) (.const (.int .i64 0)))
 (.seq
 (.seq
 (.set 24 (.pick (.bin .eql (.ld none (.offp 0 (.var 13))) (.const (.int .i64 2))) (.bin .eql (.ld none (.offp 0 (.var 15))) (.const (.int .i64 2))) (.const (.bool false))))
 (.seq
 (.chk [(.pick (.var 24) (.var 5) (.const (.bool false)))])
 (.seq
 (.cond (.pick (.var 24) (.const (.bool true)) (.const (.bool false)))
 (.call (some 23) 36 [(.var 5)] [])
 (.clr [23]))
 (.set 3 (.pick (.var 24) (.bin .eql (.var 23) (.const (.int .i64 1))) (.const (.bool false)))))))
 .ret)
 .skip)
 (.seq
 (.seq
 (.set 26 (.pick (.pick (.bin .eql (.ld none (.offp 0 (.var 13))) (.const (.int .i64 0))) (.bin .eql (.ld none (.offp 0 (.var 15))) (.const (.int .i64 0))) (.const (.bool false))) (.bin .eql (.ld none (.offp 2 (.var 15))) (.const (.int .u64 1))) (.const (.bool false))))
 (.seq
 (.chk [(.pick (.var 26) (.var 5) (.const (.bool false)))])
 (.seq
 (.cond (.pick (.var 26) (.const (.bool true)) (.const (.bool false)))
 (.call (some 25) 36 [(.var 5)] [])
 (.clr [25]))
 (.seq
 (.set 28 (.pick (.var 26) (.bin .eql (.var 25) (.const (.int .i64 2))) (.const (.bool false))))
 (.seq
 (.chk [(.pick (.var 28) (.var 5) (.const (.bool false)))])
 (.seq
 (.cond (.pick (.var 28) (.const (.bool true)) (.const (.bool false)))
 (.call (some 27) 30 [(.var 5)] [])
 (.clr [27]))
 (.set 3 (.pick (.var 28) (.bin .eql (.len false (.var 27)) (.const (.int .i64 1))) (.const (.bool false))))))))))
 .ret)))))))))))),
  [(.var 3)]⟩
theorem okx_11 : FnOk Tryz.prog 3 377 11 xf11 := fnOk_of Tryz.func11 (np := 3) (V := [0, 1, 2, 6, 12, 7, 8, 17, 23, 28, 9, 32, 34, 10, 39, 11, 40, 59, 57, 64, 62, 69, 67, 102, 100, 120, 118, 125, 123]) (ks := []) (by kernel_rfl)

/- tipstaff/bmap.New -/
def xf12 : XF := ⟨1, [0, 2, 3, 1, 8, 4, 14, 5, 20, 19, 6, 29, 32, 33, 35, 30, 37, 38, 27, 39],
  (.seq
 (.seq
 (.new (some 3) 24 (.var 0))
 (.seq
 (.set 1 (.const (.pointer none)))
 (.set 2 (.const (.int .i64 0)))))
 (.seq
 (.seq
 (.seq
 (.call (some 4) 37 [(.ld (some 4) (.var 3))] [])
 (.set 5 (.var 4)))
 (.cond (.bin .neq (.var 5) (.const (.int .i64 0)))
 (.seq
 (.seq
 (.chk [(.var 5)])
 (.seq
 (.set 1 (.const (.pointer none)))
 (.set 2 (.var 5))))
 .ret)
 .skip))
 (.seq
 (.seq
 (.chk [(.upd 0 4 (.const (.agg #[(.int .i64 0), (.int .i64 0), (.int .i64 0), (.int .i64 0), (.slice none 0 0), (.bool false), (.int .i64 0)])) (.ld (some 4) (.var 3)))])
 (.seq
 (.new (some 6) 96 (.upd 0 4 (.const (.agg #[(.int .i64 0), (.int .i64 0), (.int .i64 0), (.int .i64 0), (.slice none 0 0), (.bool false), (.int .i64 0)])) (.ld (some 4) (.var 3))))
 (.set 7 (.var 6))))
 (.seq
 (.cond (.bin .eql (.ld none (.offp 0 (.var 3))) (.const (.int .i64 0)))
 (.seq
 (.seq
 (.set 9 (.ld none (.offp 3 (.var 3))))
 (.set 8 (.const (.int .i64 0))))
 (.block 0
 (.loop [3, 7, 8, 9]
 (.seq
 (.cond (.bin .lss (.var 8) (.var 9))
 .skip
 (.exit 0))
 (.seq
 (.block 1
 (.seq
 (.set 10 (.var 8))
 (.seq
 .skip
 (.seq
 (.set 18 (.ld none (.offp 4 (.nn (.var 7)))))
 (.seq
 (.chk [(.var 10)])
 (.seq
 (.set 12 (.ld none (.offp 2 (.var 3))))
 (.seq
 (.resv 2)
 (.seq
 (.seq
 (.set 13 (.const (.bool true)))
 (.seq
 (.set 14 (.const (.bool true)))
 .skip))
 (.seq
 (.chk [(.var 13), (.var 14)])
 (.seq
 (.clr [13, 14])
 (.seq
 (.chk [(.const (.bool true)), (.pick (.bin .leq (.var 12) (.var 12)) (.pick (.bin .leq (.var 12) (.const (.int .i64 100000))) (.pick (.bin .leq (.const (.int .i64 0)) (.var 12)) (.const (.bool true)) (.nn (.const (.bool true)))) (.nn (.const (.bool true)))) (.nn (.const (.bool true)))), (.upd 0 1 (.const (.agg #[(.slice none 0 0)])) (.const (.pointer none)))])
 (.seq
 (.call (some 11) 38 [(.var 10)] [(.ld none (.offp 2 (.var 3))), (.ld none (.offp 4 (.nn (.var 7))))])
 (.seq
 (.set 15 (.bstr (.var 11)))
 (.seq
 (.mkR 0 13 5 [(.int .u8 0)] (.var 12) (.var 12))
 (.seq
 (.newR 1 14 101 (.upd 0 1 (.const (.agg #[(.slice none 0 0)])) (.var 13)))
 (.seq
 (.chk [(.upd 1 1 (.upd 0 1 (.const (.agg #[(.string ⟨#[]⟩), (.pointer none), (.int .i64 0)])) (.var 15)) (.var 14))])
 (.seq
 (.new (some 16) 103 (.upd 1 1 (.upd 0 1 (.const (.agg #[(.string ⟨#[]⟩), (.pointer none), (.int .i64 0)])) (.var 15)) (.var 14)))
 (.seq
 (.row (some 17) 97 1 (.upd 0 1 (.const (.agg #[(.pointer none)])) (.var 16)))
 (.seq
 (.app (some 19) 97 1 (.var 18) (.var 17) [])
 (.seq
 (.store 1 (.offp 4 (.nn (.var 7))) (.var 19) [])
 .skip))))))))))))))))))))
 (.set 8 (.bin .add (.var 8) (.const (.int .i64 1)))))))))
 .skip)
 (.seq
 (.seq
 (.set 1 (.var 7))
 (.set 2 (.const (.int .i64 0))))
 .ret))))),
  [(.var 1), (.var 2)]⟩
theorem okx_12 : FnOk Tryz.prog 3 377 12 xf12 := fnOk_of Tryz.func12 (np := 1) (V := [0, 2, 3, 1, 8, 4, 14, 5, 20, 19, 6, 29, 32, 33, 35, 30, 37, 38, 27, 39]) (ks := [[3, 7, 8, 9]]) (by kernel_rfl)

/- tipstaff/rights.All -/
def xf24 : XF := ⟨0, [0],
  (.seq
 (.new (some 0) 69 (.const zA4))
 (.seq
 (.seq
 (.chk [(.upd 5 1 (.upd 4 1 (.upd 3 1 (.upd 2 1 (.upd 1 1 (.upd 0 1 (.const zA4) (.const (.int .u16 255))) (.const (.int .u16 15))) (.const (.int .u16 63))) (.const (.int .u16 255))) (.const (.bool true))) (.const (.bool false)))])
 (.store 6 (.var 0) (.upd 5 1 (.upd 4 1 (.upd 3 1 (.upd 2 1 (.upd 1 1 (.upd 0 1 (.const zA4) (.const (.int .u16 255))) (.const (.int .u16 15))) (.const (.int .u16 63))) (.const (.int .u16 255))) (.const (.bool true))) (.const (.bool false))) []))
 .ret)),
  [(.ld (some 6) (.var 0))]⟩
theorem okx_24 : FnOk Tryz.prog 3 377 24 xf24 := fnOk_of Tryz.func24 (np := 0) (V := [0]) (ks := []) (by kernel_rfl)

/- tipstaff/gate.New -/
def xf27 : XF := ⟨0, [0, 3, 4, 6, 1, 9, 14, 2, 20],
  (.seq
 (.set 0 (.const (.pointer none)))
 (.seq
 (.seq
 (.call (some 1) 60 [] [])
 (.seq
 (.call (some 2) 62 [] [])
 (.seq
 (.chk [(.upd 1 1 (.upd 0 1 (.const (.agg (Array.replicate 7 (.pointer none)))) (.var 1)) (.var 2))])
 (.seq
 (.new (some 3) 164 (.upd 1 1 (.upd 0 1 (.const (.agg (Array.replicate 7 (.pointer none)))) (.var 1)) (.var 2)))
 (.set 4 (.var 3))))))
 (.seq
 (.seq
 (.chk [(.var 4)])
 (.seq
 (.call (some 5) 63 [(.const (.int .i64 64))] [])
 (.seq
 (.chk [(.proj 1 (.var 5))])
 (.store 1 (.offp 2 (.nn (.var 4))) (.proj 0 (.var 5)) []))))
 (.seq
 (.seq
 (.set 6 (.const (.int .i64 0)))
 (.block 0
 (.loop [4, 6]
 (.seq
 (.cond (.bin .lss (.var 6) (.const (.int .i64 4)))
 .skip
 (.exit 0))
 (.seq
 (.block 1
 (.seq
 (.set 7 (.var 6))
 (.seq
 .skip
 (.seq
 (.chk [(.offp 3 (.nn (.var 4))), (.var 7)])
 (.seq
 (.call (some 8) 41 [(.const (.int .i64 16))] [])
 (.seq
 (.chk [(.proj 1 (.var 8))])
 (.store 1 (.ixArr 4 1 (.offp 3 (.nn (.var 4))) (.var 7)) (.proj 0 (.var 8)) [])))))))
 (.set 6 (.bin .add (.var 6) (.const (.int .i64 1)))))))))
 (.seq
 (.set 0 (.var 4))
 .ret))))),
  [(.var 0)]⟩
theorem okx_27 : FnOk Tryz.prog 3 377 27 xf27 := fnOk_of Tryz.func27 (np := 0) (V := [0, 3, 4, 6, 1, 9, 14, 2, 20]) (ks := [[4, 6]]) (by kernel_rfl)

/- tipstaff/tipstafflaw22.gates -/
def xf28 : XF := ⟨0, [0, 6, 1, 8, 10, 2, 14, 3, 30, 28, 36, 39, 4, 5, 50, 48, 56, 54],
  (.seq
 (.set 0 (.const (.bool false)))
 (.seq
 (.seq
 (.call (some 1) 27 [] [])
 (.set 2 (.var 1)))
 (.seq
 (.seq
 (.chk [(.var 2)])
 (.seq
 (.call (some 3) 32 [] [])
 (.seq
 (.chk [(.upd 8 6 (.upd 1 1 (.const zA18) (.const (.int .i64 12))) (.var 3))])
 (.seq
 (.call (some 4) 29 [(.var 2), (.upd 8 6 (.upd 1 1 (.const zA18) (.const (.int .i64 12))) (.var 3))] [])
 (.seq
 (.new (some 5) 80 (.const zA0))
 (.store 4 (.var 5) (.var 4) []))))))
 (.seq
 (.seq
 (.chk [(.upd 4 4 (.upd 1 1 (.const zA18) (.const (.int .i64 0))) (.upd 3 1 (.upd 2 1 (.upd 1 1 (.upd 0 1 (.const (.agg (Array.replicate 4 (.int .i64 0)))) (.const (.int .i64 1))) (.const (.int .i64 1))) (.const (.int .i64 1))) (.const (.int .i64 1)))), (.upd 3 1 (.upd 2 1 (.upd 1 1 (.upd 0 1 (.const (.agg (Array.replicate 4 (.int .i64 0)))) (.const (.int .i64 1))) (.const (.int .i64 1))) (.const (.int .i64 1))) (.const (.int .i64 1)))])
 (.seq
 (.call (some 6) 29 [(.var 2), (.upd 4 4 (.upd 1 1 (.const zA18) (.const (.int .i64 0))) (.upd 3 1 (.upd 2 1 (.upd 1 1 (.upd 0 1 (.const (.agg (Array.replicate 4 (.int .i64 0)))) (.const (.int .i64 1))) (.const (.int .i64 1))) (.const (.int .i64 1))) (.const (.int .i64 1))))] [])
 (.seq
 (.new (some 7) 80 (.const zA0))
 (.store 4 (.var 7) (.var 6) []))))
 (.seq
 (.seq
 (.seq
 (.set 9 (.pick (.pick (.bin .neq (.ld none (.offp 0 (.var 5))) (.const (.int .i64 0))) (.const (.bool true)) (.bin .neq (.ld none (.offp 0 (.var 7))) (.const (.int .i64 0)))) (.const (.bool true)) (.bin .neq (.ld none (.offp 1 (.var 7))) (.const (.int .i64 1)))))
 (.seq
 (.chk [(.pick (.var 9) (.const (.bool false)) (.var 2))])
 (.cond (.pick (.var 9) (.const (.bool false)) (.const (.bool true)))
 (.call (some 8) 30 [(.var 2)] [])
 (.clr [8]))))
 (.cond (.pick (.var 9) (.const (.bool true)) (.bin .neq (.len false (.var 8)) (.const (.int .i64 2))))
 (.seq
 (.set 0 (.const (.bool false)))
 .ret)
 .skip))
 (.seq
 (.seq
 (.chk [(.upd 1 1 (.const zA18) (.const (.int .i64 8)))])
 (.seq
 (.call (some 10) 29 [(.var 2), (.upd 1 1 (.const zA18) (.const (.int .i64 8)))] [])
 (.seq
 (.chk [(.upd 2 1 (.upd 1 1 (.const zA18) (.const (.int .i64 8))) (.const (.int .i64 1)))])
 (.seq
 (.call (some 11) 29 [(.var 2), (.upd 2 1 (.upd 1 1 (.const zA18) (.const (.int .i64 8))) (.const (.int .i64 1)))] [])
 (.seq
 (.new (some 12) 80 (.const zA0))
 (.seq
 (.new (some 13) 80 (.const zA0))
 (.seq
 (.store 4 (.var 12) (.var 10) [])
 (.store 4 (.var 13) (.var 11) []))))))))
 (.seq
 (.seq
 (.set 15 (.pick (.bin .eql (.ld none (.offp 0 (.var 12))) (.const (.int .i64 0))) (.bin .eql (.ld none (.offp 0 (.var 13))) (.const (.int .i64 0))) (.const (.bool false))))
 (.seq
 (.chk [(.pick (.var 15) (.var 2) (.const (.bool false)))])
 (.seq
 (.cond (.pick (.var 15) (.const (.bool true)) (.const (.bool false)))
 (.call (some 14) 30 [(.var 2)] [])
 (.clr [14]))
 (.seq
 (.set 17 (.pick (.var 15) (.bin .eql (.len false (.var 14)) (.const (.int .i64 0))) (.const (.bool false))))
 (.seq
 (.chk [(.pick (.var 17) (.var 2) (.const (.bool false)))])
 (.seq
 (.cond (.pick (.var 17) (.const (.bool true)) (.const (.bool false)))
 (.call (some 16) 31 [(.var 2)] [])
 (.clr [16]))
 (.set 0 (.pick (.var 17) (.var 16) (.const (.bool false))))))))))
 .ret))))))),
  [(.var 0)]⟩
theorem okx_28 : FnOk Tryz.prog 3 377 28 xf28 := fnOk_of Tryz.func28 (np := 0) (V := [0, 6, 1, 8, 10, 2, 14, 3, 30, 28, 36, 39, 4, 5, 50, 48, 56, 54]) (ks := []) (by kernel_rfl)

/- (*tipstaff/gate.Kernel).Do -/
def xf29 : XF := ⟨2, [0, 1, 4, 3, 17, 19, 20, 26, 27, 34, 35, 39, 40, 46, 47, 53, 54],
  (.seq
 (.seq
 (.new (some 3) 78 (.var 1))
 (.new (some 2) 80 (.const zA0)))
 (.seq
 (.cond (.pick (.pick (.isnil 0 false (.var 0)) (.const (.bool true)) (.bin .lss (.ld none (.offp 0 (.var 3))) (.const (.int .i64 0)))) (.const (.bool true)) (.bin .geq (.ld none (.offp 0 (.var 3))) (.const (.int .i64 4))))
 (.seq
 (.seq
 (.call (some 4) 64 [(.const (.int .i64 22))] [])
 (.store 4 (.var 2) (.var 4) []))
 .ret)
 .skip)
 (.seq
 (.seq
 (.set 5 (.ld none (.offp 1 (.var 3))))
 (.block 0
 (.seq
 (.seq
 (.set 6 (.bin .eql (.var 5) (.const (.int .i64 0))))
 (.cond (.var 6)
 .skip
 (.seq
 (.set 6 (.bin .eql (.var 5) (.const (.int .i64 1))))
 (.cond (.var 6)
 .skip
 (.set 6 (.bin .eql (.var 5) (.const (.int .i64 2))))))))
 (.cond (.var 6)
 (.seq
 (.seq
 (.call (some 7) 65 [(.var 0), (.ld (some 55) (.var 3))] [])
 (.store 4 (.var 2) (.var 7) []))
 .ret)
 (.seq
 (.seq
 (.set 8 (.bin .eql (.var 5) (.const (.int .i64 3))))
 (.cond (.var 8)
 .skip
 (.seq
 (.set 8 (.bin .eql (.var 5) (.const (.int .i64 4))))
 (.cond (.var 8)
 .skip
 (.seq
 (.set 8 (.bin .eql (.var 5) (.const (.int .i64 5))))
 (.cond (.var 8)
 .skip
 (.set 8 (.bin .eql (.var 5) (.const (.int .i64 6))))))))))
 (.cond (.var 8)
 (.seq
 (.seq
 (.call (some 9) 66 [(.var 0), (.ld (some 55) (.var 3))] [])
 (.store 4 (.var 2) (.var 9) []))
 .ret)
 (.seq
 (.set 10 (.bin .eql (.var 5) (.const (.int .i64 7))))
 (.cond (.var 10)
 (.seq
 (.seq
 (.call (some 11) 67 [(.var 0), (.ld (some 55) (.var 3))] [])
 (.store 4 (.var 2) (.var 11) []))
 .ret)
 (.seq
 (.seq
 (.set 12 (.bin .eql (.var 5) (.const (.int .i64 8))))
 (.cond (.var 12)
 .skip
 (.seq
 (.set 12 (.bin .eql (.var 5) (.const (.int .i64 9))))
 (.cond (.var 12)
 .skip
 (.set 12 (.bin .eql (.var 5) (.const (.int .i64 10))))))))
 (.cond (.var 12)
 (.seq
 (.seq
 (.call (some 13) 68 [(.var 0), (.ld (some 55) (.var 3))] [])
 (.store 4 (.var 2) (.var 13) []))
 .ret)
 (.seq
 (.seq
 (.set 14 (.bin .eql (.var 5) (.const (.int .i64 11))))
 (.cond (.var 14)
 .skip
 (.seq
 (.set 14 (.bin .eql (.var 5) (.const (.int .i64 12))))
 (.cond (.var 14)
 .skip
 (.set 14 (.bin .eql (.var 5) (.const (.int .i64 13))))))))
 (.cond (.var 14)
 (.seq
 (.seq
 (.call (some 15) 69 [(.var 0), (.ld (some 55) (.var 3))] [])
 (.store 4 (.var 2) (.var 15) []))
 .ret)
 .skip))))))))))))
 (.seq
 (.seq
 (.call (some 16) 64 [(.const (.int .i64 22))] [])
 (.store 4 (.var 2) (.var 16) []))
 .ret)))),
  [(.ld (some 4) (.var 2))]⟩
theorem okx_29 : FnOk Tryz.prog 3 377 29 xf29 := fnOk_of Tryz.func29 (np := 2) (V := [0, 1, 4, 3, 17, 19, 20, 26, 27, 34, 35, 39, 40, 46, 47, 53, 54]) (ks := []) (by kernel_rfl)

/- (*tipstaff/gate.Kernel).Objects -/
def xf30 : XF := ⟨1, [0, 2, 3, 14, 16, 15, 5, 26, 6, 7, 37, 39, 40, 46, 47],
  (.seq
 (.set 1 (.const (.slice none 0 0)))
 (.seq
 (.cond (.isnil 0 false (.var 0))
 (.seq
 (.set 1 (.const (.slice none 0 0)))
 .ret)
 .skip)
 (.seq
 (.set 2 (.const (.slice none 0 0)))
 (.seq
 (.seq
 (.seq
 (.call (some 3) 70 [(.ld none (.offp 2 (.nn (.var 0))))] [])
 (.seq
 (.set 5 (.len false (.var 3)))
 (.set 4 (.const (.int .i64 0)))))
 (.block 0
 (.loop [0, 2, 3, 4, 5]
 (.seq
 (.cond (.bin .lss (.var 4) (.var 5))
 .skip
 (.exit 0))
 (.seq
 (.block 1
 (.seq
 (.set 6 (.ld none (.ixSl 1 (.var 3) (.var 4))))
 (.seq
 (.seq
 (.call (some 7) 71 [(.ld none (.offp 2 (.nn (.var 0)))), (.var 6)] [])
 (.seq
 (.chk [(.proj 1 (.var 7)), (.proj 0 (.var 7))])
 (.seq
 (.new (some 8) 168 (.const zA6))
 (.seq
 (.store 7 (.var 8) (.proj 0 (.var 7)) [])
 (.set 9 (.proj 1 (.var 7)))))))
 (.seq
 (.cond (.bin .neq (.var 9) (.const (.int .i64 0)))
 (.exit 1)
 .skip)
 (.seq
 (.seq
 .skip
 (.seq
 (.chk [(.var 6), (.ld none (.offp 2 (.nn (.var 0))))])
 (.seq
 (.set 11 (.ld none (.offp 3 (.var 8))))
 (.seq
 (.chk [(.offp 0 (.var 8))])
 (.seq
 (.call (some 10) 72 [(.ld none (.offp 2 (.nn (.var 0)))), (.var 6)] [(.ld none (.offp 3 (.var 8)))])
 (.seq
 (.call (some 12) 73 [(.var 11)] [])
 (.seq
 (.store 1 (.offp 0 (.var 8)) (.var 6) [])
 (.seq
 (.store 1 (.offp 2 (.var 8)) (.var 10) [])
 (.store 1 (.offp 3 (.var 8)) (.var 12) [])))))))))
 (.seq
 (.chk [(.var 2)])
 (.seq
 (.row (some 13) 168 1 (.upd 0 7 (.const zA6) (.ld (some 7) (.var 8))))
 (.seq
 (.app (some 14) 168 7 (.var 2) (.var 13) [])
 (.set 2 (.var 14))))))))))
 (.set 4 (.bin .add (.var 4) (.const (.int .i64 1)))))))))
 (.seq
 (.set 1 (.var 2))
 .ret))))),
  [(.var 1)]⟩
theorem okx_30 : FnOk Tryz.prog 3 377 30 xf30 := fnOk_of Tryz.func30 (np := 1) (V := [0, 2, 3, 14, 16, 15, 5, 26, 6, 7, 37, 39, 40, 46, 47]) (ks := [[0, 2, 3, 4, 5]]) (by kernel_rfl)

/- (*tipstaff/gate.Kernel).Sound -/
def xf31 : XF := ⟨1, [0, 2, 9, 3, 11, 13, 12, 5, 16, 21, 17, 32, 29, 25, 46, 39, 35],
  (.seq
 (.set 1 (.const (.bool false)))
 (.seq
 (.cond (.isnil 0 false (.var 0))
 (.seq
 (.set 1 (.const (.bool false)))
 .ret)
 .skip)
 (.seq
 (.seq
 (.call (some 2) 74 [(.var 0)] [])
 (.set 3 (.var 2)))
 (.seq
 (.seq
 (.seq
 (.call (some 4) 30 [(.var 0)] [])
 (.seq
 (.set 6 (.len false (.var 4)))
 (.set 5 (.const (.int .i64 0)))))
 (.block 0
 (.loop [0, 3, 4, 5, 6]
 (.seq
 (.cond (.bin .lss (.var 5) (.var 6))
 .skip
 (.exit 0))
 (.seq
 (.block 1
 (.seq
 (.seq
 (.set 8 (.ld (some 7) (.ixSl 7 (.var 4) (.var 5))))
 (.seq
 (.new (some 7) 168 (.const zA6))
 (.store 7 (.var 7) (.var 8) [])))
 (.block 2
 (.seq
 (.seq
 (.look (some 9) (.int .i64 0) false .i64 (.var 3) (.ld none (.offp 0 (.var 7))) [])
 (.set 10 (.bin .neq (.var 9) (.ld none (.offp 2 (.var 7))))))
 (.cond (.var 10)
 (.seq
 (.set 1 (.const (.bool false)))
 .ret)
 (.seq
 (.seq
 (.set 12 (.bin .eql (.ld none (.offp 1 (.var 7))) (.const (.int .i64 2))))
 (.seq
 (.chk [(.pick (.var 12) (.ld none (.offp 5 (.var 7))) (.const (.bool false)))])
 (.seq
 (.cond (.pick (.var 12) (.const (.bool true)) (.const (.bool false)))
 (.call (some 11) 26 [(.ld none (.offp 5 (.var 7)))] [])
 (.clr [11]))
 (.set 13 (.pick (.var 12) (.un .not (.var 11)) (.const (.bool false)))))))
 (.cond (.var 13)
 (.seq
 (.set 1 (.const (.bool false)))
 .ret)
 (.seq
 (.seq
 .skip
 (.seq
 (.set 15 (.bin .eql (.ld none (.offp 1 (.var 7))) (.const (.int .i64 3))))
 (.seq
 (.chk [(.pick (.var 15) (.ld none (.offp 6 (.var 7))) (.const (.bool false))), (.pick (.var 15) (.ld none (.offp 0 (.nn (.var 0)))) (.const (.bool false)))])
 (.seq
 (.cond (.pick (.var 15) (.const (.bool true)) (.const (.bool false)))
 (.call (some 14) 75 [(.ld none (.offp 0 (.nn (.var 0)))), (.ld none (.offp 6 (.var 7)))] [])
 (.clr [14]))
 (.set 16 (.pick (.var 15) (.un .not (.var 14)) (.const (.bool false))))))))
 (.cond (.var 16)
 (.seq
 (.set 1 (.const (.bool false)))
 .ret)
 .skip)))))))))
 (.set 5 (.bin .add (.var 5) (.const (.int .i64 1)))))))))
 (.seq
 (.set 1 (.const (.bool true)))
 .ret))))),
  [(.var 1)]⟩
theorem okx_31 : FnOk Tryz.prog 3 377 31 xf31 := fnOk_of Tryz.func31 (np := 1) (V := [0, 2, 9, 3, 11, 13, 12, 5, 16, 21, 17, 32, 29, 25, 46, 39, 35]) (ks := [[0, 3, 4, 5, 6]]) (by kernel_rfl)

/- tipstaff/tipstafflaw22.all -/
def xf32 : XF := ⟨0, [0, 1],
  (.seq
 (.new (some 0) 69 (.const zA4))
 (.seq
 (.seq
 (.call (some 1) 24 [] [])
 (.store 6 (.var 0) (.var 1) []))
 .ret)),
  [(.ld (some 6) (.var 0))]⟩
theorem okx_32 : FnOk Tryz.prog 3 377 32 xf32 := fnOk_of Tryz.func32 (np := 0) (V := [0, 1]) (ks := []) (by kernel_rfl)

/- (*tipstaff/gate.Kernel).Fds -/
def xf34 : XF := ⟨2, [0, 1, 4, 5, 26, 28, 27, 7, 40, 8, 9, 49, 50],
  (.seq
 (.set 2 (.const (.slice none 0 0)))
 (.seq
 (.cond (.pick (.pick (.isnil 0 false (.var 0)) (.const (.bool true)) (.bin .lss (.var 1) (.const (.int .i64 0)))) (.const (.bool true)) (.bin .geq (.var 1) (.const (.int .i64 4))))
 (.seq
 (.set 2 (.const (.slice none 0 0)))
 .ret)
 .skip)
 (.seq
 (.set 3 (.const (.slice none 0 0)))
 (.seq
 (.seq
 (.seq
 (.call (some 4) 76 [(.ld none (.ixArr 4 1 (.offp 3 (.nn (.var 0))) (.var 1)))] [])
 (.seq
 (.set 6 (.len false (.var 4)))
 (.set 5 (.const (.int .i64 0)))))
 (.block 0
 (.loop [0, 1, 3, 4, 5, 6]
 (.seq
 (.cond (.bin .lss (.var 5) (.var 6))
 .skip
 (.exit 0))
 (.seq
 (.block 1
 (.seq
 (.set 7 (.ld none (.ixSl 1 (.var 4) (.var 5))))
 (.seq
 (.seq
 (.call (some 8) 43 [(.ld none (.ixArr 4 1 (.offp 3 (.nn (.var 0))) (.var 1))), (.var 7)] [])
 (.seq
 (.chk [(.proj 1 (.var 8))])
 (.seq
 (.set 9 (.proj 0 (.var 8)))
 (.set 10 (.proj 1 (.var 8))))))
 (.cond (.bin .eql (.var 10) (.const (.int .i64 0)))
 (.seq
 (.chk [(.upd 1 1 (.upd 0 1 (.const (.agg #[(.int .i64 0), (.int .i64 0)])) (.var 7)) (.var 9)), (.var 3)])
 (.seq
 (.row (some 11) 178 1 (.upd 0 2 (.const (.agg #[(.int .i64 0), (.int .i64 0)])) (.upd 1 1 (.upd 0 1 (.const (.agg #[(.int .i64 0), (.int .i64 0)])) (.var 7)) (.var 9))))
 (.seq
 (.app (some 12) 178 2 (.var 3) (.var 11) [])
 (.set 3 (.var 12)))))
 .skip))))
 (.set 5 (.bin .add (.var 5) (.const (.int .i64 1)))))))))
 (.seq
 (.set 2 (.var 3))
 .ret))))),
  [(.var 2)]⟩
theorem okx_34 : FnOk Tryz.prog 3 377 34 xf34 := fnOk_of Tryz.func34 (np := 2) (V := [0, 1, 4, 5, 26, 28, 27, 7, 40, 8, 9, 49, 50]) (ks := [[0, 1, 3, 4, 5, 6]]) (by kernel_rfl)

/- (*tipstaff/gate.Kernel).Keys -/
def xf35 : XF := ⟨1, [0, 2, 9],
  (.seq
 (.set 1 (.const (.int .i64 0)))
 (.seq
 (.cond (.isnil 0 false (.var 0))
 (.seq
 (.set 1 (.const (.int .i64 0)))
 .ret)
 .skip)
 (.seq
 (.seq
 (.call (some 2) 77 [(.ld none (.offp 1 (.nn (.var 0))))] [])
 (.set 1 (.var 2)))
 .ret))),
  [(.var 1)]⟩
theorem okx_35 : FnOk Tryz.prog 3 377 35 xf35 := fnOk_of Tryz.func35 (np := 1) (V := [0, 2, 9]) (ks := []) (by kernel_rfl)

/- (*tipstaff/gate.Kernel).Spaces -/
def xf36 : XF := ⟨1, [0, 2, 9],
  (.seq
 (.set 1 (.const (.int .i64 0)))
 (.seq
 (.cond (.isnil 0 false (.var 0))
 (.seq
 (.set 1 (.const (.int .i64 0)))
 .ret)
 .skip)
 (.seq
 (.seq
 (.call (some 2) 78 [(.ld none (.offp 0 (.nn (.var 0))))] [])
 (.set 1 (.var 2)))
 .ret))),
  [(.var 1)]⟩
theorem okx_36 : FnOk Tryz.prog 3 377 36 xf36 := fnOk_of Tryz.func36 (np := 1) (V := [0, 2, 9]) (ks := []) (by kernel_rfl)

/- tipstaff/bmap.Check -/
def xf37 : XF := ⟨1, [0, 2, 1, 6, 10, 3, 13, 14, 22, 29, 31, 40, 46],
  (.seq
 (.seq
 (.new (some 2) 24 (.var 0))
 (.set 1 (.const (.int .i64 0))))
 (.seq
 (.seq
 (.call (some 3) 79 [(.ld none (.offp 2 (.var 2))), (.const (.int .i64 1)), (.const (.int .i64 64))] [])
 (.seq
 (.chk [(.pick (.var 3) (.ld none (.offp 3 (.var 2))) (.const (.bool false)))])
 (.seq
 (.cond (.pick (.var 3) (.const (.bool true)) (.const (.bool false)))
 (.call (some 4) 79 [(.ld none (.offp 3 (.var 2))), (.const (.int .i64 1)), (.const (.int .i64 64))] [])
 (.clr [4]))
 (.set 5 (.pick (.var 3) (.var 4) (.const (.bool false)))))))
 (.seq
 (.seq
 (.set 6 (.ld none (.offp 0 (.var 2))))
 (.block 0
 (.seq
 (.set 7 (.bin .eql (.var 6) (.const (.int .i64 0))))
 (.cond (.var 7)
 (.set 5 (.pick (.var 5) (.bin .eql (.ld none (.offp 1 (.var 2))) (.const (.int .i64 4))) (.const (.bool false))))
 (.seq
 (.seq
 (.set 8 (.bin .eql (.var 6) (.const (.int .i64 1))))
 (.cond (.var 8)
 .skip
 (.set 8 (.bin .eql (.var 6) (.const (.int .i64 2))))))
 (.cond (.var 8)
 (.seq
 (.chk [(.pick (.var 5) (.ld none (.offp 1 (.var 2))) (.const (.bool false)))])
 (.seq
 (.cond (.pick (.var 5) (.const (.bool true)) (.const (.bool false)))
 (.call (some 9) 79 [(.ld none (.offp 1 (.var 2))), (.const (.int .i64 1)), (.const (.int .i64 16))] [])
 (.clr [9]))
 (.set 5 (.pick (.var 5) (.var 9) (.const (.bool false))))))
 (.seq
 (.seq
 (.set 10 (.bin .eql (.var 6) (.const (.int .i64 3))))
 (.cond (.var 10)
 .skip
 (.set 10 (.bin .eql (.var 6) (.const (.int .i64 4))))))
 (.cond (.var 10)
 (.set 5 (.pick (.var 5) (.bin .eql (.ld none (.offp 1 (.var 2))) (.const (.int .i64 0))) (.const (.bool false))))
 (.seq
 (.set 11 (.bin .eql (.var 6) (.const (.int .i64 5))))
 (.cond (.var 11)
 (.seq
 (.chk [(.pick (.var 5) (.ld none (.offp 1 (.var 2))) (.const (.bool false)))])
 (.seq
 (.cond (.pick (.var 5) (.const (.bool true)) (.const (.bool false)))
 (.call (some 12) 79 [(.ld none (.offp 1 (.var 2))), (.const (.int .i64 5)), (.const (.int .i64 16))] [])
 (.clr [12]))
 (.set 5 (.pick (.var 5) (.var 12) (.const (.bool false))))))
 (.set 5 (.const (.bool false)))))))))))))
 (.seq
 (.cond (.un .not (.var 5))
 (.seq
 (.set 1 (.const (.int .i64 22)))
 .ret)
 .skip)
 (.seq
 (.set 1 (.const (.int .i64 0)))
 .ret))))),
  [(.var 1)]⟩
theorem okx_37 : FnOk Tryz.prog 3 377 37 xf37 := fnOk_of Tryz.func37 (np := 1) (V := [0, 2, 1, 6, 10, 3, 13, 14, 22, 29, 31, 40, 46]) (ks := []) (by kernel_rfl)

/- tipstaff/fdtab.New -/
def xf41 : XF := ⟨1, [0, 2, 3, 11, 13],
  (.seq
 (.seq
 (.set 1 (.const (.pointer none)))
 (.set 2 (.const (.int .i64 0))))
 (.seq
 (.cond (.pick (.bin .lss (.var 0) (.const (.int .i64 1))) (.const (.bool true)) (.bin .gtr (.var 0) (.const (.int .i64 16))))
 (.seq
 (.seq
 (.set 1 (.const (.pointer none)))
 (.set 2 (.const (.int .i64 22))))
 .ret)
 .skip)
 (.seq
 (.seq
 (.mk (some 3) 3 [(.int .i64 0)] (.var 0) (.var 0) [])
 (.seq
 (.chk [(.upd 0 1 (.const (.agg #[(.slice none 0 0)])) (.var 3))])
 (.seq
 (.new (some 4) 187 (.upd 0 1 (.const (.agg #[(.slice none 0 0)])) (.var 3)))
 (.seq
 (.set 1 (.var 4))
 (.set 2 (.const (.int .i64 0)))))))
 .ret))),
  [(.var 1), (.var 2)]⟩
theorem okx_41 : FnOk Tryz.prog 3 377 41 xf41 := fnOk_of Tryz.func41 (np := 1) (V := [0, 2, 3, 11, 13]) (ks := []) (by kernel_rfl)

/- (*tipstaff/fdtab.Table).Open -/
def xf42 : XF := ⟨2, [0, 1, 4, 5, 17, 6],
  (.seq
 (.seq
 (.set 2 (.const (.int .i64 0)))
 (.set 3 (.const (.int .i64 0))))
 (.seq
 (.cond (.pick (.isnil 0 false (.var 0)) (.const (.bool true)) (.bin .leq (.var 1) (.const (.int .i64 0))))
 (.seq
 (.seq
 (.set 2 (.const (.int .i64 0)))
 (.set 3 (.const (.int .i64 22))))
 .ret)
 .skip)
 (.seq
 (.seq
 (.call (some 4) 82 [(.ld none (.offp 0 (.nn (.var 0)))), (.const (.int .i64 0))] [])
 (.set 5 (.var 4)))
 (.seq
 (.cond (.bin .lss (.var 5) (.const (.int .i64 0)))
 (.seq
 (.seq
 (.set 2 (.const (.int .i64 0)))
 (.set 3 (.const (.int .i64 24))))
 .ret)
 .skip)
 (.seq
 (.store 1 (.ixSl 1 (.ld none (.offp 0 (.nn (.var 0)))) (.var 5)) (.var 1) [])
 (.seq
 (.seq
 (.set 2 (.var 5))
 (.set 3 (.const (.int .i64 0))))
 .ret)))))),
  [(.var 2), (.var 3)]⟩
theorem okx_42 : FnOk Tryz.prog 3 377 42 xf42 := fnOk_of Tryz.func42 (np := 2) (V := [0, 1, 4, 5, 17, 6]) (ks := []) (by kernel_rfl)

/- (*tipstaff/fdtab.Table).Get -/
def xf43 : XF := ⟨2, [0, 1, 4, 5, 6, 9],
  (.seq
 (.seq
 (.set 2 (.const (.int .i64 0)))
 (.set 3 (.const (.int .i64 0))))
 (.seq
 (.block 0
 (.seq
 (.set 4 (.isnil 0 false (.var 0)))
 (.cond (.var 4)
 (.seq
 (.seq
 (.set 2 (.const (.int .i64 0)))
 (.set 3 (.const (.int .i64 22))))
 .ret)
 (.seq
 (.set 5 (.pick (.pick (.bin .lss (.var 1) (.const (.int .i64 0))) (.const (.bool true)) (.bin .geq (.var 1) (.len false (.ld none (.offp 0 (.nn (.var 0))))))) (.const (.bool true)) (.bin .eql (.ld none (.ixSl 1 (.ld none (.offp 0 (.nn (.var 0)))) (.var 1))) (.const (.int .i64 0)))))
 (.cond (.var 5)
 (.seq
 (.seq
 (.set 2 (.const (.int .i64 0)))
 (.set 3 (.const (.int .i64 9))))
 .ret)
 .skip)))))
 (.seq
 (.seq
 (.set 2 (.ld none (.ixSl 1 (.ld none (.offp 0 (.nn (.var 0)))) (.var 1))))
 (.set 3 (.const (.int .i64 0))))
 .ret))),
  [(.var 2), (.var 3)]⟩
theorem okx_43 : FnOk Tryz.prog 3 377 43 xf43 := fnOk_of Tryz.func43 (np := 2) (V := [0, 1, 4, 5, 6, 9]) (ks := []) (by kernel_rfl)
end Go.Proofs.YtmpgfgemnhbkhaaGreatDoor
