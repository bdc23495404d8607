/- The interpreter's functions, part 0: made by program (geny.py). -/
import Derived.Test.YtmpgfgemnhbkhaaGreatDoorXghz
import Derived.Test.YtmpgfgemnhbkhaaGreatDoorProg
set_option maxRecDepth 100000
set_option linter.unusedVariables false
namespace Go.Proofs.YtmpgfgemnhbkhaaGreatDoor
open Go.Eng
/- tipstaff/tipstafflaw22.GateHeld -/
def xf7 : XF := ⟨1, [0, 2, 12, 3, 13, 16, 24, 27, 4, 38, 36, 42, 5, 6, 7, 8, 69, 74, 81, 85, 89, 94, 9, 10, 11, 113, 118],
  (.seq
 (.set 1 (.const (.bool false)))
 (.seq
 (.seq
 (.call (some 2) 27 [] [])
 (.set 3 (.var 2)))
 (.seq
 (.seq
 (.call (some 4) 28 [] [])
 (.cond (.un .not (.var 4))
 (.seq
 (.set 1 (.const (.bool false)))
 .ret)
 .skip))
 (.seq
 (.seq
 (.chk [(.var 3)])
 (.seq
 (.call (some 5) 32 [] [])
 (.seq
 (.chk [(.upd 8 6 (.upd 1 1 (.const zA18) (.const (.int .i64 12))) (.var 5))])
 (.call none 29 [(.var 3), (.upd 8 6 (.upd 1 1 (.const zA18) (.const (.int .i64 12))) (.var 5))] []))))
 (.seq
 (.seq
 (.chk [(.upd 4 4 (.upd 1 1 (.const zA18) (.const (.int .i64 0))) (.upd 3 1 (.upd 2 1 (.upd 1 1 (.upd 0 1 (.const (.agg (Array.replicate 4 (.int .i64 0)))) (.const (.int .i64 1))) (.const (.int .i64 8))) (.const (.int .i64 8))) (.const (.int .i64 2)))), (.upd 3 1 (.upd 2 1 (.upd 1 1 (.upd 0 1 (.const (.agg (Array.replicate 4 (.int .i64 0)))) (.const (.int .i64 1))) (.const (.int .i64 8))) (.const (.int .i64 8))) (.const (.int .i64 2)))])
 (.call none 29 [(.var 3), (.upd 4 4 (.upd 1 1 (.const zA18) (.const (.int .i64 0))) (.upd 3 1 (.upd 2 1 (.upd 1 1 (.upd 0 1 (.const (.agg (Array.replicate 4 (.int .i64 0)))) (.const (.int .i64 1))) (.const (.int .i64 8))) (.const (.int .i64 8))) (.const (.int .i64 2))))] []))
 (.seq
 (.seq
 (.chk [(.var 3)])
 (.seq
 (.call (some 6) 33 [(.const (.int .i64 1)), (.const (.int .i32 1))] [])
 (.seq
 (.chk [(.upd 14 4 (.upd 1 1 (.const zA18) (.const (.int .i64 1))) (.upd 1 1 (.const zA1) (.var 6))), (.upd 1 1 (.const zA1) (.var 6))])
 (.seq
 (.call (some 7) 29 [(.var 3), (.upd 14 4 (.upd 1 1 (.const zA18) (.const (.int .i64 1))) (.upd 1 1 (.const zA1) (.var 6)))] [])
 (.seq
 (.new (some 8) 80 (.const zA0))
 (.store 4 (.var 8) (.var 7) []))))))
 (.seq
 (.seq
 (.seq
 (.set 10 (.pick (.bin .neq (.ld none (.offp 0 (.var 8))) (.const (.int .i64 0))) (.const (.bool true)) (.bin .neq (.ld none (.offp 1 (.var 8))) (.const (.int .i64 2)))))
 (.seq
 (.chk [(.pick (.var 10) (.const (.bool false)) (.var 3))])
 (.cond (.pick (.var 10) (.const (.bool false)) (.const (.bool true)))
 (.call (some 9) 30 [(.var 3)] [])
 (.clr [9]))))
 (.cond (.pick (.var 10) (.const (.bool true)) (.bin .neq (.len false (.var 9)) (.const (.int .i64 3))))
 (.seq
 (.set 1 (.const (.bool false)))
 .ret)
 .skip))
 (.seq
 (.seq
 (.row (some 11) 3 3 (.upd 2 1 (.upd 1 1 (.upd 0 1 (.const (.agg #[(.int .i64 0), (.int .i64 0), (.int .i64 0)])) (.const (.int .i64 0))) (.const (.int .i64 1))) (.const (.int .i64 2))))
 (.set 12 (.var 11)))
 (.seq
 (.seq
 (.set 13 (.const (.int .i64 0)))
 (.block 0
 (.loop [0, 3, 12, 13]
 (.seq
 (.cond (.bin .gtr (.len false (.var 12)) (.const (.int .i64 0)))
 .skip
 (.exit 0))
 (.seq
 (.block 1
 (.seq
 (.set 14 (.const (.int .i64 0)))
 (.seq
 (.cond (.bin .lss (.var 13) (.len false (.var 0)))
 (.set 14 (.conv .i64 (.bin .rem (.conv .u64 (.ld none (.ixSl 1 (.var 0) (.var 13)))) (.conv .u64 (.len false (.var 12))))))
 .skip)
 (.seq
 (.set 15 (.ld none (.ixSl 1 (.var 12) (.var 14))))
 (.seq
 (.seq
 (.seq
 (.chk [(.upd 2 1 (.upd 1 1 (.const zA18) (.const (.int .i64 8))) (.var 15))])
 (.seq
 (.call (some 16) 29 [(.var 3), (.upd 2 1 (.upd 1 1 (.const zA18) (.const (.int .i64 8))) (.var 15))] [])
 (.seq
 (.chk [(.pick (.bin .neq (.part none 0 (.var 16)) (.const (.int .i64 0))) (.const (.bool false)) (.var 3))])
 (.seq
 (.cond (.pick (.bin .neq (.part none 0 (.var 16)) (.const (.int .i64 0))) (.const (.bool false)) (.const (.bool true)))
 (.call (some 17) 31 [(.var 3)] [])
 (.clr [17]))
 (.seq
 (.chk [(.pick (.pick (.bin .neq (.part none 0 (.var 16)) (.const (.int .i64 0))) (.const (.bool true)) (.un .not (.var 17))) (.const (.bool false)) (.upd 2 1 (.upd 1 1 (.const zA18) (.const (.int .i64 8))) (.var 15))), (.pick (.pick (.bin .neq (.part none 0 (.var 16)) (.const (.int .i64 0))) (.const (.bool true)) (.un .not (.var 17))) (.const (.bool false)) (.var 3))])
 (.cond (.pick (.pick (.bin .neq (.part none 0 (.var 16)) (.const (.int .i64 0))) (.const (.bool true)) (.un .not (.var 17))) (.const (.bool false)) (.const (.bool true)))
 (.call (some 18) 29 [(.var 3), (.upd 2 1 (.upd 1 1 (.const zA18) (.const (.int .i64 8))) (.var 15))] [])
 (.clr [18])))))))
 (.cond (.pick (.pick (.bin .neq (.part none 0 (.var 16)) (.const (.int .i64 0))) (.const (.bool true)) (.un .not (.var 17))) (.const (.bool true)) (.bin .neq (.part none 0 (.var 18)) (.const (.int .i64 9))))
 (.seq
 (.set 1 (.const (.bool false)))
 .ret)
 .skip))
 (.seq
 (.seq
 .skip
 (.seq
 (.chk [(.slSl 1 (.var 12) (.bin .add (.var 14) (.const (.int .i64 1))) (.len false (.var 12))), (.slSl 1 (.var 12) (.const (.int .i64 0)) (.var 14))])
 (.seq
 (.row (some 19) 3 0 (.const (.agg #[])))
 (.seq
 (.app (some 20) 3 1 (.var 19) (.slSl 1 (.var 12) (.const (.int .i64 0)) (.var 14)) [])
 (.seq
 (.app (some 21) 3 1 (.var 20) (.slSl 1 (.var 12) (.bin .add (.var 14) (.const (.int .i64 1))) (.len false (.var 12))) [])
 (.set 12 (.var 21)))))))
 (.seq
 (.set 22 (.const (.bool false)))
 (.seq
 (.seq
 (.set 23 (.const (.int .i64 0)))
 (.block 2
 (.loop [0, 3, 12, 13, 22, 23]
 (.seq
 (.cond (.bin .lss (.var 23) (.len false (.var 12)))
 .skip
 (.exit 2))
 (.seq
 (.block 3
 (.set 22 (.pick (.var 22) (.const (.bool true)) (.bin .eql (.ld none (.ixSl 1 (.var 12) (.var 23))) (.const (.int .i64 2))))))
 (.set 23 (.bin .add (.var 23) (.const (.int .i64 1)))))))))
 (.seq
 (.set 24 (.len false (.var 12)))
 (.seq
 (.cond (.var 22)
 (.set 24 (.const (.int .i64 3)))
 .skip)
 (.seq
 (.call (some 25) 30 [(.var 3)] [])
 (.cond (.bin .neq (.len false (.var 25)) (.var 24))
 (.seq
 (.set 1 (.const (.bool false)))
 .ret)
 .skip))))))))))))
 (.set 13 (.bin .add (.var 13) (.const (.int .i64 1)))))))))
 (.seq
 (.seq
 (.call (some 26) 34 [(.var 3), (.const (.int .i64 0))] [])
 (.set 1 (.bin .eql (.len false (.var 26)) (.const (.int .i64 0)))))
 .ret)))))))))),
  [(.var 1)]⟩
theorem okx_7 : FnOk Tryz.prog 3 377 7 xf7 := fnOk_of Tryz.func7 (np := 1) (V := [0, 2, 12, 3, 13, 16, 24, 27, 4, 38, 36, 42, 5, 6, 7, 8, 69, 74, 81, 85, 89, 94, 9, 10, 11, 113, 118]) (ks := [[0, 3, 12, 13], [0, 3, 12, 13, 22, 23]]) (by kernel_rfl)

/- tipstaff/bmap.New -/
def xf12 : XF := ⟨1, [0, 2, 3, 1, 8, 4, 14, 5, 20, 19, 6, 29, 32, 33, 35, 30, 37, 38, 27, 39],
  (.seq
 (.seq
 (.new (some 3) 24 (.var 0))
 (.seq
 (.set 1 (.const (.pointer none)))
 (.set 2 (.const (.int .i64 0)))))
 (.seq
 (.seq
 (.seq
 (.call (some 4) 37 [(.ld (some 4) (.var 3))] [])
 (.set 5 (.var 4)))
 (.cond (.bin .neq (.var 5) (.const (.int .i64 0)))
 (.seq
 (.seq
 (.chk [(.var 5)])
 (.seq
 (.set 1 (.const (.pointer none)))
 (.set 2 (.var 5))))
 .ret)
 .skip))
 (.seq
 (.seq
 (.chk [(.upd 0 4 (.const (.agg #[(.int .i64 0), (.int .i64 0), (.int .i64 0), (.int .i64 0), (.slice none 0 0), (.bool false), (.int .i64 0)])) (.ld (some 4) (.var 3)))])
 (.seq
 (.new (some 6) 96 (.upd 0 4 (.const (.agg #[(.int .i64 0), (.int .i64 0), (.int .i64 0), (.int .i64 0), (.slice none 0 0), (.bool false), (.int .i64 0)])) (.ld (some 4) (.var 3))))
 (.set 7 (.var 6))))
 (.seq
 (.cond (.bin .eql (.ld none (.offp 0 (.var 3))) (.const (.int .i64 0)))
 (.seq
 (.seq
 (.set 9 (.ld none (.offp 3 (.var 3))))
 (.set 8 (.const (.int .i64 0))))
 (.block 0
 (.loop [3, 7, 8, 9]
 (.seq
 (.cond (.bin .lss (.var 8) (.var 9))
 .skip
 (.exit 0))
 (.seq
 (.block 1
 (.seq
 (.set 10 (.var 8))
 (.seq
 .skip
 (.seq
 (.set 18 (.ld none (.offp 4 (.nn (.var 7)))))
 (.seq
 (.chk [(.var 10)])
 (.seq
 (.set 12 (.ld none (.offp 2 (.var 3))))
 (.seq
 (.resv 2)
 (.seq
 (.seq
 (.set 13 (.const (.bool true)))
 (.seq
 (.set 14 (.const (.bool true)))
 .skip))
 (.seq
 (.chk [(.var 13), (.var 14)])
 (.seq
 (.clr [13, 14])
 (.seq
 (.chk [(.const (.bool true)), (.pick (.bin .leq (.var 12) (.var 12)) (.pick (.bin .leq (.var 12) (.const (.int .i64 100000))) (.pick (.bin .leq (.const (.int .i64 0)) (.var 12)) (.const (.bool true)) (.nn (.const (.bool true)))) (.nn (.const (.bool true)))) (.nn (.const (.bool true)))), (.upd 0 1 (.const (.agg #[(.slice none 0 0)])) (.const (.pointer none)))])
 (.seq
 (.call (some 11) 38 [(.var 10)] [(.ld none (.offp 2 (.var 3))), (.ld none (.offp 4 (.nn (.var 7))))])
 (.seq
 (.set 15 (.bstr (.var 11)))
 (.seq
 (.mkR 0 13 5 [(.int .u8 0)] (.var 12) (.var 12))
 (.seq
 (.newR 1 14 101 (.upd 0 1 (.const (.agg #[(.slice none 0 0)])) (.var 13)))
 (.seq
 (.chk [(.upd 1 1 (.upd 0 1 (.const (.agg #[(.string ⟨#[]⟩), (.pointer none), (.int .i64 0)])) (.var 15)) (.var 14))])
 (.seq
 (.new (some 16) 103 (.upd 1 1 (.upd 0 1 (.const (.agg #[(.string ⟨#[]⟩), (.pointer none), (.int .i64 0)])) (.var 15)) (.var 14)))
 (.seq
 (.row (some 17) 97 1 (.upd 0 1 (.const (.agg #[(.pointer none)])) (.var 16)))
 (.seq
 (.app (some 19) 97 1 (.var 18) (.var 17) [])
 (.seq
 (.store 1 (.offp 4 (.nn (.var 7))) (.var 19) [])
 .skip))))))))))))))))))))
 (.set 8 (.bin .add (.var 8) (.const (.int .i64 1)))))))))
 .skip)
 (.seq
 (.seq
 (.set 1 (.var 7))
 (.set 2 (.const (.int .i64 0))))
 .ret))))),
  [(.var 1), (.var 2)]⟩
theorem okx_12 : FnOk Tryz.prog 3 377 12 xf12 := fnOk_of Tryz.func12 (np := 1) (V := [0, 2, 3, 1, 8, 4, 14, 5, 20, 19, 6, 29, 32, 33, 35, 30, 37, 38, 27, 39]) (ks := [[3, 7, 8, 9]]) (by kernel_rfl)

/- tipstaff/verify.Check -/
def xf17 : XF := ⟨2, [0, 1, 4, 5, 3, 14, 6, 7, 27, 8, 33, 32, 35, 9, 37, 39, 44],
  (.seq
 (.seq
 (.new (some 4) 43 (.var 1))
 (.seq
 (.new (some 2) 37 (.const (.agg #[(.int .i64 0), (.int .i64 0)])))
 (.set 3 (.const (.int .i64 0)))))
 (.seq
 (.seq
 (.seq
 (.call (some 5) 44 [(.var 0), (.ld none (.offp 2 (.var 4)))] [])
 (.seq
 (.chk [(.proj 1 (.var 5))])
 (.seq
 (.set 6 (.proj 0 (.var 5)))
 (.set 7 (.proj 1 (.var 5))))))
 (.cond (.bin .neq (.var 7) (.const (.int .i64 0)))
 (.seq
 (.cond (.bin .eql (.var 7) (.const (.int .i64 7)))
 (.seq
 (.seq
 (.chk [(.var 7)])
 (.seq
 (.store 2 (.var 2) (.const (.agg #[(.int .i64 0), (.int .i64 0)])) [])
 (.set 3 (.var 7))))
 .ret)
 .skip)
 (.seq
 (.seq
 (.chk [(.upd 0 1 (.const (.agg #[(.int .i64 0), (.int .i64 0)])) (.var 6))])
 (.seq
 (.store 2 (.var 2) (.upd 0 1 (.const (.agg #[(.int .i64 0), (.int .i64 0)])) (.var 6)) [])
 (.set 3 (.const (.int .i64 22)))))
 .ret))
 .skip))
 (.seq
 (.seq
 (.call (some 8) 45 [(.ld none (.offp 0 (.var 4))), (.const (.func (.func 46) #[] #[]))] [])
 (.cond (.var 8)
 (.seq
 (.seq
 (.store 2 (.var 2) (.const (.agg #[(.int .i64 0), (.int .i64 0)])) [])
 (.set 3 (.const (.int .i64 22))))
 .ret)
 .skip))
 (.seq
 (.set 9 (.const (.int .i64 512)))
 (.seq
 (.cond (.ld none (.offp 2 (.var 4)))
 (.set 9 (.const (.int .i64 2048)))
 .skip)
 (.seq
 (.seq
 (.chk [(.var 0)])
 (.seq
 (.set 11 (.ld (some 3) (.var 4)))
 (.seq
 (.mkmap (some 10) .i64 [])
 (.seq
 (.chk [(.upd 5 1 (.upd 1 3 (.upd 0 1 (.const (.agg #[(.slice none 0 0), (.slice none 0 0), (.slice none 0 0), (.bool false), (.slice none 0 0), (.map none), (.int .i64 0)])) (.var 0)) (.var 11)) (.var 10))])
 (.seq
 (.new (some 12) 118 (.upd 5 1 (.upd 1 3 (.upd 0 1 (.const (.agg #[(.slice none 0 0), (.slice none 0 0), (.slice none 0 0), (.bool false), (.slice none 0 0), (.map none), (.int .i64 0)])) (.var 0)) (.var 11)) (.var 10)))
 (.set 13 (.var 12)))))))
 (.seq
 (.seq
 (.chk [(.var 13)])
 (.seq
 (.call (some 14) 47 [] [])
 (.seq
 (.chk [(.upd 1 273 (.upd 0 1 (.const zA23) (.const (.int .i64 0))) (.var 14))])
 (.seq
 (.row (some 15) 132 1 (.upd 0 274 (.const zA23) (.upd 1 273 (.upd 0 1 (.const zA23) (.const (.int .i64 0))) (.var 14))))
 (.store 1 (.offp 4 (.nn (.var 13))) (.var 15) [])))))
 (.seq
 (.seq
 (.call (some 16) 48 [(.var 13), (.var 9)] [])
 (.seq
 (.chk [(.proj 1 (.var 16))])
 (.seq
 (.store 2 (.var 2) (.proj 0 (.var 16)) [])
 (.set 3 (.proj 1 (.var 16))))))
 .ret)))))))),
  [(.ld (some 2) (.var 2)), (.var 3)]⟩
theorem okx_17 : FnOk Tryz.prog 3 377 17 xf17 := fnOk_of Tryz.func17 (np := 2) (V := [0, 1, 4, 5, 3, 14, 6, 7, 27, 8, 33, 32, 35, 9, 37, 39, 44]) (ks := []) (by kernel_rfl)

/- tipstaff/loader.Load -/
def xf22 : XF := ⟨4, [0, 1, 2, 3, 8, 9, 4, 23, 10, 30, 12, 11, 13, 42, 14, 51, 52, 15, 16, 68, 17, 76, 73, 77, 79, 82],
  (.seq
 (.seq
 (.new (some 6) 64 (.var 0))
 (.seq
 (.set 4 (.const (.pointer none)))
 (.set 5 (.const (.int .i64 0)))))
 (.seq
 (.cond (.isnil 0 false (.var 2))
 (.seq
 (.seq
 (.set 4 (.const (.pointer none)))
 (.set 5 (.const (.int .i64 1))))
 .ret)
 .skip)
 (.seq
 (.seq
 (.seq
 (.call (some 7) 53 [(.var 2), (.ld none (.offp 0 (.var 6)))] [])
 (.set 8 (.var 7)))
 (.cond (.bin .neq (.var 8) (.const (.int .i64 0)))
 (.seq
 (.seq
 (.chk [(.var 8)])
 (.seq
 (.set 4 (.const (.pointer none)))
 (.set 5 (.var 8))))
 .ret)
 .skip))
 (.seq
 (.seq
 (.call (some 9) 54 [(.ld (some 4) (.var 6)), (.var 1)] [])
 (.seq
 (.chk [(.proj 2 (.var 9)), (.proj 1 (.var 9)), (.proj 0 (.var 9))])
 (.seq
 (.new (some 10) 49 (.const (.agg (Array.replicate 32 (.int .u8 0)))))
 (.seq
 (.set 11 (.proj 0 (.var 9)))
 (.seq
 (.store 32 (.var 10) (.proj 1 (.var 9)) [])
 (.set 12 (.proj 2 (.var 9))))))))
 (.seq
 (.cond (.bin .neq (.var 12) (.const (.int .i64 0)))
 (.seq
 (.seq
 (.chk [(.var 12)])
 (.seq
 (.set 4 (.const (.pointer none)))
 (.set 5 (.var 12))))
 .ret)
 .skip)
 (.seq
 (.seq
 (.seq
 (.call (some 13) 55 [(.var 2), (.var 11), (.var 1), (.ld none (.offp 2 (.var 6)))] [])
 (.set 14 (.var 13)))
 (.cond (.bin .neq (.var 14) (.const (.int .i64 0)))
 (.seq
 (.seq
 (.chk [(.var 14)])
 (.seq
 (.set 4 (.const (.pointer none)))
 (.set 5 (.var 14))))
 .ret)
 .skip))
 (.seq
 (.seq
 (.seq
 (.chk [(.var 11)])
 (.seq
 (.call (some 15) 56 [(.var 1), (.ld none (.offp 2 (.var 6)))] [])
 (.seq
 (.call (some 16) 17 [(.var 11), (.var 15)] [])
 (.seq
 (.chk [(.proj 1 (.var 16)), (.proj 0 (.var 16))])
 (.seq
 (.new (some 17) 37 (.const (.agg #[(.int .i64 0), (.int .i64 0)])))
 (.seq
 (.store 2 (.var 17) (.proj 0 (.var 16)) [])
 (.set 18 (.proj 1 (.var 16)))))))))
 (.cond (.bin .neq (.var 18) (.const (.int .i64 0)))
 (.seq
 (.seq
 (.chk [(.var 18)])
 (.seq
 (.set 4 (.const (.pointer none)))
 (.set 5 (.var 18))))
 .ret)
 .skip))
 (.seq
 (.cond (.ld none (.offp 5 (.offp 1 (.nn (.var 2)))))
 (.seq
 (.seq
 (.call (some 19) 57 [(.ld (some 32) (.var 10)), (.ld none (.offp 3 (.var 6))), (.var 1), (.var 3)] [])
 (.set 20 (.var 19)))
 (.cond (.bin .neq (.var 20) (.const (.int .i64 0)))
 (.seq
 (.seq
 (.chk [(.var 20)])
 (.seq
 (.set 4 (.const (.pointer none)))
 (.set 5 (.var 20))))
 .ret)
 .skip))
 .skip)
 (.seq
 (.seq
 .skip
 (.seq
 (.set 22 (.ld none (.offp 0 (.var 6))))
 (.seq
 (.chk [(.var 1), (.var 11)])
 (.seq
 (.set 23 (.ld (some 32) (.var 10)))
 (.seq
 (.set 24 (.ld none (.offp 2 (.var 6))))
 (.seq
 (.chk [(.var 2)])
 (.seq
 (.call (some 21) 58 [(.var 1)] [(.ld none (.offp 2 (.var 6))), (.ld (some 32) (.var 10)), (.ld none (.offp 0 (.var 6)))])
 (.seq
 (.chk [(.upd 36 1 (.upd 35 1 (.upd 3 32 (.upd 2 1 (.upd 1 1 (.upd 0 1 (.const zA16) (.var 22)) (.var 11)) (.var 21)) (.var 23)) (.var 24)) (.var 2))])
 (.seq
 (.new (some 25) 73 (.upd 36 1 (.upd 35 1 (.upd 3 32 (.upd 2 1 (.upd 1 1 (.upd 0 1 (.const zA16) (.var 22)) (.var 11)) (.var 21)) (.var 23)) (.var 24)) (.var 2)))
 (.seq
 (.set 4 (.var 25))
 (.set 5 (.const (.int .i64 0)))))))))))))
 .ret))))))))),
  [(.var 4), (.var 5)]⟩
theorem okx_22 : FnOk Tryz.prog 3 377 22 xf22 := fnOk_of Tryz.func22 (np := 4) (V := [0, 1, 2, 3, 8, 9, 4, 23, 10, 30, 12, 11, 13, 42, 14, 51, 52, 15, 16, 68, 17, 76, 73, 77, 79, 82]) (ks := []) (by kernel_rfl)

/- tipstaff/rights.All -/
def xf24 : XF := ⟨0, [0],
  (.seq
 (.new (some 0) 69 (.const zA4))
 (.seq
 (.seq
 (.chk [(.upd 5 1 (.upd 4 1 (.upd 3 1 (.upd 2 1 (.upd 1 1 (.upd 0 1 (.const zA4) (.const (.int .u16 255))) (.const (.int .u16 15))) (.const (.int .u16 63))) (.const (.int .u16 255))) (.const (.bool true))) (.const (.bool false)))])
 (.store 6 (.var 0) (.upd 5 1 (.upd 4 1 (.upd 3 1 (.upd 2 1 (.upd 1 1 (.upd 0 1 (.const zA4) (.const (.int .u16 255))) (.const (.int .u16 15))) (.const (.int .u16 63))) (.const (.int .u16 255))) (.const (.bool true))) (.const (.bool false))) []))
 .ret)),
  [(.ld (some 6) (.var 0))]⟩
theorem okx_24 : FnOk Tryz.prog 3 377 24 xf24 := fnOk_of Tryz.func24 (np := 0) (V := [0]) (ks := []) (by kernel_rfl)

/- tipstaff/loader.Held -/
def xf26 : XF := ⟨1, [0, 2, 21, 12, 29, 24, 47],
  (.seq
 (.set 1 (.const (.bool false)))
 (.seq
 (.seq
 (.seq
 .skip
 (.seq
 (.set 3 (.pick (.isnil 0 false (.var 0)) (.const (.bool true)) (.isnil 0 false (.ld none (.offp 36 (.nn (.var 0)))))))
 (.seq
 (.chk [(.pick (.var 3) (.const (.bool false)) (.ld none (.offp 0 (.nn (.var 0))))), (.pick (.var 3) (.const (.bool false)) (.ld none (.offp 36 (.nn (.var 0)))))])
 (.seq
 (.cond (.pick (.var 3) (.const (.bool false)) (.const (.bool true)))
 (.call (some 2) 53 [(.ld none (.offp 36 (.nn (.var 0)))), (.ld none (.offp 0 (.nn (.var 0))))] [])
 (.clr [2]))
 (.seq
 (.set 5 (.pick (.var 3) (.const (.bool true)) (.bin .neq (.var 2) (.const (.int .i64 0)))))
 (.seq
 (.chk [(.pick (.var 5) (.const (.bool false)) (.ld none (.offp 2 (.nn (.var 0)))))])
 (.cond (.pick (.var 5) (.const (.bool false)) (.const (.bool true)))
 (.call (some 4) 61 [(.ld none (.offp 2 (.nn (.var 0)))), (.const (.pointer none))] [])
 (.clr [4]))))))))
 (.cond (.pick (.var 5) (.const (.bool true)) (.var 4))
 (.seq
 (.set 1 (.const (.bool false)))
 .ret)
 .skip))
 (.seq
 (.seq
 .skip
 (.seq
 (.call (some 6) 55 [(.ld none (.offp 36 (.nn (.var 0)))), (.ld none (.offp 1 (.nn (.var 0)))), (.ld none (.offp 2 (.nn (.var 0)))), (.ld none (.offp 35 (.nn (.var 0))))] [])
 (.set 1 (.bin .eql (.var 6) (.const (.int .i64 0))))))
 .ret))),
  [(.var 1)]⟩
theorem okx_26 : FnOk Tryz.prog 3 377 26 xf26 := fnOk_of Tryz.func26 (np := 1) (V := [0, 2, 21, 12, 29, 24, 47]) (ks := []) (by kernel_rfl)

/- tipstaff/gate.New -/
def xf27 : XF := ⟨0, [0, 3, 4, 6, 1, 9, 14, 2, 20],
  (.seq
 (.set 0 (.const (.pointer none)))
 (.seq
 (.seq
 (.call (some 1) 60 [] [])
 (.seq
 (.call (some 2) 62 [] [])
 (.seq
 (.chk [(.upd 1 1 (.upd 0 1 (.const (.agg (Array.replicate 7 (.pointer none)))) (.var 1)) (.var 2))])
 (.seq
 (.new (some 3) 164 (.upd 1 1 (.upd 0 1 (.const (.agg (Array.replicate 7 (.pointer none)))) (.var 1)) (.var 2)))
 (.set 4 (.var 3))))))
 (.seq
 (.seq
 (.chk [(.var 4)])
 (.seq
 (.call (some 5) 63 [(.const (.int .i64 64))] [])
 (.seq
 (.chk [(.proj 1 (.var 5))])
 (.store 1 (.offp 2 (.nn (.var 4))) (.proj 0 (.var 5)) []))))
 (.seq
 (.seq
 (.set 6 (.const (.int .i64 0)))
 (.block 0
 (.loop [4, 6]
 (.seq
 (.cond (.bin .lss (.var 6) (.const (.int .i64 4)))
 .skip
 (.exit 0))
 (.seq
 (.block 1
 (.seq
 (.set 7 (.var 6))
 (.seq
 .skip
 (.seq
 (.chk [(.offp 3 (.nn (.var 4))), (.var 7)])
 (.seq
 (.call (some 8) 41 [(.const (.int .i64 16))] [])
 (.seq
 (.chk [(.proj 1 (.var 8))])
 (.store 1 (.ixArr 4 1 (.offp 3 (.nn (.var 4))) (.var 7)) (.proj 0 (.var 8)) [])))))))
 (.set 6 (.bin .add (.var 6) (.const (.int .i64 1)))))))))
 (.seq
 (.set 0 (.var 4))
 .ret))))),
  [(.var 0)]⟩
theorem okx_27 : FnOk Tryz.prog 3 377 27 xf27 := fnOk_of Tryz.func27 (np := 0) (V := [0, 3, 4, 6, 1, 9, 14, 2, 20]) (ks := [[4, 6]]) (by kernel_rfl)

/- tipstaff/tipstafflaw22.gates -/
def xf28 : XF := ⟨0, [0, 6, 1, 8, 10, 2, 14, 3, 30, 28, 36, 39, 4, 5, 50, 48, 56, 54],
  (.seq
 (.set 0 (.const (.bool false)))
 (.seq
 (.seq
 (.call (some 1) 27 [] [])
 (.set 2 (.var 1)))
 (.seq
 (.seq
 (.chk [(.var 2)])
 (.seq
 (.call (some 3) 32 [] [])
 (.seq
 (.chk [(.upd 8 6 (.upd 1 1 (.const zA18) (.const (.int .i64 12))) (.var 3))])
 (.seq
 (.call (some 4) 29 [(.var 2), (.upd 8 6 (.upd 1 1 (.const zA18) (.const (.int .i64 12))) (.var 3))] [])
 (.seq
 (.new (some 5) 80 (.const zA0))
 (.store 4 (.var 5) (.var 4) []))))))
 (.seq
 (.seq
 (.chk [(.upd 4 4 (.upd 1 1 (.const zA18) (.const (.int .i64 0))) (.upd 3 1 (.upd 2 1 (.upd 1 1 (.upd 0 1 (.const (.agg (Array.replicate 4 (.int .i64 0)))) (.const (.int .i64 1))) (.const (.int .i64 1))) (.const (.int .i64 1))) (.const (.int .i64 1)))), (.upd 3 1 (.upd 2 1 (.upd 1 1 (.upd 0 1 (.const (.agg (Array.replicate 4 (.int .i64 0)))) (.const (.int .i64 1))) (.const (.int .i64 1))) (.const (.int .i64 1))) (.const (.int .i64 1)))])
 (.seq
 (.call (some 6) 29 [(.var 2), (.upd 4 4 (.upd 1 1 (.const zA18) (.const (.int .i64 0))) (.upd 3 1 (.upd 2 1 (.upd 1 1 (.upd 0 1 (.const (.agg (Array.replicate 4 (.int .i64 0)))) (.const (.int .i64 1))) (.const (.int .i64 1))) (.const (.int .i64 1))) (.const (.int .i64 1))))] [])
 (.seq
 (.new (some 7) 80 (.const zA0))
 (.store 4 (.var 7) (.var 6) []))))
 (.seq
 (.seq
 (.seq
 (.set 9 (.pick (.pick (.bin .neq (.ld none (.offp 0 (.var 5))) (.const (.int .i64 0))) (.const (.bool true)) (.bin .neq (.ld none (.offp 0 (.var 7))) (.const (.int .i64 0)))) (.const (.bool true)) (.bin .neq (.ld none (.offp 1 (.var 7))) (.const (.int .i64 1)))))
 (.seq
 (.chk [(.pick (.var 9) (.const (.bool false)) (.var 2))])
 (.cond (.pick (.var 9) (.const (.bool false)) (.const (.bool true)))
 (.call (some 8) 30 [(.var 2)] [])
 (.clr [8]))))
 (.cond (.pick (.var 9) (.const (.bool true)) (.bin .neq (.len false (.var 8)) (.const (.int .i64 2))))
 (.seq
 (.set 0 (.const (.bool false)))
 .ret)
 .skip))
 (.seq
 (.seq
 (.chk [(.upd 1 1 (.const zA18) (.const (.int .i64 8)))])
 (.seq
 (.call (some 10) 29 [(.var 2), (.upd 1 1 (.const zA18) (.const (.int .i64 8)))] [])
 (.seq
 (.chk [(.upd 2 1 (.upd 1 1 (.const zA18) (.const (.int .i64 8))) (.const (.int .i64 1)))])
 (.seq
 (.call (some 11) 29 [(.var 2), (.upd 2 1 (.upd 1 1 (.const zA18) (.const (.int .i64 8))) (.const (.int .i64 1)))] [])
 (.seq
 (.new (some 12) 80 (.const zA0))
 (.seq
 (.new (some 13) 80 (.const zA0))
 (.seq
 (.store 4 (.var 12) (.var 10) [])
 (.store 4 (.var 13) (.var 11) []))))))))
 (.seq
 (.seq
 (.set 15 (.pick (.bin .eql (.ld none (.offp 0 (.var 12))) (.const (.int .i64 0))) (.bin .eql (.ld none (.offp 0 (.var 13))) (.const (.int .i64 0))) (.const (.bool false))))
 (.seq
 (.chk [(.pick (.var 15) (.var 2) (.const (.bool false)))])
 (.seq
 (.cond (.pick (.var 15) (.const (.bool true)) (.const (.bool false)))
 (.call (some 14) 30 [(.var 2)] [])
 (.clr [14]))
 (.seq
 (.set 17 (.pick (.var 15) (.bin .eql (.len false (.var 14)) (.const (.int .i64 0))) (.const (.bool false))))
 (.seq
 (.chk [(.pick (.var 17) (.var 2) (.const (.bool false)))])
 (.seq
 (.cond (.pick (.var 17) (.const (.bool true)) (.const (.bool false)))
 (.call (some 16) 31 [(.var 2)] [])
 (.clr [16]))
 (.set 0 (.pick (.var 17) (.var 16) (.const (.bool false))))))))))
 .ret))))))),
  [(.var 0)]⟩
theorem okx_28 : FnOk Tryz.prog 3 377 28 xf28 := fnOk_of Tryz.func28 (np := 0) (V := [0, 6, 1, 8, 10, 2, 14, 3, 30, 28, 36, 39, 4, 5, 50, 48, 56, 54]) (ks := []) (by kernel_rfl)

/- (*tipstaff/gate.Kernel).Do -/
def xf29 : XF := ⟨2, [0, 1, 4, 3, 17, 19, 20, 26, 27, 34, 35, 39, 40, 46, 47, 53, 54],
  (.seq
 (.seq
 (.new (some 3) 78 (.var 1))
 (.new (some 2) 80 (.const zA0)))
 (.seq
 (.cond (.pick (.pick (.isnil 0 false (.var 0)) (.const (.bool true)) (.bin .lss (.ld none (.offp 0 (.var 3))) (.const (.int .i64 0)))) (.const (.bool true)) (.bin .geq (.ld none (.offp 0 (.var 3))) (.const (.int .i64 4))))
 (.seq
 (.seq
 (.call (some 4) 64 [(.const (.int .i64 22))] [])
 (.store 4 (.var 2) (.var 4) []))
 .ret)
 .skip)
 (.seq
 (.seq
 (.set 5 (.ld none (.offp 1 (.var 3))))
 (.block 0
 (.seq
 (.seq
 (.set 6 (.bin .eql (.var 5) (.const (.int .i64 0))))
 (.cond (.var 6)
 .skip
 (.seq
 (.set 6 (.bin .eql (.var 5) (.const (.int .i64 1))))
 (.cond (.var 6)
 .skip
 (.set 6 (.bin .eql (.var 5) (.const (.int .i64 2))))))))
 (.cond (.var 6)
 (.seq
 (.seq
 (.call (some 7) 65 [(.var 0), (.ld (some 55) (.var 3))] [])
 (.store 4 (.var 2) (.var 7) []))
 .ret)
 (.seq
 (.seq
 (.set 8 (.bin .eql (.var 5) (.const (.int .i64 3))))
 (.cond (.var 8)
 .skip
 (.seq
 (.set 8 (.bin .eql (.var 5) (.const (.int .i64 4))))
 (.cond (.var 8)
 .skip
 (.seq
 (.set 8 (.bin .eql (.var 5) (.const (.int .i64 5))))
 (.cond (.var 8)
 .skip
 (.set 8 (.bin .eql (.var 5) (.const (.int .i64 6))))))))))
 (.cond (.var 8)
 (.seq
 (.seq
 (.call (some 9) 66 [(.var 0), (.ld (some 55) (.var 3))] [])
 (.store 4 (.var 2) (.var 9) []))
 .ret)
 (.seq
 (.set 10 (.bin .eql (.var 5) (.const (.int .i64 7))))
 (.cond (.var 10)
 (.seq
 (.seq
 (.call (some 11) 67 [(.var 0), (.ld (some 55) (.var 3))] [])
 (.store 4 (.var 2) (.var 11) []))
 .ret)
 (.seq
 (.seq
 (.set 12 (.bin .eql (.var 5) (.const (.int .i64 8))))
 (.cond (.var 12)
 .skip
 (.seq
 (.set 12 (.bin .eql (.var 5) (.const (.int .i64 9))))
 (.cond (.var 12)
 .skip
 (.set 12 (.bin .eql (.var 5) (.const (.int .i64 10))))))))
 (.cond (.var 12)
 (.seq
 (.seq
 (.call (some 13) 68 [(.var 0), (.ld (some 55) (.var 3))] [])
 (.store 4 (.var 2) (.var 13) []))
 .ret)
 (.seq
 (.seq
 (.set 14 (.bin .eql (.var 5) (.const (.int .i64 11))))
 (.cond (.var 14)
 .skip
 (.seq
 (.set 14 (.bin .eql (.var 5) (.const (.int .i64 12))))
 (.cond (.var 14)
 .skip
 (.set 14 (.bin .eql (.var 5) (.const (.int .i64 13))))))))
 (.cond (.var 14)
 (.seq
 (.seq
 (.call (some 15) 69 [(.var 0), (.ld (some 55) (.var 3))] [])
 (.store 4 (.var 2) (.var 15) []))
 .ret)
 .skip))))))))))))
 (.seq
 (.seq
 (.call (some 16) 64 [(.const (.int .i64 22))] [])
 (.store 4 (.var 2) (.var 16) []))
 .ret)))),
  [(.ld (some 4) (.var 2))]⟩
theorem okx_29 : FnOk Tryz.prog 3 377 29 xf29 := fnOk_of Tryz.func29 (np := 2) (V := [0, 1, 4, 3, 17, 19, 20, 26, 27, 34, 35, 39, 40, 46, 47, 53, 54]) (ks := []) (by kernel_rfl)

/- (*tipstaff/gate.Kernel).Objects -/
def xf30 : XF := ⟨1, [0, 2, 3, 14, 16, 15, 5, 26, 6, 7, 37, 39, 40, 46, 47],
  (.seq
 (.set 1 (.const (.slice none 0 0)))
 (.seq
 (.cond (.isnil 0 false (.var 0))
 (.seq
 (.set 1 (.const (.slice none 0 0)))
 .ret)
 .skip)
 (.seq
 (.set 2 (.const (.slice none 0 0)))
 (.seq
 (.seq
 (.seq
 (.call (some 3) 70 [(.ld none (.offp 2 (.nn (.var 0))))] [])
 (.seq
 (.set 5 (.len false (.var 3)))
 (.set 4 (.const (.int .i64 0)))))
 (.block 0
 (.loop [0, 2, 3, 4, 5]
 (.seq
 (.cond (.bin .lss (.var 4) (.var 5))
 .skip
 (.exit 0))
 (.seq
 (.block 1
 (.seq
 (.set 6 (.ld none (.ixSl 1 (.var 3) (.var 4))))
 (.seq
 (.seq
 (.call (some 7) 71 [(.ld none (.offp 2 (.nn (.var 0)))), (.var 6)] [])
 (.seq
 (.chk [(.proj 1 (.var 7)), (.proj 0 (.var 7))])
 (.seq
 (.new (some 8) 168 (.const zA6))
 (.seq
 (.store 7 (.var 8) (.proj 0 (.var 7)) [])
 (.set 9 (.proj 1 (.var 7)))))))
 (.seq
 (.cond (.bin .neq (.var 9) (.const (.int .i64 0)))
 (.exit 1)
 .skip)
 (.seq
 (.seq
 .skip
 (.seq
 (.chk [(.var 6), (.ld none (.offp 2 (.nn (.var 0))))])
 (.seq
 (.set 11 (.ld none (.offp 3 (.var 8))))
 (.seq
 (.chk [(.offp 0 (.var 8))])
 (.seq
 (.call (some 10) 72 [(.ld none (.offp 2 (.nn (.var 0)))), (.var 6)] [(.ld none (.offp 3 (.var 8)))])
 (.seq
 (.call (some 12) 73 [(.var 11)] [])
 (.seq
 (.store 1 (.offp 0 (.var 8)) (.var 6) [])
 (.seq
 (.store 1 (.offp 2 (.var 8)) (.var 10) [])
 (.store 1 (.offp 3 (.var 8)) (.var 12) [])))))))))
 (.seq
 (.chk [(.var 2)])
 (.seq
 (.row (some 13) 168 1 (.upd 0 7 (.const zA6) (.ld (some 7) (.var 8))))
 (.seq
 (.app (some 14) 168 7 (.var 2) (.var 13) [])
 (.set 2 (.var 14))))))))))
 (.set 4 (.bin .add (.var 4) (.const (.int .i64 1)))))))))
 (.seq
 (.set 1 (.var 2))
 .ret))))),
  [(.var 1)]⟩
theorem okx_30 : FnOk Tryz.prog 3 377 30 xf30 := fnOk_of Tryz.func30 (np := 1) (V := [0, 2, 3, 14, 16, 15, 5, 26, 6, 7, 37, 39, 40, 46, 47]) (ks := [[0, 2, 3, 4, 5]]) (by kernel_rfl)

/- (*tipstaff/gate.Kernel).Sound -/
def xf31 : XF := ⟨1, [0, 2, 9, 3, 11, 13, 12, 5, 16, 21, 17, 32, 29, 25, 46, 39, 35],
  (.seq
 (.set 1 (.const (.bool false)))
 (.seq
 (.cond (.isnil 0 false (.var 0))
 (.seq
 (.set 1 (.const (.bool false)))
 .ret)
 .skip)
 (.seq
 (.seq
 (.call (some 2) 74 [(.var 0)] [])
 (.set 3 (.var 2)))
 (.seq
 (.seq
 (.seq
 (.call (some 4) 30 [(.var 0)] [])
 (.seq
 (.set 6 (.len false (.var 4)))
 (.set 5 (.const (.int .i64 0)))))
 (.block 0
 (.loop [0, 3, 4, 5, 6]
 (.seq
 (.cond (.bin .lss (.var 5) (.var 6))
 .skip
 (.exit 0))
 (.seq
 (.block 1
 (.seq
 (.seq
 (.set 8 (.ld (some 7) (.ixSl 7 (.var 4) (.var 5))))
 (.seq
 (.new (some 7) 168 (.const zA6))
 (.store 7 (.var 7) (.var 8) [])))
 (.block 2
 (.seq
 (.seq
 (.look (some 9) (.int .i64 0) false .i64 (.var 3) (.ld none (.offp 0 (.var 7))) [])
 (.set 10 (.bin .neq (.var 9) (.ld none (.offp 2 (.var 7))))))
 (.cond (.var 10)
 (.seq
 (.set 1 (.const (.bool false)))
 .ret)
 (.seq
 (.seq
 (.set 12 (.bin .eql (.ld none (.offp 1 (.var 7))) (.const (.int .i64 2))))
 (.seq
 (.chk [(.pick (.var 12) (.ld none (.offp 5 (.var 7))) (.const (.bool false)))])
 (.seq
 (.cond (.pick (.var 12) (.const (.bool true)) (.const (.bool false)))
 (.call (some 11) 26 [(.ld none (.offp 5 (.var 7)))] [])
 (.clr [11]))
 (.set 13 (.pick (.var 12) (.un .not (.var 11)) (.const (.bool false)))))))
 (.cond (.var 13)
 (.seq
 (.set 1 (.const (.bool false)))
 .ret)
 (.seq
 (.seq
 .skip
 (.seq
 (.set 15 (.bin .eql (.ld none (.offp 1 (.var 7))) (.const (.int .i64 3))))
 (.seq
 (.chk [(.pick (.var 15) (.ld none (.offp 6 (.var 7))) (.const (.bool false))), (.pick (.var 15) (.ld none (.offp 0 (.nn (.var 0)))) (.const (.bool false)))])
 (.seq
 (.cond (.pick (.var 15) (.const (.bool true)) (.const (.bool false)))
 (.call (some 14) 75 [(.ld none (.offp 0 (.nn (.var 0)))), (.ld none (.offp 6 (.var 7)))] [])
 (.clr [14]))
 (.set 16 (.pick (.var 15) (.un .not (.var 14)) (.const (.bool false))))))))
 (.cond (.var 16)
 (.seq
 (.set 1 (.const (.bool false)))
 .ret)
 .skip)))))))))
 (.set 5 (.bin .add (.var 5) (.const (.int .i64 1)))))))))
 (.seq
 (.set 1 (.const (.bool true)))
 .ret))))),
  [(.var 1)]⟩
theorem okx_31 : FnOk Tryz.prog 3 377 31 xf31 := fnOk_of Tryz.func31 (np := 1) (V := [0, 2, 9, 3, 11, 13, 12, 5, 16, 21, 17, 32, 29, 25, 46, 39, 35]) (ks := [[0, 3, 4, 5, 6]]) (by kernel_rfl)

/- tipstaff/tipstafflaw22.all -/
def xf32 : XF := ⟨0, [0, 1],
  (.seq
 (.new (some 0) 69 (.const zA4))
 (.seq
 (.seq
 (.call (some 1) 24 [] [])
 (.store 6 (.var 0) (.var 1) []))
 .ret)),
  [(.ld (some 6) (.var 0))]⟩
theorem okx_32 : FnOk Tryz.prog 3 377 32 xf32 := fnOk_of Tryz.func32 (np := 0) (V := [0, 1]) (ks := []) (by kernel_rfl)

/- tipstaff/tipstafflaw22.program -/
def xf33 : XF := ⟨2, [0, 1, 4, 12, 5, 22, 6, 26, 27, 30, 34, 35, 37, 38, 45, 46, 48, 49, 52, 53, 57, 59, 62, 63, 65],
  (.seq
 (.set 2 (.const (.slice none 0 0)))
 (.seq
 (.seq
 (.chk [(.upd 0 1 (.const zA2) (.const (.int .u8 149))), (.upd 4 1 (.upd 0 1 (.const zA2) (.const (.int .u8 183))) (.conv .i32 (.bin .rem (.var 0) (.const (.int .i64 7)))))])
 (.seq
 (.row (some 3) 32 2 (.upd 5 5 (.upd 0 5 (.const zA8) (.upd 4 1 (.upd 0 1 (.const zA2) (.const (.int .u8 183))) (.conv .i32 (.bin .rem (.var 0) (.const (.int .i64 7)))))) (.upd 0 1 (.const zA2) (.const (.int .u8 149)))))
 (.set 4 (.var 3))))
 (.seq
 (.seq
 (.chk [(.upd 4 1 (.upd 1 1 (.upd 0 1 (.const zA2) (.const (.int .u8 7))) (.const (.int .u8 2))) (.const (.int .i32 (-8)))), (.upd 2 1 (.upd 1 1 (.upd 0 1 (.const zA2) (.const (.int .u8 191))) (.const (.int .u8 2))) (.const (.int .u8 10))), (.upd 4 1 (.upd 2 1 (.upd 1 1 (.upd 0 1 (.const zA2) (.const (.int .u8 24))) (.const (.int .u8 1))) (.const (.int .u8 1))) (.var 1)), (.upd 4 1 (.upd 3 1 (.upd 1 1 (.upd 0 1 (.const zA2) (.const (.int .u8 122))) (.const (.int .u8 10))) (.const (.int .i16 (-8)))) (.conv .i32 (.bin .rem (.var 0) (.const (.int .i64 3)))))])
 (.seq
 (.row (some 5) 32 5 (.upd 20 5 (.upd 15 5 (.upd 10 5 (.upd 5 5 (.upd 0 5 (.const zA11) (.upd 4 1 (.upd 3 1 (.upd 1 1 (.upd 0 1 (.const zA2) (.const (.int .u8 122))) (.const (.int .u8 10))) (.const (.int .i16 (-8)))) (.conv .i32 (.bin .rem (.var 0) (.const (.int .i64 3)))))) (.upd 4 1 (.upd 2 1 (.upd 1 1 (.upd 0 1 (.const zA2) (.const (.int .u8 24))) (.const (.int .u8 1))) (.const (.int .u8 1))) (.var 1))) (.const zA2)) (.upd 2 1 (.upd 1 1 (.upd 0 1 (.const zA2) (.const (.int .u8 191))) (.const (.int .u8 2))) (.const (.int .u8 10)))) (.upd 4 1 (.upd 1 1 (.upd 0 1 (.const zA2) (.const (.int .u8 7))) (.const (.int .u8 2))) (.const (.int .i32 (-8))))))
 (.set 6 (.var 5))))
 (.seq
 (.seq
 (.set 7 (.conv .i64 (.bin .rem (.conv .u64 (.var 0)) (.const (.int .u64 6)))))
 (.block 0
 (.seq
 (.set 8 (.bin .eql (.var 7) (.const (.int .i64 0))))
 (.cond (.var 8)
 (.seq
 (.set 2 (.var 4))
 .ret)
 (.seq
 (.set 9 (.bin .eql (.var 7) (.const (.int .i64 1))))
 (.cond (.var 9)
 (.seq
 (.seq
 (.chk [(.upd 4 1 (.upd 0 1 (.const zA2) (.const (.int .u8 133))) (.const (.int .i32 1))), (.var 6)])
 (.seq
 (.row (some 10) 32 1 (.upd 0 5 (.const zA2) (.upd 4 1 (.upd 0 1 (.const zA2) (.const (.int .u8 133))) (.const (.int .i32 1)))))
 (.seq
 (.app (some 11) 32 5 (.var 6) (.var 10) [])
 (.seq
 (.app (some 12) 32 5 (.var 11) (.var 4) [])
 (.set 2 (.var 12))))))
 .ret)
 (.seq
 (.set 13 (.bin .eql (.var 7) (.const (.int .i64 2))))
 (.cond (.var 13)
 (.seq
 (.seq
 (.chk [(.upd 4 1 (.upd 0 1 (.const zA2) (.const (.int .u8 133))) (.const (.int .i32 2))), (.upd 1 1 (.upd 0 1 (.const zA2) (.const (.int .u8 183))) (.const (.int .u8 4))), (.upd 4 1 (.upd 1 1 (.upd 0 1 (.const zA2) (.const (.int .u8 7))) (.const (.int .u8 3))) (.const (.int .i32 (-8)))), (.upd 2 1 (.upd 1 1 (.upd 0 1 (.const zA2) (.const (.int .u8 191))) (.const (.int .u8 3))) (.const (.int .u8 10))), (.var 6)])
 (.seq
 (.row (some 14) 32 4 (.upd 15 5 (.upd 10 5 (.upd 5 5 (.upd 0 5 (.const (.agg #[(.int .u8 0), (.int .u8 0), (.int .u8 0), (.int .i16 0), (.int .i32 0), (.int .u8 0), (.int .u8 0), (.int .u8 0), (.int .i16 0), (.int .i32 0), (.int .u8 0), (.int .u8 0), (.int .u8 0), (.int .i16 0), (.int .i32 0), (.int .u8 0), (.int .u8 0), (.int .u8 0), (.int .i16 0), (.int .i32 0)])) (.upd 2 1 (.upd 1 1 (.upd 0 1 (.const zA2) (.const (.int .u8 191))) (.const (.int .u8 3))) (.const (.int .u8 10)))) (.upd 4 1 (.upd 1 1 (.upd 0 1 (.const zA2) (.const (.int .u8 7))) (.const (.int .u8 3))) (.const (.int .i32 (-8))))) (.upd 1 1 (.upd 0 1 (.const zA2) (.const (.int .u8 183))) (.const (.int .u8 4)))) (.upd 4 1 (.upd 0 1 (.const zA2) (.const (.int .u8 133))) (.const (.int .i32 2)))))
 (.seq
 (.app (some 15) 32 5 (.var 6) (.var 14) [])
 (.seq
 (.app (some 16) 32 5 (.var 15) (.var 4) [])
 (.set 2 (.var 16))))))
 .ret)
 (.seq
 (.set 17 (.bin .eql (.var 7) (.const (.int .i64 3))))
 (.cond (.var 17)
 (.seq
 (.seq
 (.chk [(.upd 0 1 (.const zA2) (.const (.int .u8 149)))])
 (.seq
 (.row (some 18) 32 1 (.upd 0 5 (.const zA2) (.upd 0 1 (.const zA2) (.const (.int .u8 149)))))
 (.set 2 (.var 18))))
 .ret)
 (.seq
 (.set 19 (.bin .eql (.var 7) (.const (.int .i64 4))))
 (.cond (.var 19)
 (.seq
 (.seq
 (.chk [(.upd 3 1 (.upd 2 1 (.upd 1 1 (.upd 0 1 (.const zA2) (.const (.int .u8 123))) (.const (.int .u8 10))) (.const (.int .u8 0))) (.const (.int .i16 (-16)))), (.upd 4 1 (.upd 0 1 (.const zA2) (.const (.int .u8 133))) (.const (.int .i32 7)))])
 (.seq
 (.row (some 20) 32 2 (.upd 5 5 (.upd 0 5 (.const zA8) (.upd 4 1 (.upd 0 1 (.const zA2) (.const (.int .u8 133))) (.const (.int .i32 7)))) (.upd 3 1 (.upd 2 1 (.upd 1 1 (.upd 0 1 (.const zA2) (.const (.int .u8 123))) (.const (.int .u8 10))) (.const (.int .u8 0))) (.const (.int .i16 (-16))))))
 (.seq
 (.app (some 21) 32 5 (.var 20) (.var 4) [])
 (.set 2 (.var 21)))))
 .ret)
 .skip))))))))))))
 (.seq
 (.seq
 (.chk [(.upd 4 1 (.upd 0 1 (.const zA2) (.const (.int .u8 133))) (.const (.int .i32 3))), (.var 6)])
 (.seq
 (.row (some 22) 32 1 (.upd 0 5 (.const zA2) (.upd 4 1 (.upd 0 1 (.const zA2) (.const (.int .u8 133))) (.const (.int .i32 3)))))
 (.seq
 (.app (some 23) 32 5 (.var 6) (.var 22) [])
 (.seq
 (.app (some 24) 32 5 (.var 23) (.var 4) [])
 (.set 2 (.var 24))))))
 .ret))))),
  [(.var 2)]⟩
theorem okx_33 : FnOk Tryz.prog 3 377 33 xf33 := fnOk_of Tryz.func33 (np := 2) (V := [0, 1, 4, 12, 5, 22, 6, 26, 27, 30, 34, 35, 37, 38, 45, 46, 48, 49, 52, 53, 57, 59, 62, 63, 65]) (ks := []) (by kernel_rfl)

/- (*tipstaff/gate.Kernel).Fds -/
def xf34 : XF := ⟨2, [0, 1, 4, 5, 26, 28, 27, 7, 40, 8, 9, 49, 50],
  (.seq
 (.set 2 (.const (.slice none 0 0)))
 (.seq
 (.cond (.pick (.pick (.isnil 0 false (.var 0)) (.const (.bool true)) (.bin .lss (.var 1) (.const (.int .i64 0)))) (.const (.bool true)) (.bin .geq (.var 1) (.const (.int .i64 4))))
 (.seq
 (.set 2 (.const (.slice none 0 0)))
 .ret)
 .skip)
 (.seq
 (.set 3 (.const (.slice none 0 0)))
 (.seq
 (.seq
 (.seq
 (.call (some 4) 76 [(.ld none (.ixArr 4 1 (.offp 3 (.nn (.var 0))) (.var 1)))] [])
 (.seq
 (.set 6 (.len false (.var 4)))
 (.set 5 (.const (.int .i64 0)))))
 (.block 0
 (.loop [0, 1, 3, 4, 5, 6]
 (.seq
 (.cond (.bin .lss (.var 5) (.var 6))
 .skip
 (.exit 0))
 (.seq
 (.block 1
 (.seq
 (.set 7 (.ld none (.ixSl 1 (.var 4) (.var 5))))
 (.seq
 (.seq
 (.call (some 8) 43 [(.ld none (.ixArr 4 1 (.offp 3 (.nn (.var 0))) (.var 1))), (.var 7)] [])
 (.seq
 (.chk [(.proj 1 (.var 8))])
 (.seq
 (.set 9 (.proj 0 (.var 8)))
 (.set 10 (.proj 1 (.var 8))))))
 (.cond (.bin .eql (.var 10) (.const (.int .i64 0)))
 (.seq
 (.chk [(.upd 1 1 (.upd 0 1 (.const (.agg #[(.int .i64 0), (.int .i64 0)])) (.var 7)) (.var 9)), (.var 3)])
 (.seq
 (.row (some 11) 178 1 (.upd 0 2 (.const (.agg #[(.int .i64 0), (.int .i64 0)])) (.upd 1 1 (.upd 0 1 (.const (.agg #[(.int .i64 0), (.int .i64 0)])) (.var 7)) (.var 9))))
 (.seq
 (.app (some 12) 178 2 (.var 3) (.var 11) [])
 (.set 3 (.var 12)))))
 .skip))))
 (.set 5 (.bin .add (.var 5) (.const (.int .i64 1)))))))))
 (.seq
 (.set 2 (.var 3))
 .ret))))),
  [(.var 2)]⟩
theorem okx_34 : FnOk Tryz.prog 3 377 34 xf34 := fnOk_of Tryz.func34 (np := 2) (V := [0, 1, 4, 5, 26, 28, 27, 7, 40, 8, 9, 49, 50]) (ks := [[0, 1, 3, 4, 5, 6]]) (by kernel_rfl)

/- tipstaff/bmap.Check -/
def xf37 : XF := ⟨1, [0, 2, 1, 6, 10, 3, 13, 14, 22, 29, 31, 40, 46],
  (.seq
 (.seq
 (.new (some 2) 24 (.var 0))
 (.set 1 (.const (.int .i64 0))))
 (.seq
 (.seq
 (.call (some 3) 79 [(.ld none (.offp 2 (.var 2))), (.const (.int .i64 1)), (.const (.int .i64 64))] [])
 (.seq
 (.chk [(.pick (.var 3) (.ld none (.offp 3 (.var 2))) (.const (.bool false)))])
 (.seq
 (.cond (.pick (.var 3) (.const (.bool true)) (.const (.bool false)))
 (.call (some 4) 79 [(.ld none (.offp 3 (.var 2))), (.const (.int .i64 1)), (.const (.int .i64 64))] [])
 (.clr [4]))
 (.set 5 (.pick (.var 3) (.var 4) (.const (.bool false)))))))
 (.seq
 (.seq
 (.set 6 (.ld none (.offp 0 (.var 2))))
 (.block 0
 (.seq
 (.set 7 (.bin .eql (.var 6) (.const (.int .i64 0))))
 (.cond (.var 7)
 (.set 5 (.pick (.var 5) (.bin .eql (.ld none (.offp 1 (.var 2))) (.const (.int .i64 4))) (.const (.bool false))))
 (.seq
 (.seq
 (.set 8 (.bin .eql (.var 6) (.const (.int .i64 1))))
 (.cond (.var 8)
 .skip
 (.set 8 (.bin .eql (.var 6) (.const (.int .i64 2))))))
 (.cond (.var 8)
 (.seq
 (.chk [(.pick (.var 5) (.ld none (.offp 1 (.var 2))) (.const (.bool false)))])
 (.seq
 (.cond (.pick (.var 5) (.const (.bool true)) (.const (.bool false)))
 (.call (some 9) 79 [(.ld none (.offp 1 (.var 2))), (.const (.int .i64 1)), (.const (.int .i64 16))] [])
 (.clr [9]))
 (.set 5 (.pick (.var 5) (.var 9) (.const (.bool false))))))
 (.seq
 (.seq
 (.set 10 (.bin .eql (.var 6) (.const (.int .i64 3))))
 (.cond (.var 10)
 .skip
 (.set 10 (.bin .eql (.var 6) (.const (.int .i64 4))))))
 (.cond (.var 10)
 (.set 5 (.pick (.var 5) (.bin .eql (.ld none (.offp 1 (.var 2))) (.const (.int .i64 0))) (.const (.bool false))))
 (.seq
 (.set 11 (.bin .eql (.var 6) (.const (.int .i64 5))))
 (.cond (.var 11)
 (.seq
 (.chk [(.pick (.var 5) (.ld none (.offp 1 (.var 2))) (.const (.bool false)))])
 (.seq
 (.cond (.pick (.var 5) (.const (.bool true)) (.const (.bool false)))
 (.call (some 12) 79 [(.ld none (.offp 1 (.var 2))), (.const (.int .i64 5)), (.const (.int .i64 16))] [])
 (.clr [12]))
 (.set 5 (.pick (.var 5) (.var 12) (.const (.bool false))))))
 (.set 5 (.const (.bool false)))))))))))))
 (.seq
 (.cond (.un .not (.var 5))
 (.seq
 (.set 1 (.const (.int .i64 22)))
 .ret)
 .skip)
 (.seq
 (.set 1 (.const (.int .i64 0)))
 .ret))))),
  [(.var 1)]⟩
theorem okx_37 : FnOk Tryz.prog 3 377 37 xf37 := fnOk_of Tryz.func37 (np := 1) (V := [0, 2, 1, 6, 10, 3, 13, 14, 22, 29, 31, 40, 46]) (ks := []) (by kernel_rfl)

/- tipstaff/digest.Sum -/
def xf40 : XF := ⟨1, [0, 2, 7, 9, 3, 11, 12, 18, 19, 25, 26, 4, 27, 5, 36, 6],
  (.seq
 (.new (some 1) 49 (.const (.agg (Array.replicate 32 (.int .u8 0)))))
 (.seq
 (.seq
 (.row (some 2) 5 0 (.const (.agg #[])))
 (.seq
 (.app (some 3) 5 1 (.var 2) (.var 0) [])
 (.set 4 (.var 3))))
 (.seq
 (.seq
 (.chk [(.var 4)])
 (.seq
 (.row (some 5) 5 1 (.upd 0 1 (.const (.agg #[(.int .u8 0)])) (.const (.int .u8 128))))
 (.seq
 (.app (some 6) 5 1 (.var 4) (.var 5) [])
 (.set 4 (.var 6)))))
 (.seq
 (.block 0
 (.loop [0, 1, 4]
 (.seq
 (.cond (.bin .neq (.bin .rem (.len false (.var 4)) (.const (.int .i64 64))) (.const (.int .i64 56)))
 .skip
 (.exit 0))
 (.block 1
 (.seq
 (.chk [(.var 4)])
 (.seq
 (.row (some 7) 5 1 (.upd 0 1 (.const (.agg #[(.int .u8 0)])) (.const (.int .u8 0))))
 (.seq
 (.app (some 8) 5 1 (.var 4) (.var 7) [])
 (.set 4 (.var 8)))))))))
 (.seq
 (.seq
 (.chk [(.var 4)])
 (.seq
 (.call (some 9) 80 [(.bin .mul (.const (.int .u64 8)) (.conv .u64 (.len false (.var 0))))] [])
 (.seq
 (.app (some 10) 5 1 (.var 4) (.var 9) [])
 (.set 4 (.var 10)))))
 (.seq
 (.seq
 (.set 12 (.ld (some 8) (.const (.pointer (some ⟨0, 0, none⟩)))))
 (.seq
 (.new (some 11) 184 (.const (.agg (Array.replicate 8 (.int .u32 0)))))
 (.store 8 (.var 11) (.var 12) [])))
 (.seq
 (.block 2
 (.loop [1, 4, 11]
 (.seq
 (.cond (.bin .gtr (.len false (.var 4)) (.const (.int .i64 0)))
 .skip
 (.exit 2))
 (.seq
 (.block 3
 (.call none 81 [(.var 11), (.slSl 1 (.var 4) (.const (.int .i64 0)) (.const (.int .i64 64)))] []))
 (.set 4 (.slSl 1 (.var 4) (.const (.int .i64 64)) (.len false (.var 4))))))))
 (.seq
 (.new (some 13) 49 (.const (.agg (Array.replicate 32 (.int .u8 0)))))
 (.seq
 (.seq
 (.set 14 (.const (.int .i64 0)))
 (.block 4
 (.loop [1, 11, 13, 14]
 (.seq
 (.cond (.bin .lss (.var 14) (.const (.int .i64 32)))
 .skip
 (.exit 4))
 (.seq
 (.block 5
 (.seq
 (.set 15 (.var 14))
 (.store 1 (.ixArr 32 1 (.var 13) (.var 15)) (.conv .u8 (.bin .shr (.ld none (.ixArr 8 1 (.var 11) (.bin .quo (.var 15) (.const (.int .i64 4))))) (.bin .sub (.const (.int .i64 24)) (.bin .mul (.const (.int .i64 8)) (.bin .rem (.var 15) (.const (.int .i64 4))))))) [])))
 (.set 14 (.bin .add (.var 14) (.const (.int .i64 1)))))))))
 (.seq
 (.store 32 (.var 1) (.ld (some 32) (.var 13)) [])
 .ret)))))))))),
  [(.ld (some 32) (.var 1))]⟩
theorem okx_40 : FnOk Tryz.prog 3 377 40 xf40 := fnOk_of Tryz.func40 (np := 1) (V := [0, 2, 7, 9, 3, 11, 12, 18, 19, 25, 26, 4, 27, 5, 36, 6]) (ks := [[0, 1, 4], [1, 4, 11], [1, 11, 13, 14]]) (by kernel_rfl)

/- tipstaff/fdtab.New -/
def xf41 : XF := ⟨1, [0, 2, 3, 11, 13],
  (.seq
 (.seq
 (.set 1 (.const (.pointer none)))
 (.set 2 (.const (.int .i64 0))))
 (.seq
 (.cond (.pick (.bin .lss (.var 0) (.const (.int .i64 1))) (.const (.bool true)) (.bin .gtr (.var 0) (.const (.int .i64 16))))
 (.seq
 (.seq
 (.set 1 (.const (.pointer none)))
 (.set 2 (.const (.int .i64 22))))
 .ret)
 .skip)
 (.seq
 (.seq
 (.mk (some 3) 3 [(.int .i64 0)] (.var 0) (.var 0) [])
 (.seq
 (.chk [(.upd 0 1 (.const (.agg #[(.slice none 0 0)])) (.var 3))])
 (.seq
 (.new (some 4) 187 (.upd 0 1 (.const (.agg #[(.slice none 0 0)])) (.var 3)))
 (.seq
 (.set 1 (.var 4))
 (.set 2 (.const (.int .i64 0)))))))
 .ret))),
  [(.var 1), (.var 2)]⟩
theorem okx_41 : FnOk Tryz.prog 3 377 41 xf41 := fnOk_of Tryz.func41 (np := 1) (V := [0, 2, 3, 11, 13]) (ks := []) (by kernel_rfl)

/- (*tipstaff/fdtab.Table).Open -/
def xf42 : XF := ⟨2, [0, 1, 4, 5, 17, 6],
  (.seq
 (.seq
 (.set 2 (.const (.int .i64 0)))
 (.set 3 (.const (.int .i64 0))))
 (.seq
 (.cond (.pick (.isnil 0 false (.var 0)) (.const (.bool true)) (.bin .leq (.var 1) (.const (.int .i64 0))))
 (.seq
 (.seq
 (.set 2 (.const (.int .i64 0)))
 (.set 3 (.const (.int .i64 22))))
 .ret)
 .skip)
 (.seq
 (.seq
 (.call (some 4) 82 [(.ld none (.offp 0 (.nn (.var 0)))), (.const (.int .i64 0))] [])
 (.set 5 (.var 4)))
 (.seq
 (.cond (.bin .lss (.var 5) (.const (.int .i64 0)))
 (.seq
 (.seq
 (.set 2 (.const (.int .i64 0)))
 (.set 3 (.const (.int .i64 24))))
 .ret)
 .skip)
 (.seq
 (.store 1 (.ixSl 1 (.ld none (.offp 0 (.nn (.var 0)))) (.var 5)) (.var 1) [])
 (.seq
 (.seq
 (.set 2 (.var 5))
 (.set 3 (.const (.int .i64 0))))
 .ret)))))),
  [(.var 2), (.var 3)]⟩
theorem okx_42 : FnOk Tryz.prog 3 377 42 xf42 := fnOk_of Tryz.func42 (np := 2) (V := [0, 1, 4, 5, 17, 6]) (ks := []) (by kernel_rfl)

/- (*tipstaff/fdtab.Table).Get -/
def xf43 : XF := ⟨2, [0, 1, 4, 5, 6, 9],
  (.seq
 (.seq
 (.set 2 (.const (.int .i64 0)))
 (.set 3 (.const (.int .i64 0))))
 (.seq
 (.block 0
 (.seq
 (.set 4 (.isnil 0 false (.var 0)))
 (.cond (.var 4)
 (.seq
 (.seq
 (.set 2 (.const (.int .i64 0)))
 (.set 3 (.const (.int .i64 22))))
 .ret)
 (.seq
 (.set 5 (.pick (.pick (.bin .lss (.var 1) (.const (.int .i64 0))) (.const (.bool true)) (.bin .geq (.var 1) (.len false (.ld none (.offp 0 (.nn (.var 0))))))) (.const (.bool true)) (.bin .eql (.ld none (.ixSl 1 (.ld none (.offp 0 (.nn (.var 0)))) (.var 1))) (.const (.int .i64 0)))))
 (.cond (.var 5)
 (.seq
 (.seq
 (.set 2 (.const (.int .i64 0)))
 (.set 3 (.const (.int .i64 9))))
 .ret)
 .skip)))))
 (.seq
 (.seq
 (.set 2 (.ld none (.ixSl 1 (.ld none (.offp 0 (.nn (.var 0)))) (.var 1))))
 (.set 3 (.const (.int .i64 0))))
 .ret))),
  [(.var 2), (.var 3)]⟩
theorem okx_43 : FnOk Tryz.prog 3 377 43 xf43 := fnOk_of Tryz.func43 (np := 2) (V := [0, 1, 4, 5, 6, 9]) (ks := []) (by kernel_rfl)

/- tipstaff/cfg.Check -/
def xf44 : XF := ⟨2, [0, 1, 4, 5, 11, 6, 7, 19, 20, 8, 28],
  (.seq
 (.seq
 (.set 2 (.const (.int .i64 0)))
 (.set 3 (.const (.int .i64 0))))
 (.seq
 (.seq
 (.seq
 (.call (some 4) 83 [(.var 0)] [])
 (.seq
 (.chk [(.proj 1 (.var 4))])
 (.seq
 (.set 5 (.proj 0 (.var 4)))
 (.set 6 (.proj 1 (.var 4))))))
 (.cond (.bin .neq (.var 6) (.const (.int .i64 0)))
 (.seq
 (.seq
 (.chk [(.var 6)])
 (.seq
 (.set 2 (.var 5))
 (.set 3 (.var 6))))
 .ret)
 .skip))
 (.seq
 (.seq
 (.seq
 (.call (some 7) 85 [(.var 0)] [])
 (.seq
 (.call (some 8) 84 [(.var 7), (.const (.bool false))] [])
 (.set 9 (.var 8))))
 (.cond (.bin .geq (.var 9) (.const (.int .i64 0)))
 (.seq
 (.seq
 (.set 2 (.var 9))
 (.set 3 (.const (.int .i64 22))))
 .ret)
 .skip))
 (.seq
 (.seq
 (.seq
 (.chk [(.pick (.un .not (.var 1)) (.var 0) (.const (.bool false)))])
 (.cond (.pick (.un .not (.var 1)) (.const (.bool true)) (.const (.bool false)))
 (.call (some 10) 86 [(.var 0)] [])
 (.clr [10])))
 (.cond (.pick (.un .not (.var 1)) (.var 10) (.const (.bool false)))
 (.seq
 (.seq
 (.set 2 (.const (.int .i64 0)))
 (.set 3 (.const (.int .i64 22))))
 .ret)
 .skip))
 (.seq
 (.seq
 (.set 2 (.const (.int .i64 0)))
 (.set 3 (.const (.int .i64 0))))
 .ret))))),
  [(.var 2), (.var 3)]⟩
theorem okx_44 : FnOk Tryz.prog 3 377 44 xf44 := fnOk_of Tryz.func44 (np := 2) (V := [0, 1, 4, 5, 11, 6, 7, 19, 20, 8, 28]) (ks := []) (by kernel_rfl)

/- slices.ContainsFunc[[]tipstaff/bmap.Spec,tipstaff/bmap.Spec] -/
def xf45 : XF := ⟨2, [0, 1, 4, 7],
  (.seq
 (.set 2 (.const (.bool false)))
 (.seq
 (.seq
 (.call (some 3) 87 [(.var 0), (.var 1)] [])
 (.set 2 (.bin .geq (.var 3) (.const (.int .i64 0)))))
 .ret)),
  [(.var 2)]⟩
theorem okx_45 : FnOk Tryz.prog 3 377 45 xf45 := fnOk_of Tryz.func45 (np := 2) (V := [0, 1, 4, 7]) (ks := []) (by kernel_rfl)

/- tipstaff/verify.Check$1 -/
def xf46 : XF := ⟨1, [0, 2, 1, 4],
  (.seq
 (.seq
 (.new (some 2) 24 (.var 0))
 (.set 1 (.const (.bool false))))
 (.seq
 (.seq
 (.call (some 3) 37 [(.ld (some 4) (.var 2))] [])
 (.set 1 (.bin .neq (.var 3) (.const (.int .i64 0)))))
 .ret)),
  [(.var 1)]⟩
theorem okx_46 : FnOk Tryz.prog 3 377 46 xf46 := fnOk_of Tryz.func46 (np := 1) (V := [0, 2, 1, 4]) (ks := []) (by kernel_rfl)

/- tipstaff/absreg.Start -/
def xf47 : XF := ⟨0, [0, 1],
  (.seq
 (.new (some 0) 129 (.const zA22))
 (.seq
 (.new (some 1) 129 (.const zA22))
 (.seq
 (.seq
 (.chk [(.upd 0 1 (.const zA9) (.const (.int .i64 2)))])
 (.store 11 (.ixArr 11 11 (.offp 0 (.var 1)) (.const (.int .i64 1))) (.upd 0 1 (.const zA9) (.const (.int .i64 2))) []))
 (.seq
 (.seq
 (.chk [(.upd 0 1 (.const zA9) (.const (.int .i64 3)))])
 (.store 11 (.ixArr 11 11 (.offp 0 (.var 1)) (.const (.int .i64 10))) (.upd 0 1 (.const zA9) (.const (.int .i64 3))) []))
 (.seq
 (.store 273 (.var 0) (.ld (some 273) (.var 1)) [])
 .ret))))),
  [(.ld (some 273) (.var 0))]⟩
theorem okx_47 : FnOk Tryz.prog 3 377 47 xf47 := fnOk_of Tryz.func47 (np := 0) (V := [0, 1]) (ks := []) (by kernel_rfl)

/- (*tipstaff/verify.checker).run -/
def xf48 : XF := ⟨2, [0, 1, 4, 5, 6, 7, 8, 29, 41, 61, 63, 64, 65, 52, 54, 58, 60, 71, 9, 10, 86],
  (.seq
 (.seq
 (.new (some 2) 37 (.const (.agg #[(.int .i64 0), (.int .i64 0)])))
 (.set 3 (.const (.int .i64 0))))
 (.seq
 (.set 4 (.const (.int .i64 0)))
 (.seq
 (.block 0
 (.loop [0, 1, 2, 4]
 (.seq
 (.cond (.bin .gtr (.len false (.ld none (.offp 4 (.nn (.var 0))))) (.const (.int .i64 0)))
 .skip
 (.exit 0))
 (.block 1
 (.seq
 (.set 5 (.bin .sub (.len false (.ld none (.offp 4 (.nn (.var 0))))) (.const (.int .i64 1))))
 (.seq
 (.seq
 (.set 7 (.ld (some 274) (.ixSl 274 (.ld none (.offp 4 (.nn (.var 0)))) (.var 5))))
 (.seq
 (.new (some 6) 132 (.const zA23))
 (.store 274 (.var 6) (.var 7) [])))
 (.seq
 (.store 1 (.offp 4 (.nn (.var 0))) (.slSl 274 (.ld none (.offp 4 (.nn (.var 0)))) (.const (.int .i64 0)) (.var 5)) [])
 (.seq
 (.seq
 (.call (some 8) 88 [(.var 0), (.ld (some 274) (.var 6))] [])
 (.cond (.var 8)
 (.exit 1)
 .skip))
 (.seq
 (.cond (.bin .eql (.var 4) (.var 1))
 (.seq
 (.seq
 (.chk [(.upd 1 1 (.upd 0 1 (.const (.agg #[(.int .i64 0), (.int .i64 0)])) (.ld none (.offp 0 (.var 6)))) (.var 4))])
 (.seq
 (.store 2 (.var 2) (.upd 1 1 (.upd 0 1 (.const (.agg #[(.int .i64 0), (.int .i64 0)])) (.ld none (.offp 0 (.var 6)))) (.var 4)) [])
 (.set 3 (.const (.int .i64 7)))))
 .ret)
 .skip)
 (.seq
 (.seq
 .skip
 (.seq
 (.set 13 (.ld none (.offp 5 (.nn (.var 0)))))
 (.seq
 (.set 14 (.ld none (.offp 0 (.var 6))))
 (.seq
 (.set 15 (.ld none (.offp 5 (.nn (.var 0)))))
 (.seq
 (.set 16 (.ld none (.offp 0 (.var 6))))
 (.seq
 (.set 10 (.ld (some 273) (.offp 1 (.var 6))))
 (.seq
 (.resv 1)
 (.seq
 (.seq
 (.set 11 (.const (.bool true)))
 .skip)
 (.seq
 (.chk [(.var 11)])
 (.seq
 (.clr [11])
 (.seq
 (.chk [(.upd 0 273 (.const zA22) (.var 10))])
 (.seq
 (.look (some 9) (.slice none 0 0) false .i64 (.var 15) (.var 16) [(.ld (some 273) (.offp 1 (.var 6))), (.ld none (.offp 0 (.var 6))), (.ld none (.offp 5 (.nn (.var 0)))), (.ld none (.offp 0 (.var 6))), (.ld none (.offp 5 (.nn (.var 0))))])
 (.seq
 (.rowR 0 11 129 1 (.upd 0 273 (.const zA22) (.var 10)))
 (.seq
 (.app (some 12) 129 273 (.var 9) (.var 11) [(.ld none (.offp 0 (.var 6))), (.ld none (.offp 5 (.nn (.var 0))))])
 (.seq
 (.upd .i64 (.var 13) (.var 14) (.var 12) [])
 .skip)))))))))))))))
 (.seq
 (.set 4 (.bin .add (.var 4) (.const (.int .i64 1))))
 (.seq
 (.seq
 (.call (some 17) 89 [(.var 0), (.ld (some 274) (.var 6))] [])
 (.seq
 (.chk [(.proj 1 (.var 17))])
 (.seq
 (.set 18 (.proj 0 (.var 17)))
 (.set 19 (.proj 1 (.var 17))))))
 (.seq
 (.cond (.un .not (.var 19))
 (.seq
 (.seq
 (.chk [(.upd 1 1 (.upd 0 1 (.const (.agg #[(.int .i64 0), (.int .i64 0)])) (.ld none (.offp 0 (.var 6)))) (.var 4))])
 (.seq
 (.store 2 (.var 2) (.upd 1 1 (.upd 0 1 (.const (.agg #[(.int .i64 0), (.int .i64 0)])) (.ld none (.offp 0 (.var 6)))) (.var 4)) [])
 (.set 3 (.const (.int .i64 13)))))
 .ret)
 .skip)
 (.seq
 (.app (some 20) 132 274 (.ld none (.offp 4 (.nn (.var 0)))) (.var 18) [])
 (.store 1 (.offp 4 (.nn (.var 0))) (.var 20) [])))))))))))))))
 (.seq
 (.seq
 (.chk [(.upd 1 1 (.upd 0 1 (.const (.agg #[(.int .i64 0), (.int .i64 0)])) (.const (.int .i64 0))) (.var 4))])
 (.seq
 (.store 2 (.var 2) (.upd 1 1 (.upd 0 1 (.const (.agg #[(.int .i64 0), (.int .i64 0)])) (.const (.int .i64 0))) (.var 4)) [])
 (.set 3 (.const (.int .i64 0)))))
 .ret)))),
  [(.ld (some 2) (.var 2)), (.var 3)]⟩
theorem okx_48 : FnOk Tryz.prog 3 377 48 xf48 := fnOk_of Tryz.func48 (np := 2) (V := [0, 1, 4, 5, 6, 7, 8, 29, 41, 61, 63, 64, 65, 52, 54, 58, 60, 71, 9, 10, 86]) (ks := [[0, 1, 2, 4]]) (by kernel_rfl)

/- tipstaff/token.Program -/
def xf53 : XF := ⟨2, [0, 1, 4, 6, 9],
  (.seq
 (.set 2 (.const (.int .i64 0)))
 (.seq
 (.seq
 (.call (some 3) 105 [(.var 0)] [])
 (.seq
 (.call (some 4) 104 [(.part none 1 (.var 3)), (.var 1)] [])
 (.set 2 (.var 4))))
 .ret)),
  [(.var 2)]⟩
theorem okx_53 : FnOk Tryz.prog 3 377 53 xf53 := fnOk_of Tryz.func53 (np := 2) (V := [0, 1, 4, 6, 9]) (ks := []) (by kernel_rfl)

/- tipstaff/loader.slotted -/
def xf54 : XF := ⟨2, [0, 1, 4, 5, 6, 2, 16, 7, 8, 9, 20, 33, 25, 10, 38, 37, 36, 12, 44, 45, 46, 51],
  (.seq
 (.seq
 (.new (some 5) 64 (.var 0))
 (.seq
 (.set 2 (.const (.slice none 0 0)))
 (.seq
 (.new (some 3) 49 (.const (.agg (Array.replicate 32 (.int .u8 0)))))
 (.set 4 (.const (.int .i64 0))))))
 (.seq
 (.seq
 (.call (some 6) 106 [(.ld none (.offp 1 (.var 5)))] [])
 (.seq
 (.chk [(.proj 2 (.var 6)), (.proj 1 (.var 6))])
 (.seq
 (.set 7 (.proj 0 (.var 6)))
 (.seq
 (.set 8 (.proj 1 (.var 6)))
 (.set 9 (.proj 2 (.var 6)))))))
 (.seq
 (.block 0
 (.seq
 (.set 10 (.bin .neq (.var 9) (.const (.int .i64 0))))
 (.cond (.var 10)
 (.seq
 (.seq
 (.chk [(.var 9)])
 (.seq
 (.set 2 (.const (.slice none 0 0)))
 (.seq
 (.store 32 (.var 3) (.const (.agg (Array.replicate 32 (.int .u8 0)))) [])
 (.set 4 (.var 9)))))
 .ret)
 (.seq
 (.seq
 (.chk [(.pick (.bin .neq (.len false (.var 8)) (.len false (.var 1))) (.const (.bool false)) (.var 1))])
 (.seq
 (.cond (.pick (.bin .neq (.len false (.var 8)) (.len false (.var 1))) (.const (.bool false)) (.const (.bool true)))
 (.call (some 11) 61 [(.var 1), (.const (.pointer none))] [])
 (.clr [11]))
 (.set 12 (.pick (.bin .neq (.len false (.var 8)) (.len false (.var 1))) (.const (.bool true)) (.var 11)))))
 (.cond (.var 12)
 (.seq
 (.seq
 (.set 2 (.const (.slice none 0 0)))
 (.seq
 (.store 32 (.var 3) (.const (.agg (Array.replicate 32 (.int .u8 0)))) [])
 (.set 4 (.const (.int .i64 22)))))
 .ret)
 .skip)))))
 (.seq
 (.set 13 (.const (.slice none 0 0)))
 (.seq
 (.seq
 (.seq
 (.set 16 (.var 1))
 (.seq
 (.set 15 (.len false (.var 16)))
 (.set 14 (.const (.int .i64 0)))))
 (.block 1
 (.loop [3, 7, 13, 14, 15, 16]
 (.seq
 (.cond (.bin .lss (.var 14) (.var 15))
 .skip
 (.exit 1))
 (.seq
 (.block 2
 (.seq
 (.set 17 (.ld none (.ixSl 1 (.var 16) (.var 14))))
 (.seq
 (.chk [(.var 13)])
 (.seq
 (.call (some 18) 107 [(.var 17)] [])
 (.seq
 (.row (some 19) 49 1 (.upd 0 32 (.const (.agg (Array.replicate 32 (.int .u8 0)))) (.var 18)))
 (.seq
 (.app (some 20) 49 32 (.var 13) (.var 19) [])
 (.set 13 (.var 20))))))))
 (.set 14 (.bin .add (.var 14) (.const (.int .i64 1)))))))))
 (.seq
 (.seq
 (.call (some 21) 108 [(.var 7), (.var 13)] [])
 (.seq
 (.set 2 (.var 7))
 (.seq
 (.store 32 (.var 3) (.var 21) [])
 (.set 4 (.const (.int .i64 0))))))
 .ret)))))),
  [(.var 2), (.ld (some 32) (.var 3)), (.var 4)]⟩
theorem okx_54 : FnOk Tryz.prog 3 377 54 xf54 := fnOk_of Tryz.func54 (np := 2) (V := [0, 1, 4, 5, 6, 2, 16, 7, 8, 9, 20, 33, 25, 10, 38, 37, 36, 12, 44, 45, 46, 51]) (ks := [[3, 7, 13, 14, 15, 16]]) (by kernel_rfl)

/- tipstaff/loader.may -/
def xf55 : XF := ⟨4, [0, 1, 2, 3, 8, 16, 18, 17, 10, 24, 11, 31, 30, 29, 13, 37, 39, 14],
  (.seq
 (.set 4 (.const (.int .i64 0)))
 (.seq
 (.seq
 (.seq
 (.call (some 5) 109 [(.var 1)] [])
 (.seq
 (.set 7 (.len false (.var 5)))
 (.set 6 (.const (.int .i64 0)))))
 (.block 0
 (.loop [0, 2, 3, 5, 6, 7]
 (.seq
 (.cond (.bin .lss (.var 6) (.var 7))
 .skip
 (.exit 0))
 (.seq
 (.block 1
 (.seq
 (.set 8 (.ld none (.ixSl 1 (.var 5) (.var 6))))
 (.seq
 (.seq
 (.call (some 9) 110 [(.var 0), (.var 8)] [])
 (.set 10 (.var 9)))
 (.cond (.bin .neq (.var 10) (.const (.int .i64 0)))
 (.seq
 (.set 4 (.var 10))
 .ret)
 .skip))))
 (.set 6 (.bin .add (.var 6) (.const (.int .i64 1)))))))))
 (.seq
 (.seq
 (.seq
 (.set 13 (.var 2))
 (.seq
 (.set 12 (.len false (.var 13)))
 (.set 11 (.const (.int .i64 0)))))
 (.block 2
 (.loop [0, 3, 11, 12, 13]
 (.seq
 (.cond (.bin .lss (.var 11) (.var 12))
 .skip
 (.exit 2))
 (.seq
 (.block 3
 (.seq
 (.set 14 (.ld none (.ixSl 1 (.var 13) (.var 11))))
 (.seq
 (.seq
 (.chk [(.var 0)])
 (.seq
 (.call (some 15) 112 [(.var 14)] [])
 (.seq
 (.call (some 16) 111 [(.var 0), (.part none 0 (.var 15))] [])
 (.set 17 (.var 16)))))
 (.cond (.bin .neq (.var 17) (.const (.int .i64 0)))
 (.seq
 (.set 4 (.var 17))
 .ret)
 .skip))))
 (.set 11 (.bin .add (.var 11) (.const (.int .i64 1)))))))))
 (.seq
 (.cond (.pick (.var 3) (.un .not (.ld none (.offp 4 (.offp 1 (.nn (.var 0)))))) (.const (.bool false)))
 (.seq
 (.set 4 (.const (.int .i64 1)))
 .ret)
 .skip)
 (.seq
 (.set 4 (.const (.int .i64 0)))
 .ret))))),
  [(.var 4)]⟩
theorem okx_55 : FnOk Tryz.prog 3 377 55 xf55 := fnOk_of Tryz.func55 (np := 4) (V := [0, 1, 2, 3, 8, 16, 18, 17, 10, 24, 11, 31, 30, 29, 13, 37, 39, 14]) (ks := [[0, 2, 3, 5, 6, 7], [0, 3, 11, 12, 13]]) (by kernel_rfl)

/- tipstaff/loader.env -/
def xf56 : XF := ⟨2, [0, 1, 4, 5, 12, 11, 10, 7, 19, 20, 17, 21, 26, 27, 24, 28],
  (.seq
 (.new (some 2) 43 (.const (.agg #[(.slice none 0 0), (.slice none 0 0), (.bool false)])))
 (.seq
 (.seq
 (.chk [(.upd 2 1 (.const (.agg #[(.slice none 0 0), (.slice none 0 0), (.bool false)])) (.var 1))])
 (.seq
 (.new (some 3) 43 (.const (.agg #[(.slice none 0 0), (.slice none 0 0), (.bool false)])))
 (.store 3 (.var 3) (.upd 2 1 (.const (.agg #[(.slice none 0 0), (.slice none 0 0), (.bool false)])) (.var 1)) [])))
 (.seq
 (.seq
 (.seq
 (.set 6 (.var 0))
 (.seq
 (.set 5 (.len false (.var 6)))
 (.set 4 (.const (.int .i64 0)))))
 (.block 0
 (.loop [2, 3, 4, 5, 6]
 (.seq
 (.cond (.bin .lss (.var 4) (.var 5))
 .skip
 (.exit 0))
 (.seq
 (.block 1
 (.seq
 (.set 7 (.ld none (.ixSl 1 (.var 6) (.var 4))))
 (.seq
 (.seq
 .skip
 (.seq
 (.set 10 (.ld none (.offp 0 (.var 3))))
 (.seq
 (.call (some 8) 112 [(.var 7)] [(.ld none (.offp 0 (.var 3)))])
 (.seq
 (.row (some 9) 24 1 (.upd 0 4 (.const (.agg (Array.replicate 4 (.int .i64 0)))) (.var 8)))
 (.seq
 (.app (some 11) 24 4 (.var 10) (.var 9) [])
 (.store 1 (.offp 0 (.var 3)) (.var 11) []))))))
 (.seq
 .skip
 (.seq
 (.set 14 (.ld none (.offp 1 (.var 3))))
 (.seq
 (.call (some 12) 113 [(.var 7)] [(.ld none (.offp 1 (.var 3)))])
 (.seq
 (.row (some 13) 4 1 (.upd 0 1 (.const (.agg #[(.bool false)])) (.var 12)))
 (.seq
 (.app (some 15) 4 1 (.var 14) (.var 13) [])
 (.store 1 (.offp 1 (.var 3)) (.var 15) [])))))))))
 (.set 4 (.bin .add (.var 4) (.const (.int .i64 1)))))))))
 (.seq
 (.store 3 (.var 2) (.ld (some 3) (.var 3)) [])
 .ret)))),
  [(.ld (some 3) (.var 2))]⟩
theorem okx_56 : FnOk Tryz.prog 3 377 56 xf56 := fnOk_of Tryz.func56 (np := 2) (V := [0, 1, 4, 5, 12, 11, 10, 7, 19, 20, 17, 21, 26, 27, 24, 28]) (ks := [[2, 3, 4, 5, 6]]) (by kernel_rfl)

/- slices.Clone[[]*tipstaff/bmap.Map,*tipstaff/bmap.Map] -/
def xf58 : XF := ⟨1, [0, 2, 5, 7],
  (.seq
 (.set 1 (.const (.slice none 0 0)))
 (.seq
 (.cond (.isnil 1 false (.var 0))
 (.seq
 (.set 1 (.const (.slice none 0 0)))
 .ret)
 .skip)
 (.seq
 (.seq
 (.row (some 2) 25 0 (.const (.agg #[])))
 (.seq
 (.app (some 3) 25 1 (.var 2) (.var 0) [])
 (.set 1 (.var 3))))
 .ret))),
  [(.var 1)]⟩
theorem okx_58 : FnOk Tryz.prog 3 377 58 xf58 := fnOk_of Tryz.func58 (np := 1) (V := [0, 2, 5, 7]) (ks := []) (by kernel_rfl)

/- tipstaff/token.Root -/
def xf59 : XF := ⟨3, [0, 1, 2, 6, 7, 5, 13, 8, 9, 20, 19, 21, 26],
  (.seq
 (.seq
 (.new (some 5) 69 (.var 2))
 (.seq
 (.set 3 (.const (.pointer none)))
 (.set 4 (.const (.int .i64 0)))))
 (.seq
 (.seq
 (.seq
 (.call (some 6) 118 [(.var 0), (.var 1)] [])
 (.seq
 (.chk [(.proj 1 (.var 6))])
 (.seq
 (.set 7 (.proj 0 (.var 6)))
 (.set 8 (.proj 1 (.var 6))))))
 (.cond (.bin .neq (.var 8) (.const (.int .i64 0)))
 (.seq
 (.seq
 (.chk [(.var 8)])
 (.seq
 (.set 3 (.const (.pointer none)))
 (.set 4 (.var 8))))
 .ret)
 .skip))
 (.seq
 (.seq
 (.seq
 .skip
 (.seq
 (.set 10 (.ld (some 6) (.var 5)))
 (.seq
 (.call (some 9) 24 [] [(.ld (some 6) (.var 5))])
 (.call (some 11) 119 [(.var 10), (.var 9)] []))))
 (.cond (.un .not (.var 11))
 (.seq
 (.seq
 (.set 3 (.const (.pointer none)))
 (.set 4 (.const (.int .i64 1))))
 .ret)
 .skip))
 (.seq
 (.seq
 (.chk [(.upd 1 6 (.upd 0 1 (.const zA7) (.var 1)) (.ld (some 6) (.var 5)))])
 (.seq
 (.new (some 12) 152 (.upd 1 6 (.upd 0 1 (.const zA7) (.var 1)) (.ld (some 6) (.var 5))))
 (.seq
 (.set 3 (.var 12))
 (.set 4 (.const (.int .i64 0))))))
 .ret)))),
  [(.var 3), (.var 4)]⟩
theorem okx_59 : FnOk Tryz.prog 3 377 59 xf59 := fnOk_of Tryz.func59 (np := 3) (V := [0, 1, 2, 6, 7, 5, 13, 8, 9, 20, 19, 21, 26]) (ks := []) (by kernel_rfl)

/- tipstaff/space.New -/
def xf60 : XF := ⟨0, [0, 1, 3],
  (.seq
 (.set 0 (.const (.pointer none)))
 (.seq
 (.seq
 (.mk (some 1) 312 [(.int .i64 0), (.int .i64 0)] (.const (.int .i64 1)) (.const (.int .i64 1)) [])
 (.seq
 (.chk [(.upd 0 1 (.const (.agg #[(.slice none 0 0)])) (.var 1))])
 (.seq
 (.new (some 2) 230 (.upd 0 1 (.const (.agg #[(.slice none 0 0)])) (.var 1)))
 (.set 0 (.var 2)))))
 .ret)),
  [(.var 0)]⟩
theorem okx_60 : FnOk Tryz.prog 3 377 60 xf60 := fnOk_of Tryz.func60 (np := 0) (V := [0, 1, 3]) (ks := []) (by kernel_rfl)

/- slices.Contains[[]*tipstaff/bmap.Map,*tipstaff/bmap.Map] -/
def xf61 : XF := ⟨2, [0, 1, 4, 7],
  (.seq
 (.set 2 (.const (.bool false)))
 (.seq
 (.seq
 (.call (some 3) 120 [(.var 0), (.var 1)] [])
 (.set 2 (.bin .geq (.var 3) (.const (.int .i64 0)))))
 .ret)),
  [(.var 2)]⟩
theorem okx_61 : FnOk Tryz.prog 3 377 61 xf61 := fnOk_of Tryz.func61 (np := 2) (V := [0, 1, 4, 7]) (ks := []) (by kernel_rfl)

/- tipstaff/registry.New -/
def xf62 : XF := ⟨0, [0, 2],
  (.seq
 (.set 0 (.const (.pointer none)))
 (.seq
 (.seq
 (.new (some 1) 234 (.const (.agg #[(.slice none 0 0)])))
 (.set 0 (.var 1)))
 .ret)),
  [(.var 0)]⟩
theorem okx_62 : FnOk Tryz.prog 3 377 62 xf62 := fnOk_of Tryz.func62 (np := 0) (V := [0, 2]) (ks := []) (by kernel_rfl)

/- tipstaff/objtab.New[tipstaff/gate.Object] -/
def xf63 : XF := ⟨1, [0, 2, 3, 11, 13],
  (.seq
 (.seq
 (.set 1 (.const (.pointer none)))
 (.set 2 (.const (.int .i64 0))))
 (.seq
 (.cond (.pick (.bin .lss (.var 0) (.const (.int .i64 1))) (.const (.bool true)) (.bin .gtr (.var 0) (.const (.int .i64 64))))
 (.seq
 (.seq
 (.set 1 (.const (.pointer none)))
 (.set 2 (.const (.int .i64 22))))
 .ret)
 .skip)
 (.seq
 (.seq
 (.chk [(.var 0)])
 (.seq
 (.mkmap (some 3) .i64 [])
 (.seq
 (.chk [(.upd 2 1 (.upd 0 1 (.const (.agg #[(.int .i64 0), (.int .i64 0), (.map none)])) (.var 0)) (.var 3))])
 (.seq
 (.new (some 4) 237 (.upd 2 1 (.upd 0 1 (.const (.agg #[(.int .i64 0), (.int .i64 0), (.map none)])) (.var 0)) (.var 3)))
 (.seq
 (.set 1 (.var 4))
 (.set 2 (.const (.int .i64 0))))))))
 .ret))),
  [(.var 1), (.var 2)]⟩
theorem okx_63 : FnOk Tryz.prog 3 377 63 xf63 := fnOk_of Tryz.func63 (np := 1) (V := [0, 2, 3, 11, 13]) (ks := []) (by kernel_rfl)

/- tipstaff/gate.failed -/
def xf64 : XF := ⟨1, [0, 2],
  (.seq
 (.new (some 1) 80 (.const zA0))
 (.seq
 (.seq
 (.chk [(.upd 0 1 (.const zA0) (.var 0))])
 (.store 4 (.var 1) (.upd 0 1 (.const zA0) (.var 0)) []))
 .ret)),
  [(.ld (some 4) (.var 1))]⟩
theorem okx_64 : FnOk Tryz.prog 3 377 64 xf64 := fnOk_of Tryz.func64 (np := 1) (V := [0, 2]) (ks := []) (by kernel_rfl)

/- (*tipstaff/gate.Kernel).byToken -/
def xf65 : XF := ⟨2, [0, 1, 4, 3, 15, 6, 5, 7, 22, 27, 8, 31, 33, 34, 40, 41, 48, 54],
  (.seq
 (.seq
 (.new (some 3) 78 (.var 1))
 (.new (some 2) 80 (.const zA0)))
 (.seq
 (.seq
 (.call (some 4) 121 [(.var 0), (.ld none (.offp 0 (.var 3))), (.ld none (.offp 2 (.var 3))), (.const (.int .i64 3))] [])
 (.seq
 (.chk [(.proj 2 (.var 4)), (.proj 1 (.var 4)), (.proj 0 (.var 4))])
 (.seq
 (.new (some 5) 168 (.const zA6))
 (.seq
 (.set 6 (.proj 0 (.var 4)))
 (.seq
 (.store 7 (.var 5) (.proj 1 (.var 4)) [])
 (.set 7 (.proj 2 (.var 4))))))))
 (.seq
 (.cond (.bin .neq (.var 7) (.const (.int .i64 0)))
 (.seq
 (.seq
 (.call (some 8) 64 [(.var 7)] [])
 (.store 4 (.var 2) (.var 8) []))
 .ret)
 .skip)
 (.seq
 (.seq
 (.seq
 (.call (some 9) 122 [(.ld none (.offp 6 (.var 5))), (.ld none (.offp 1 (.var 3)))] [])
 (.set 10 (.var 9)))
 (.cond (.bin .neq (.var 10) (.const (.int .i64 0)))
 (.seq
 (.seq
 (.call (some 11) 64 [(.var 10)] [])
 (.store 4 (.var 2) (.var 11) []))
 .ret)
 .skip))
 (.seq
 (.seq
 (.set 12 (.ld none (.offp 1 (.var 3))))
 (.block 0
 (.seq
 (.set 13 (.bin .eql (.var 12) (.const (.int .i64 0))))
 (.cond (.var 13)
 (.seq
 (.seq
 (.call (some 14) 123 [(.var 0), (.ld (some 55) (.var 3)), (.ld none (.offp 6 (.var 5)))] [])
 (.store 4 (.var 2) (.var 14) []))
 .ret)
 (.seq
 (.set 15 (.bin .eql (.var 12) (.const (.int .i64 1))))
 (.cond (.var 15)
 (.seq
 (.seq
 (.call (some 16) 124 [(.var 0), (.ld (some 55) (.var 3)), (.var 6), (.ld none (.offp 6 (.var 5)))] [])
 (.store 4 (.var 2) (.var 16) []))
 .ret)
 .skip))))))
 (.seq
 (.seq
 (.call (some 17) 125 [(.var 0), (.ld (some 55) (.var 3)), (.var 6), (.ld none (.offp 6 (.var 5)))] [])
 (.store 4 (.var 2) (.var 17) []))
 .ret)))))),
  [(.ld (some 4) (.var 2))]⟩
theorem okx_65 : FnOk Tryz.prog 3 377 65 xf65 := fnOk_of Tryz.func65 (np := 2) (V := [0, 1, 4, 3, 15, 6, 5, 7, 22, 27, 8, 31, 33, 34, 40, 41, 48, 54]) (ks := []) (by kernel_rfl)

/- (*tipstaff/gate.Kernel).byAny -/
def xf68 : XF := ⟨2, [0, 1, 4, 3, 14, 6, 5, 7, 21, 23, 24, 40, 46, 55, 60, 62],
  (.seq
 (.seq
 (.new (some 3) 78 (.var 1))
 (.new (some 2) 80 (.const zA0)))
 (.seq
 (.seq
 (.call (some 4) 121 [(.var 0), (.ld none (.offp 0 (.var 3))), (.ld none (.offp 2 (.var 3))), (.const (.int .i64 0))] [])
 (.seq
 (.chk [(.proj 2 (.var 4)), (.proj 1 (.var 4)), (.proj 0 (.var 4))])
 (.seq
 (.new (some 5) 168 (.const zA6))
 (.seq
 (.set 6 (.proj 0 (.var 4)))
 (.seq
 (.store 7 (.var 5) (.proj 1 (.var 4)) [])
 (.set 7 (.proj 2 (.var 4))))))))
 (.seq
 (.cond (.bin .neq (.var 7) (.const (.int .i64 0)))
 (.seq
 (.seq
 (.call (some 8) 64 [(.var 7)] [])
 (.store 4 (.var 2) (.var 8) []))
 .ret)
 .skip)
 (.seq
 (.seq
 (.set 9 (.ld none (.offp 1 (.var 3))))
 (.block 0
 (.seq
 (.set 10 (.bin .eql (.var 9) (.const (.int .i64 8))))
 (.cond (.var 10)
 (.seq
 (.seq
 .skip
 (.call none 130 [(.ld none (.ixArr 4 1 (.offp 3 (.nn (.var 0))) (.ld none (.offp 0 (.var 3))))), (.ld none (.offp 2 (.var 3)))] []))
 (.seq
 (.call none 131 [(.var 0), (.var 6)] [])
 (.seq
 (.store 4 (.var 2) (.const zA0) [])
 .ret)))
 (.seq
 (.set 11 (.bin .eql (.var 9) (.const (.int .i64 9))))
 (.cond (.var 11)
 (.seq
 (.seq
 (.call (some 12) 132 [(.var 0), (.ld none (.offp 0 (.var 3))), (.var 6)] [])
 (.store 4 (.var 2) (.var 12) []))
 .ret)
 .skip))))))
 (.seq
 (.cond (.pick (.bin .lss (.ld none (.offp 3 (.var 3))) (.const (.int .i64 0))) (.const (.bool true)) (.bin .geq (.ld none (.offp 3 (.var 3))) (.const (.int .i64 4))))
 (.seq
 (.seq
 (.call (some 13) 64 [(.const (.int .i64 22))] [])
 (.store 4 (.var 2) (.var 13) []))
 .ret)
 .skip)
 (.seq
 (.seq
 (.call (some 14) 132 [(.var 0), (.ld none (.offp 3 (.var 3))), (.var 6)] [])
 (.seq
 (.call (some 15) 64 [(.part none 0 (.var 14))] [])
 (.store 4 (.var 2) (.var 15) [])))
 .ret)))))),
  [(.ld (some 4) (.var 2))]⟩
theorem okx_68 : FnOk Tryz.prog 3 377 68 xf68 := fnOk_of Tryz.func68 (np := 2) (V := [0, 1, 4, 3, 14, 6, 5, 7, 21, 23, 24, 40, 46, 55, 60, 62]) (ks := []) (by kernel_rfl)

/- (*tipstaff/gate.Kernel).byFirst -/
def xf69 : XF := ⟨2, [0, 1, 4, 3, 13, 15, 16, 20, 21, 30, 5, 6, 46, 7, 8, 52, 56, 9, 60, 66],
  (.seq
 (.seq
 (.new (some 3) 78 (.var 1))
 (.new (some 2) 80 (.const zA0)))
 (.seq
 (.cond (.bin .neq (.ld none (.offp 0 (.var 3))) (.const (.int .i64 0)))
 (.seq
 (.seq
 (.call (some 4) 64 [(.const (.int .i64 1))] [])
 (.store 4 (.var 2) (.var 4) []))
 .ret)
 .skip)
 (.seq
 (.seq
 (.set 5 (.ld none (.offp 1 (.var 3))))
 (.block 0
 (.seq
 (.set 6 (.bin .eql (.var 5) (.const (.int .i64 11))))
 (.cond (.var 6)
 (.seq
 (.seq
 (.call (some 7) 133 [(.var 0), (.ld (some 55) (.var 3))] [])
 (.store 4 (.var 2) (.var 7) []))
 .ret)
 (.seq
 (.set 8 (.bin .eql (.var 5) (.const (.int .i64 13))))
 (.cond (.var 8)
 (.seq
 (.seq
 .skip
 (.seq
 (.call (some 9) 134 [(.ld none (.offp 0 (.nn (.var 0)))), (.ld none (.offp 3 (.var 3)))] [])
 (.seq
 (.chk [(.proj 1 (.var 9))])
 (.seq
 (.set 10 (.proj 0 (.var 9)))
 (.set 11 (.proj 1 (.var 9)))))))
 (.seq
 (.seq
 (.chk [(.upd 2 1 (.upd 0 1 (.const zA0) (.var 11)) (.conv .u64 (.var 10)))])
 (.store 4 (.var 2) (.upd 2 1 (.upd 0 1 (.const zA0) (.var 11)) (.conv .u64 (.var 10))) []))
 .ret))
 .skip))))))
 (.seq
 (.seq
 .skip
 (.seq
 (.call (some 12) 59 [(.ld none (.offp 0 (.nn (.var 0)))), (.ld none (.offp 3 (.var 3))), (.ld (some 6) (.offp 8 (.var 3)))] [])
 (.seq
 (.chk [(.proj 1 (.var 12))])
 (.seq
 (.set 13 (.proj 0 (.var 12)))
 (.set 14 (.proj 1 (.var 12)))))))
 (.seq
 (.cond (.bin .neq (.var 14) (.const (.int .i64 0)))
 (.seq
 (.seq
 (.call (some 15) 64 [(.var 14)] [])
 (.store 4 (.var 2) (.var 15) []))
 .ret)
 .skip)
 (.seq
 (.seq
 (.seq
 (.call (some 16) 135 [(.var 0), (.ld none (.offp 0 (.var 3)))] [])
 (.set 17 (.var 16)))
 (.cond (.bin .neq (.var 17) (.const (.int .i64 0)))
 (.seq
 (.seq
 (.call (some 18) 64 [(.var 17)] [])
 (.store 4 (.var 2) (.var 18) []))
 .ret)
 .skip))
 (.seq
 (.seq
 (.chk [(.upd 6 1 (.upd 1 1 (.const zA6) (.const (.int .i64 3))) (.var 13))])
 (.seq
 (.call (some 19) 136 [(.var 0), (.ld none (.offp 0 (.var 3))), (.upd 6 1 (.upd 1 1 (.const zA6) (.const (.int .i64 3))) (.var 13))] [])
 (.store 4 (.var 2) (.var 19) [])))
 .ret))))))),
  [(.ld (some 4) (.var 2))]⟩
theorem okx_69 : FnOk Tryz.prog 3 377 69 xf69 := fnOk_of Tryz.func69 (np := 2) (V := [0, 1, 4, 3, 13, 15, 16, 20, 21, 30, 5, 6, 46, 7, 8, 52, 56, 9, 60, 66]) (ks := []) (by kernel_rfl)

/- (*tipstaff/objtab.Table[tipstaff/gate.Object]).Get -/
def xf71 : XF := ⟨2, [0, 1, 4, 5, 12, 6, 7, 8],
  (.seq
 (.seq
 (.new (some 2) 168 (.const zA6))
 (.set 3 (.const (.int .i64 0))))
 (.seq
 (.seq
 (.call (some 4) 139 [(.var 0), (.var 1)] [])
 (.seq
 (.chk [(.proj 1 (.var 4))])
 (.seq
 (.set 5 (.proj 0 (.var 4)))
 (.set 6 (.proj 1 (.var 4))))))
 (.seq
 (.cond (.bin .neq (.var 6) (.const (.int .i64 0)))
 (.seq
 (.new (some 7) 168 (.const zA6))
 (.seq
 (.seq
 (.chk [(.var 6)])
 (.seq
 (.store 7 (.var 2) (.ld (some 7) (.var 7)) [])
 (.set 3 (.var 6))))
 .ret))
 .skip)
 (.seq
 (.seq
 (.store 7 (.var 2) (.ld (some 7) (.offp 0 (.nn (.var 5)))) [])
 (.set 3 (.const (.int .i64 0))))
 .ret)))),
  [(.ld (some 7) (.var 2)), (.var 3)]⟩
theorem okx_71 : FnOk Tryz.prog 3 377 71 xf71 := fnOk_of Tryz.func71 (np := 2) (V := [0, 1, 4, 5, 12, 6, 7, 8]) (ks := []) (by kernel_rfl)

/- (*tipstaff/objtab.Table[tipstaff/gate.Object]).Held -/
def xf72 : XF := ⟨2, [0, 1, 4, 10, 5, 6],
  (.seq
 (.set 2 (.const (.int .i64 0)))
 (.seq
 (.seq
 (.call (some 3) 139 [(.var 0), (.var 1)] [])
 (.seq
 (.chk [(.proj 1 (.var 3))])
 (.seq
 (.set 4 (.proj 0 (.var 3)))
 (.set 5 (.proj 1 (.var 3))))))
 (.seq
 (.cond (.bin .neq (.var 5) (.const (.int .i64 0)))
 (.seq
 (.set 2 (.const (.int .i64 0)))
 .ret)
 .skip)
 (.seq
 (.set 2 (.ld none (.offp 7 (.nn (.var 4)))))
 .ret)))),
  [(.var 2)]⟩
theorem okx_72 : FnOk Tryz.prog 3 377 72 xf72 := fnOk_of Tryz.func72 (np := 2) (V := [0, 1, 4, 10, 5, 6]) (ks := []) (by kernel_rfl)

/- slices.Clone[[]int,int] -/
def xf73 : XF := ⟨1, [0, 2, 5, 7],
  (.seq
 (.set 1 (.const (.slice none 0 0)))
 (.seq
 (.cond (.isnil 1 false (.var 0))
 (.seq
 (.set 1 (.const (.slice none 0 0)))
 .ret)
 .skip)
 (.seq
 (.seq
 (.row (some 2) 3 0 (.const (.agg #[])))
 (.seq
 (.app (some 3) 3 1 (.var 2) (.var 0) [])
 (.set 1 (.var 3))))
 .ret))),
  [(.var 1)]⟩
theorem okx_73 : FnOk Tryz.prog 3 377 73 xf73 := fnOk_of Tryz.func73 (np := 1) (V := [0, 2, 5, 7]) (ks := []) (by kernel_rfl)

/- (*tipstaff/gate.Kernel).named -/
def xf74 : XF := ⟨1, [0, 2, 11, 3, 12, 4, 17, 19, 18, 6, 22, 26, 25, 31, 33, 32, 8, 36, 40, 39, 38, 10, 46],
  (.seq
 (.set 1 (.const (.map none)))
 (.seq
 (.seq
 (.mkmap (some 2) .i64 [])
 (.set 3 (.var 2)))
 (.seq
 (.seq
 (.set 4 (.const (.int .i64 0)))
 (.block 0
 (.loop [0, 3, 4]
 (.seq
 (.cond (.bin .lss (.var 4) (.const (.int .i64 4)))
 .skip
 (.exit 0))
 (.seq
 (.block 1
 (.seq
 (.set 5 (.var 4))
 (.seq
 (.seq
 (.call (some 6) 34 [(.var 0), (.var 5)] [])
 (.seq
 (.set 8 (.len false (.var 6)))
 (.set 7 (.const (.int .i64 0)))))
 (.block 2
 (.loop [0, 3, 4, 6, 7, 8]
 (.seq
 (.cond (.bin .lss (.var 7) (.var 8))
 .skip
 (.exit 2))
 (.seq
 (.block 3
 (.seq
 (.seq
 (.set 10 (.ld (some 2) (.ixSl 2 (.var 6) (.var 7))))
 (.seq
 (.new (some 9) 178 (.const (.agg #[(.int .i64 0), (.int .i64 0)])))
 (.store 2 (.var 9) (.var 10) [])))
 (.seq
 (.chk [(.var 3)])
 (.seq
 (.set 12 (.ld none (.ixArr 2 1 (.var 9) (.const (.int .i64 1)))))
 (.seq
 (.look (some 11) (.int .i64 0) false .i64 (.var 3) (.var 12) [])
 (.upd .i64 (.var 3) (.var 12) (.bin .add (.var 11) (.const (.int .i64 1))) []))))))
 (.set 7 (.bin .add (.var 7) (.const (.int .i64 1)))))))))))
 (.set 4 (.bin .add (.var 4) (.const (.int .i64 1)))))))))
 (.seq
 (.seq
 (.seq
 (.call (some 13) 30 [(.var 0)] [])
 (.seq
 (.set 15 (.len false (.var 13)))
 (.set 14 (.const (.int .i64 0)))))
 (.block 4
 (.loop [3, 13, 14, 15]
 (.seq
 (.cond (.bin .lss (.var 14) (.var 15))
 .skip
 (.exit 4))
 (.seq
 (.block 5
 (.seq
 (.seq
 (.set 17 (.ld (some 7) (.ixSl 7 (.var 13) (.var 14))))
 (.seq
 (.new (some 16) 168 (.const zA6))
 (.store 7 (.var 16) (.var 17) [])))
 (.seq
 (.seq
 (.set 20 (.ld none (.offp 3 (.var 16))))
 (.seq
 (.set 19 (.len false (.var 20)))
 (.set 18 (.const (.int .i64 0)))))
 (.block 6
 (.loop [3, 13, 14, 15, 18, 19, 20]
 (.seq
 (.cond (.bin .lss (.var 18) (.var 19))
 .skip
 (.exit 6))
 (.seq
 (.block 7
 (.seq
 (.set 21 (.ld none (.ixSl 1 (.var 20) (.var 18))))
 (.seq
 (.look (some 22) (.int .i64 0) false .i64 (.var 3) (.var 21) [])
 (.upd .i64 (.var 3) (.var 21) (.bin .add (.var 22) (.const (.int .i64 1))) []))))
 (.set 18 (.bin .add (.var 18) (.const (.int .i64 1)))))))))))
 (.set 14 (.bin .add (.var 14) (.const (.int .i64 1)))))))))
 (.seq
 (.set 1 (.var 3))
 .ret))))),
  [(.var 1)]⟩
theorem okx_74 : FnOk Tryz.prog 3 377 74 xf74 := fnOk_of Tryz.func74 (np := 1) (V := [0, 2, 11, 3, 12, 4, 17, 19, 18, 6, 22, 26, 25, 31, 33, 32, 8, 36, 40, 39, 38, 10, 46]) (ks := [[0, 3, 4], [0, 3, 4, 6, 7, 8], [3, 13, 14, 15], [3, 13, 14, 15, 18, 19, 20]]) (by kernel_rfl)

/- tipstaff/token.Sound -/
def xf75 : XF := ⟨2, [0, 1, 4, 24, 5, 6, 34, 33, 35, 50],
  (.seq
 (.set 2 (.const (.bool false)))
 (.seq
 (.block 0
 (.loop [0, 1]
 (.seq
 (.cond (.isnil 0 true (.var 1))
 .skip
 (.exit 0))
 (.seq
 (.block 1
 (.seq
 (.cond (.isnil 0 false (.ld none (.offp 7 (.nn (.var 1)))))
 (.seq
 (.seq
 (.call (some 3) 118 [(.var 0), (.ld none (.offp 0 (.nn (.var 1))))] [])
 (.seq
 (.chk [(.proj 1 (.var 3))])
 (.seq
 (.set 4 (.proj 0 (.var 3)))
 (.set 5 (.proj 1 (.var 3))))))
 (.seq
 (.seq
 .skip
 (.seq
 (.chk [(.pick (.bin .eql (.var 5) (.const (.int .i64 0))) (.offp 1 (.nn (.var 1))) (.const (.bool false)))])
 (.seq
 (.cond (.pick (.bin .eql (.var 5) (.const (.int .i64 0))) (.const (.bool true)) (.const (.bool false)))
 (.set 7 (.ld (some 6) (.offp 1 (.nn (.var 1)))))
 (.clr [7]))
 (.seq
 (.cond (.pick (.bin .eql (.var 5) (.const (.int .i64 0))) (.const (.bool true)) (.const (.bool false)))
 (.call (some 6) 24 [] [(.ld (some 6) (.offp 1 (.nn (.var 1))))])
 (.clr [6]))
 (.seq
 (.cond (.pick (.bin .eql (.var 5) (.const (.int .i64 0))) (.const (.bool true)) (.const (.bool false)))
 (.call (some 8) 119 [(.var 7), (.var 6)] [])
 (.clr [8]))
 (.set 2 (.pick (.bin .eql (.var 5) (.const (.int .i64 0))) (.var 8) (.const (.bool false)))))))))
 .ret))
 .skip)
 (.seq
 (.seq
 .skip
 (.call (some 9) 140 [(.var 0), (.ld none (.offp 7 (.nn (.var 1)))), (.ld none (.offp 0 (.nn (.var 1)))), (.ld (some 6) (.offp 1 (.nn (.var 1))))] []))
 (.cond (.un .not (.var 9))
 (.seq
 (.set 2 (.const (.bool false)))
 .ret)
 .skip))))
 (.set 1 (.ld none (.offp 7 (.nn (.var 1)))))))))
 (.seq
 (.set 2 (.const (.bool false)))
 .ret))),
  [(.var 2)]⟩
theorem okx_75 : FnOk Tryz.prog 3 377 75 xf75 := fnOk_of Tryz.func75 (np := 2) (V := [0, 1, 4, 24, 5, 6, 34, 33, 35, 50]) (ks := [[0, 1]]) (by kernel_rfl)

/- (*tipstaff/fdtab.Table).Used -/
def xf76 : XF := ⟨1, [0, 2, 3, 13, 12, 11, 4, 5, 22, 23],
  (.seq
 (.set 1 (.const (.slice none 0 0)))
 (.seq
 (.cond (.isnil 0 false (.var 0))
 (.seq
 (.set 1 (.const (.slice none 0 0)))
 .ret)
 .skip)
 (.seq
 (.set 2 (.const (.slice none 0 0)))
 (.seq
 (.seq
 (.seq
 (.set 5 (.ld none (.offp 0 (.nn (.var 0)))))
 (.seq
 (.set 4 (.len false (.var 5)))
 (.set 3 (.const (.int .i64 0)))))
 (.block 0
 (.loop [2, 3, 4, 5]
 (.seq
 (.cond (.bin .lss (.var 3) (.var 4))
 .skip
 (.exit 0))
 (.seq
 (.block 1
 (.seq
 (.seq
 (.chk [(.ld none (.ixSl 1 (.var 5) (.var 3)))])
 (.seq
 (.set 6 (.var 3))
 (.set 7 (.ld none (.ixSl 1 (.var 5) (.var 3))))))
 (.cond (.bin .neq (.var 7) (.const (.int .i64 0)))
 (.seq
 (.chk [(.var 2)])
 (.seq
 (.row (some 8) 3 1 (.upd 0 1 (.const (.agg #[(.int .i64 0)])) (.var 6)))
 (.seq
 (.app (some 9) 3 1 (.var 2) (.var 8) [])
 (.set 2 (.var 9)))))
 .skip)))
 (.set 3 (.bin .add (.var 3) (.const (.int .i64 1)))))))))
 (.seq
 (.set 1 (.var 2))
 .ret))))),
  [(.var 1)]⟩
theorem okx_76 : FnOk Tryz.prog 3 377 76 xf76 := fnOk_of Tryz.func76 (np := 1) (V := [0, 2, 3, 13, 12, 11, 4, 5, 22, 23]) (ks := [[2, 3, 4, 5]]) (by kernel_rfl)

/- tipstaff/bmap.within -/
def xf79 : XF := ⟨3, [0, 1, 2, 6],
  (.seq
 (.set 3 (.const (.bool false)))
 (.seq
 (.set 3 (.pick (.bin .geq (.var 0) (.var 1)) (.bin .leq (.var 0) (.var 2)) (.const (.bool false))))
 .ret)),
  [(.var 3)]⟩
theorem okx_79 : FnOk Tryz.prog 3 377 79 xf79 := fnOk_of Tryz.func79 (np := 3) (V := [0, 1, 2, 6]) (ks := []) (by kernel_rfl)

/- tipstaff/digest.length -/
def xf80 : XF := ⟨1, [0, 2, 3, 4, 15, 16],
  (.seq
 (.set 1 (.const (.slice none 0 0)))
 (.seq
 (.set 2 (.const (.slice none 0 0)))
 (.seq
 (.seq
 (.set 3 (.const (.int .i64 7)))
 (.block 0
 (.loop [0, 2, 3]
 (.seq
 (.cond (.bin .geq (.var 3) (.const (.int .i64 0)))
 .skip
 (.exit 0))
 (.seq
 (.block 1
 (.seq
 (.chk [(.var 2)])
 (.seq
 (.row (some 4) 5 1 (.upd 0 1 (.const (.agg #[(.int .u8 0)])) (.conv .u8 (.bin .shr (.var 0) (.bin .mul (.const (.int .i64 8)) (.var 3))))))
 (.seq
 (.app (some 5) 5 1 (.var 2) (.var 4) [])
 (.set 2 (.var 5))))))
 (.set 3 (.bin .sub (.var 3) (.const (.int .i64 1)))))))))
 (.seq
 (.set 1 (.var 2))
 .ret)))),
  [(.var 1)]⟩
theorem okx_80 : FnOk Tryz.prog 3 377 80 xf80 := fnOk_of Tryz.func80 (np := 1) (V := [0, 2, 3, 4, 15, 16]) (ks := [[0, 2, 3]]) (by kernel_rfl)

/- (*tipstaff/digest.state).work -/
def xf81 : XF := ⟨2, [0, 1, 4, 14, 16, 17, 5, 6, 7, 8, 28, 30, 33, 26, 45, 49, 9, 54, 56, 59, 75, 10, 90, 11],
  (.seq
 (.seq
 (.set 3 (.ld (some 8) (.nn (.var 0))))
 (.seq
 (.new (some 2) 184 (.const (.agg (Array.replicate 8 (.int .u32 0)))))
 (.store 8 (.var 2) (.var 3) [])))
 (.seq
 (.seq
 (.seq
 (.call (some 4) 141 [(.var 1)] [])
 (.set 5 (.const (.int .i64 0))))
 (.block 0
 (.loop [0, 2, 4, 5]
 (.seq
 (.cond (.bin .lss (.var 5) (.const (.int .i64 64)))
 .skip
 (.exit 0))
 (.seq
 (.block 1
 (.seq
 (.seq
 (.chk [(.idxAgg none 1 64 (.var 4) (.var 5))])
 (.seq
 (.set 6 (.var 5))
 (.set 7 (.idxAgg none 1 64 (.var 4) (.var 5)))))
 (.seq
 (.seq
 .skip
 (.seq
 (.chk [(.ld none (.ixArr 8 1 (.var 2) (.const (.int .i64 4))))])
 (.seq
 (.set 8 (.ld none (.ixArr 8 1 (.var 2) (.const (.int .i64 0)))))
 (.set 9 (.ld none (.ixArr 8 1 (.var 2) (.const (.int .i64 4))))))))
 (.seq
 (.seq
 .skip
 (.seq
 (.set 13 (.ld none (.ixArr 8 1 (.var 2) (.const (.int .i64 7)))))
 (.seq
 (.set 14 (.bin .xor (.bin .and (.var 9) (.ld none (.ixArr 8 1 (.var 2) (.const (.int .i64 5))))) (.bin .and (.un .xor (.var 9)) (.ld none (.ixArr 8 1 (.var 2) (.const (.int .i64 6)))))))
 (.seq
 (.chk [(.ixArr 64 1 (.const (.pointer (some ⟨1, 0, none⟩))) (.var 6))])
 (.seq
 (.set 15 (.ld none (.ixArr 64 1 (.const (.pointer (some ⟨1, 0, none⟩))) (.var 6))))
 (.seq
 (.chk [(.var 7)])
 (.seq
 (.call (some 10) 142 [(.var 9), (.const (.int .i64 6))] [(.ld none (.ixArr 64 1 (.const (.pointer (some ⟨1, 0, none⟩))) (.var 6))), (.ld none (.ixArr 8 1 (.var 2) (.const (.int .i64 6)))), (.ld none (.ixArr 8 1 (.var 2) (.const (.int .i64 5)))), (.ld none (.ixArr 8 1 (.var 2) (.const (.int .i64 7))))])
 (.seq
 (.call (some 11) 142 [(.var 9), (.const (.int .i64 11))] [(.ld none (.ixArr 64 1 (.const (.pointer (some ⟨1, 0, none⟩))) (.var 6))), (.ld none (.ixArr 8 1 (.var 2) (.const (.int .i64 6)))), (.ld none (.ixArr 8 1 (.var 2) (.const (.int .i64 5)))), (.ld none (.ixArr 8 1 (.var 2) (.const (.int .i64 7))))])
 (.seq
 (.chk [(.bin .xor (.var 10) (.var 11))])
 (.seq
 (.call (some 12) 142 [(.var 9), (.const (.int .i64 25))] [(.ld none (.ixArr 64 1 (.const (.pointer (some ⟨1, 0, none⟩))) (.var 6))), (.ld none (.ixArr 8 1 (.var 2) (.const (.int .i64 6)))), (.ld none (.ixArr 8 1 (.var 2) (.const (.int .i64 5)))), (.ld none (.ixArr 8 1 (.var 2) (.const (.int .i64 7))))])
 (.set 16 (.bin .add (.bin .add (.bin .add (.bin .add (.var 13) (.bin .xor (.bin .xor (.var 10) (.var 11)) (.var 12))) (.var 14)) (.var 15)) (.var 7)))))))))))))
 (.seq
 (.seq
 .skip
 (.seq
 (.set 20 (.bin .xor (.bin .xor (.bin .and (.var 8) (.ld none (.ixArr 8 1 (.var 2) (.const (.int .i64 1))))) (.bin .and (.var 8) (.ld none (.ixArr 8 1 (.var 2) (.const (.int .i64 2)))))) (.bin .and (.ld none (.ixArr 8 1 (.var 2) (.const (.int .i64 1)))) (.ld none (.ixArr 8 1 (.var 2) (.const (.int .i64 2)))))))
 (.seq
 (.call (some 17) 142 [(.var 8), (.const (.int .i64 2))] [(.ld none (.ixArr 8 1 (.var 2) (.const (.int .i64 2)))), (.ld none (.ixArr 8 1 (.var 2) (.const (.int .i64 1)))), (.ld none (.ixArr 8 1 (.var 2) (.const (.int .i64 2)))), (.ld none (.ixArr 8 1 (.var 2) (.const (.int .i64 1))))])
 (.seq
 (.call (some 18) 142 [(.var 8), (.const (.int .i64 13))] [(.ld none (.ixArr 8 1 (.var 2) (.const (.int .i64 2)))), (.ld none (.ixArr 8 1 (.var 2) (.const (.int .i64 1)))), (.ld none (.ixArr 8 1 (.var 2) (.const (.int .i64 2)))), (.ld none (.ixArr 8 1 (.var 2) (.const (.int .i64 1))))])
 (.seq
 (.chk [(.bin .xor (.var 17) (.var 18))])
 (.seq
 (.call (some 19) 142 [(.var 8), (.const (.int .i64 22))] [(.ld none (.ixArr 8 1 (.var 2) (.const (.int .i64 2)))), (.ld none (.ixArr 8 1 (.var 2) (.const (.int .i64 1)))), (.ld none (.ixArr 8 1 (.var 2) (.const (.int .i64 2)))), (.ld none (.ixArr 8 1 (.var 2) (.const (.int .i64 1))))])
 (.set 21 (.bin .add (.bin .xor (.bin .xor (.var 17) (.var 18)) (.var 19)) (.var 20)))))))))
 (.seq
 (.seq
 .skip
 (.copy none 1 (.slArr 8 1 (.var 2) (.const (.int .i64 1)) (.const (.int .i64 8))) (.slArr 8 1 (.var 2) (.const (.int .i64 0)) (.const (.int .i64 7))) []))
 (.seq
 (.store 1 (.ixArr 8 1 (.var 2) (.const (.int .i64 0))) (.bin .add (.var 16) (.var 21)) [])
 (.store 1 (.ixArr 8 1 (.var 2) (.const (.int .i64 4))) (.bin .add (.ld none (.ixArr 8 1 (.var 2) (.const (.int .i64 4)))) (.var 16)) []))))))))
 (.set 5 (.bin .add (.var 5) (.const (.int .i64 1)))))))))
 (.seq
 (.set 22 (.const (.int .i64 0)))
 (.block 2
 (.loop [0, 2, 22]
 (.seq
 (.cond (.bin .lss (.var 22) (.const (.int .i64 8)))
 .skip
 (.exit 2))
 (.seq
 (.block 3
 (.seq
 (.set 23 (.var 22))
 (.seq
 .skip
 (.store 1 (.ixArr 8 1 (.nn (.var 0)) (.var 23)) (.bin .add (.ld none (.ixArr 8 1 (.nn (.var 0)) (.var 23))) (.ld none (.ixArr 8 1 (.var 2) (.var 23)))) []))))
 (.set 22 (.bin .add (.var 22) (.const (.int .i64 1))))))))))),
  []⟩
theorem okx_81 : FnOk Tryz.prog 3 377 81 xf81 := fnOk_of Tryz.func81 (np := 2) (V := [0, 1, 4, 14, 16, 17, 5, 6, 7, 8, 28, 30, 33, 26, 45, 49, 9, 54, 56, 59, 75, 10, 90, 11]) (ks := [[0, 2, 4, 5], [0, 2, 22]]) (by kernel_rfl)

/- slices.Index[[]int,int] -/
def xf82 : XF := ⟨2, [0, 1, 4, 8, 7, 5],
  (.seq
 (.set 2 (.const (.int .i64 0)))
 (.seq
 (.seq
 (.seq
 (.set 4 (.len false (.var 0)))
 (.set 3 (.const (.int .i64 0))))
 (.block 0
 (.loop [0, 1, 3, 4]
 (.seq
 (.cond (.bin .lss (.var 3) (.var 4))
 .skip
 (.exit 0))
 (.seq
 (.block 1
 (.seq
 (.set 5 (.var 3))
 (.cond (.bin .eql (.var 1) (.ld none (.ixSl 1 (.var 0) (.var 5))))
 (.seq
 (.set 2 (.var 5))
 .ret)
 .skip)))
 (.set 3 (.bin .add (.var 3) (.const (.int .i64 1)))))))))
 (.seq
 (.set 2 (.const (.int .i64 (-1))))
 .ret))),
  [(.var 2)]⟩
theorem okx_82 : FnOk Tryz.prog 3 377 82 xf82 := fnOk_of Tryz.func82 (np := 2) (V := [0, 1, 4, 8, 7, 5]) (ks := [[0, 1, 3, 4]]) (by kernel_rfl)

/- tipstaff/shape.Check -/
def xf83 : XF := ⟨1, [0, 2, 3, 8, 12, 18, 17, 4, 23, 29, 28, 5, 34, 6, 45, 7],
  (.seq
 (.seq
 (.set 1 (.const (.int .i64 0)))
 (.set 2 (.const (.int .i64 0))))
 (.seq
 (.block 0
 (.seq
 (.set 3 (.bin .gtr (.len false (.var 0)) (.const (.int .i64 256))))
 (.cond (.var 3)
 (.seq
 (.seq
 (.set 1 (.const (.int .i64 0)))
 (.set 2 (.const (.int .i64 7))))
 .ret)
 (.seq
 (.set 4 (.bin .eql (.len false (.var 0)) (.const (.int .i64 0))))
 (.cond (.var 4)
 (.seq
 (.seq
 (.set 1 (.const (.int .i64 0)))
 (.set 2 (.const (.int .i64 22))))
 .ret)
 .skip)))))
 (.seq
 (.seq
 (.seq
 (.set 6 (.len false (.var 0)))
 (.set 5 (.const (.int .i64 0))))
 (.block 1
 (.loop [0, 5, 6]
 (.seq
 (.cond (.bin .lss (.var 5) (.var 6))
 .skip
 (.exit 1))
 (.seq
 (.block 2
 (.seq
 (.set 7 (.var 5))
 (.seq
 (.call (some 8) 143 [(.var 0), (.var 7)] [])
 (.cond (.un .not (.var 8))
 (.seq
 (.seq
 (.set 1 (.var 7))
 (.set 2 (.const (.int .i64 22))))
 .ret)
 .skip))))
 (.set 5 (.bin .add (.var 5) (.const (.int .i64 1)))))))))
 (.seq
 (.seq
 (.seq
 (.set 10 (.len false (.var 0)))
 (.set 9 (.const (.int .i64 0))))
 (.block 3
 (.loop [0, 9, 10]
 (.seq
 (.cond (.bin .lss (.var 9) (.var 10))
 .skip
 (.exit 3))
 (.seq
 (.block 4
 (.seq
 (.set 11 (.var 9))
 (.seq
 (.call (some 12) 144 [(.var 0), (.var 11)] [])
 (.cond (.un .not (.var 12))
 (.seq
 (.seq
 (.set 1 (.var 11))
 (.set 2 (.const (.int .i64 22))))
 .ret)
 .skip))))
 (.set 9 (.bin .add (.var 9) (.const (.int .i64 1)))))))))
 (.seq
 (.set 13 (.bin .sub (.len false (.var 0)) (.const (.int .i64 1))))
 (.seq
 (.seq
 (.seq
 (.call (some 14) 145 [(.ld (some 5) (.ixSl 5 (.var 0) (.var 13)))] [])
 (.set 15 (.var 14)))
 (.cond (.pick (.bin .neq (.var 15) (.const (.int .i64 5))) (.bin .neq (.var 15) (.const (.int .i64 3))) (.const (.bool false)))
 (.seq
 (.seq
 (.set 1 (.var 13))
 (.set 2 (.const (.int .i64 22))))
 .ret)
 .skip))
 (.seq
 (.seq
 (.set 1 (.const (.int .i64 0)))
 (.set 2 (.const (.int .i64 0))))
 .ret))))))),
  [(.var 1), (.var 2)]⟩
theorem okx_83 : FnOk Tryz.prog 3 377 83 xf83 := fnOk_of Tryz.func83 (np := 1) (V := [0, 2, 3, 8, 12, 18, 17, 4, 23, 29, 28, 5, 34, 6, 45, 7]) (ks := [[0, 5, 6], [0, 9, 10]]) (by kernel_rfl)

/- slices.Index[[]bool,bool] -/
def xf84 : XF := ⟨2, [0, 1, 4, 8, 7, 5],
  (.seq
 (.set 2 (.const (.int .i64 0)))
 (.seq
 (.seq
 (.seq
 (.set 4 (.len false (.var 0)))
 (.set 3 (.const (.int .i64 0))))
 (.block 0
 (.loop [0, 1, 3, 4]
 (.seq
 (.cond (.bin .lss (.var 3) (.var 4))
 .skip
 (.exit 0))
 (.seq
 (.block 1
 (.seq
 (.set 5 (.var 3))
 (.cond (.eqx false .bool (.var 1) (.ld none (.ixSl 1 (.var 0) (.var 5))))
 (.seq
 (.set 2 (.var 5))
 .ret)
 .skip)))
 (.set 3 (.bin .add (.var 3) (.const (.int .i64 1)))))))))
 (.seq
 (.set 2 (.const (.int .i64 (-1))))
 .ret))),
  [(.var 2)]⟩
theorem okx_84 : FnOk Tryz.prog 3 377 84 xf84 := fnOk_of Tryz.func84 (np := 2) (V := [0, 1, 4, 8, 7, 5]) (ks := [[0, 1, 3, 4]]) (by kernel_rfl)

/- tipstaff/cfg.Reach -/
def xf85 : XF := ⟨1, [0, 2, 8, 3, 11, 4, 17, 16, 15, 5, 6, 34, 43],
  (.seq
 (.set 1 (.const (.slice none 0 0)))
 (.seq
 (.seq
 (.call (some 2) 146 [(.var 0)] [])
 (.set 3 (.var 2)))
 (.seq
 (.seq
 (.mk (some 4) 4 [(.bool false)] (.len false (.var 0)) (.len false (.var 0)) [])
 (.set 5 (.var 4)))
 (.seq
 (.seq
 (.seq
 (.set 8 (.ld none (.offp 1 (.nn (.var 3)))))
 (.seq
 (.set 7 (.len false (.var 8)))
 (.set 6 (.const (.int .i64 0)))))
 (.block 0
 (.loop [0, 5, 6, 7, 8]
 (.seq
 (.cond (.bin .lss (.var 6) (.var 7))
 .skip
 (.exit 0))
 (.seq
 (.block 1
 (.seq
 (.seq
 (.chk [(.ld none (.ixSl 1 (.var 8) (.var 6)))])
 (.seq
 (.set 9 (.var 6))
 (.set 10 (.ld none (.ixSl 1 (.var 8) (.var 6))))))
 (.seq
 (.store 1 (.ixSl 1 (.var 5) (.var 9)) (.bin .eql (.var 10) (.const (.int .i64 2))) [])
 (.seq
 (.seq
 (.chk [(.pick (.bin .gtr (.var 9) (.const (.int .i64 0))) (.ld (some 5) (.ixSl 5 (.var 0) (.var 9))) (.const (.bool false)))])
 (.seq
 (.cond (.pick (.bin .gtr (.var 9) (.const (.int .i64 0))) (.const (.bool true)) (.const (.bool false)))
 (.call (some 11) 147 [(.ld (some 5) (.ixSl 5 (.var 0) (.var 9)))] [])
 (.clr [11]))
 (.seq
 (.chk [(.pick (.pick (.bin .gtr (.var 9) (.const (.int .i64 0))) (.bin .eql (.var 11) (.const (.int .i64 10))) (.const (.bool false))) (.ld (some 5) (.ixSl 5 (.var 0) (.bin .sub (.var 9) (.const (.int .i64 1))))) (.const (.bool false)))])
 (.cond (.pick (.pick (.bin .gtr (.var 9) (.const (.int .i64 0))) (.bin .eql (.var 11) (.const (.int .i64 10))) (.const (.bool false))) (.const (.bool true)) (.const (.bool false)))
 (.call (some 12) 147 [(.ld (some 5) (.ixSl 5 (.var 0) (.bin .sub (.var 9) (.const (.int .i64 1)))))] [])
 (.clr [12])))))
 (.cond (.pick (.pick (.bin .gtr (.var 9) (.const (.int .i64 0))) (.bin .eql (.var 11) (.const (.int .i64 10))) (.const (.bool false))) (.bin .eql (.var 12) (.const (.int .i64 9))) (.const (.bool false)))
 (.store 1 (.ixSl 1 (.var 5) (.var 9)) (.pick (.ld none (.ixSl 1 (.var 5) (.var 9))) (.const (.bool true)) (.ld none (.ixSl 1 (.var 5) (.bin .sub (.var 9) (.const (.int .i64 1)))))) [])
 .skip)))))
 (.set 6 (.bin .add (.var 6) (.const (.int .i64 1)))))))))
 (.seq
 (.set 1 (.var 5))
 .ret))))),
  [(.var 1)]⟩
theorem okx_85 : FnOk Tryz.prog 3 377 85 xf85 := fnOk_of Tryz.func85 (np := 1) (V := [0, 2, 8, 3, 11, 4, 17, 16, 15, 5, 6, 34, 43]) (ks := [[0, 5, 6, 7, 8]]) (by kernel_rfl)

/- tipstaff/cfg.Loops -/
def xf86 : XF := ⟨1, [0, 2, 4],
  (.seq
 (.set 1 (.const (.bool false)))
 (.seq
 (.seq
 (.call (some 2) 146 [(.var 0)] [])
 (.set 1 (.ld none (.offp 2 (.nn (.var 2))))))
 .ret)),
  [(.var 1)]⟩
theorem okx_86 : FnOk Tryz.prog 3 377 86 xf86 := fnOk_of Tryz.func86 (np := 1) (V := [0, 2, 4]) (ks := []) (by kernel_rfl)

/- slices.IndexFunc[[]tipstaff/bmap.Spec,tipstaff/bmap.Spec] -/
def xf87 : XF := ⟨2, [0, 1, 4, 8, 7, 5, 16],
  (.seq
 (.set 2 (.const (.int .i64 0)))
 (.seq
 (.seq
 (.seq
 (.set 4 (.len false (.var 0)))
 (.set 3 (.const (.int .i64 0))))
 (.block 0
 (.loop [0, 1, 3, 4]
 (.seq
 (.cond (.bin .lss (.var 3) (.var 4))
 .skip
 (.exit 0))
 (.seq
 (.block 1
 (.seq
 (.set 5 (.var 3))
 (.seq
 (.dyn (some 6) (.var 1) [(.ld (some 4) (.ixSl 4 (.var 0) (.var 5)))] [])
 (.cond (.var 6)
 (.seq
 (.set 2 (.var 5))
 .ret)
 .skip))))
 (.set 3 (.bin .add (.var 3) (.const (.int .i64 1)))))))))
 (.seq
 (.set 2 (.const (.int .i64 (-1))))
 .ret))),
  [(.var 2)]⟩
theorem okx_87 : FnOk Tryz.prog 3 377 87 xf87 := fnOk_of Tryz.func87 (np := 2) (V := [0, 1, 4, 8, 7, 5, 16]) (ks := [[0, 1, 3, 4]]) (by kernel_rfl)

/- (*tipstaff/verify.checker).gone -/
def xf88 : XF := ⟨2, [0, 1, 4, 3, 11, 13],
  (.seq
 (.seq
 (.new (some 3) 132 (.var 1))
 (.set 2 (.const (.bool false))))
 (.seq
 (.seq
 .skip
 (.seq
 (.chk [(.cap1 (.const (.func (.func 149) #[] #[])) (.var 3))])
 (.seq
 (.look (some 4) (.slice none 0 0) false .i64 (.ld none (.offp 5 (.nn (.var 0)))) (.ld none (.offp 0 (.var 3))) [])
 (.seq
 (.call (some 5) 148 [(.var 4), (.cap1 (.const (.func (.func 149) #[] #[])) (.var 3))] [])
 (.set 2 (.var 5))))))
 .ret)),
  [(.var 2)]⟩
theorem okx_88 : FnOk Tryz.prog 3 377 88 xf88 := fnOk_of Tryz.func88 (np := 2) (V := [0, 1, 4, 3, 11, 13]) (ks := []) (by kernel_rfl)

/- (*tipstaff/verify.checker).step -/
def xf89 : XF := ⟨2, [0, 1, 4, 5, 3, 6, 15, 18, 7, 20, 21, 27, 30, 36, 39, 45, 41, 46, 47, 48, 53, 56, 64, 70, 73, 84, 76, 77, 78, 85, 88, 94, 97, 102, 11, 13],
  (.seq
 (.seq
 (.new (some 4) 132 (.var 1))
 (.seq
 (.set 2 (.const (.slice none 0 0)))
 (.set 3 (.const (.bool false)))))
 (.seq
 (.seq
 .skip
 (.seq
 (.set 34 (.ld none (.offp 0 (.nn (.var 0)))))
 (.seq
 (.set 35 (.ld none (.offp 0 (.var 4))))
 (.seq
 (.set 6 (.ld (some 5) (.ixSl 5 (.var 34) (.var 35))))
 (.seq
 (.new (some 5) 32 (.const zA2))
 (.store 5 (.var 5) (.var 6) []))))))
 (.seq
 (.seq
 (.call (some 7) 90 [(.ld none (.offp 0 (.var 5)))] [])
 (.seq
 (.new (some 8) 203 (.const zA3))
 (.store 5 (.var 8) (.var 7) [])))
 (.seq
 (.seq
 (.set 9 (.ld none (.offp 0 (.var 8))))
 (.block 0
 (.seq
 (.set 10 (.bin .eql (.var 9) (.const (.int .i64 1))))
 (.cond (.var 10)
 (.seq
 (.seq
 (.call (some 11) 151 [(.var 0), (.ld (some 274) (.var 4)), (.ld (some 5) (.var 5)), (.ld (some 5) (.var 8))] [])
 (.seq
 (.chk [(.proj 1 (.var 11))])
 (.seq
 (.set 2 (.proj 0 (.var 11)))
 (.set 3 (.proj 1 (.var 11))))))
 .ret)
 (.seq
 (.set 12 (.bin .eql (.var 9) (.const (.int .i64 2))))
 (.cond (.var 12)
 (.seq
 (.seq
 (.call (some 13) 152 [(.var 0), (.ld (some 274) (.var 4)), (.ld (some 5) (.var 5)), (.ld (some 5) (.var 8))] [])
 (.seq
 (.chk [(.proj 1 (.var 13))])
 (.seq
 (.set 2 (.proj 0 (.var 13)))
 (.set 3 (.proj 1 (.var 13))))))
 .ret)
 (.seq
 (.set 14 (.bin .eql (.var 9) (.const (.int .i64 3))))
 (.cond (.var 14)
 (.seq
 (.seq
 .skip
 (.seq
 (.set 16 (.ld (some 274) (.var 4)))
 (.seq
 (.call (some 15) 93 [(.ld none (.offp 0 (.var 4))), (.ld (some 5) (.var 5))] [(.ld (some 274) (.var 4))])
 (.seq
 (.call (some 17) 153 [(.var 16), (.var 15)] [])
 (.seq
 (.row (some 18) 132 1 (.upd 0 274 (.const zA23) (.var 17)))
 (.seq
 (.set 2 (.var 18))
 (.set 3 (.const (.bool true)))))))))
 .ret)
 (.seq
 (.set 19 (.bin .eql (.var 9) (.const (.int .i64 4))))
 (.cond (.var 19)
 (.seq
 (.seq
 (.call (some 20) 154 [(.var 0), (.ld (some 274) (.var 4)), (.ld (some 5) (.var 5))] [])
 (.seq
 (.chk [(.proj 1 (.var 20))])
 (.seq
 (.set 2 (.proj 0 (.var 20)))
 (.set 3 (.proj 1 (.var 20))))))
 .ret)
 (.seq
 (.set 21 (.bin .eql (.var 9) (.const (.int .i64 5))))
 (.cond (.var 21)
 (.seq
 (.seq
 .skip
 (.seq
 (.chk [(.bin .eql (.ld none (.offp 0 (.ixArr 11 11 (.offp 0 (.offp 1 (.var 4))) (.const (.int .i64 0))))) (.const (.int .i64 1)))])
 (.seq
 (.set 2 (.const (.slice none 0 0)))
 (.set 3 (.bin .eql (.ld none (.offp 0 (.ixArr 11 11 (.offp 0 (.offp 1 (.var 4))) (.const (.int .i64 0))))) (.const (.int .i64 1)))))))
 .ret)
 (.seq
 (.set 22 (.bin .eql (.var 9) (.const (.int .i64 6))))
 (.cond (.var 22)
 (.seq
 (.seq
 (.call (some 23) 155 [(.var 0), (.ld (some 274) (.var 4)), (.ld (some 5) (.var 5)), (.ld (some 5) (.var 8))] [])
 (.seq
 (.chk [(.proj 1 (.var 23))])
 (.seq
 (.set 2 (.proj 0 (.var 23)))
 (.set 3 (.proj 1 (.var 23))))))
 .ret)
 (.seq
 (.set 24 (.bin .eql (.var 9) (.const (.int .i64 7))))
 (.cond (.var 24)
 (.seq
 (.seq
 .skip
 (.seq
 (.chk [(.var 0)])
 (.seq
 (.set 26 (.ld (some 274) (.var 4)))
 (.seq
 (.set 27 (.ld (some 5) (.var 5)))
 (.seq
 (.set 28 (.ld (some 5) (.var 8)))
 (.seq
 (.call (some 25) 157 [(.ld (some 273) (.offp 1 (.var 4))), (.ld (some 5) (.var 5)), (.ld none (.offp 4 (.var 8)))] [(.ld (some 5) (.var 8)), (.ld (some 5) (.var 5)), (.ld (some 274) (.var 4))])
 (.seq
 (.call (some 29) 156 [(.var 0), (.var 26), (.var 27), (.var 28), (.var 25)] [])
 (.seq
 (.chk [(.proj 1 (.var 29))])
 (.seq
 (.set 2 (.proj 0 (.var 29)))
 (.set 3 (.proj 1 (.var 29))))))))))))
 .ret)
 (.seq
 (.set 30 (.bin .eql (.var 9) (.const (.int .i64 8))))
 (.cond (.var 30)
 (.seq
 (.seq
 (.call (some 31) 158 [(.var 0), (.ld (some 274) (.var 4)), (.ld (some 5) (.var 5)), (.ld (some 5) (.var 8))] [])
 (.seq
 (.chk [(.proj 1 (.var 31))])
 (.seq
 (.set 2 (.proj 0 (.var 31)))
 (.set 3 (.proj 1 (.var 31))))))
 .ret)
 (.seq
 (.set 32 (.bin .eql (.var 9) (.const (.int .i64 9))))
 (.cond (.var 32)
 (.seq
 (.seq
 (.call (some 33) 159 [(.var 0), (.ld (some 274) (.var 4)), (.ld (some 5) (.var 5))] [])
 (.seq
 (.chk [(.proj 1 (.var 33))])
 (.seq
 (.set 2 (.proj 0 (.var 33)))
 (.set 3 (.proj 1 (.var 33))))))
 .ret)
 .skip))))))))))))))))))))
 (.seq
 (.seq
 (.set 2 (.const (.slice none 0 0)))
 (.set 3 (.const (.bool false))))
 .ret))))),
  [(.var 2), (.var 3)]⟩
theorem okx_89 : FnOk Tryz.prog 3 377 89 xf89 := fnOk_of Tryz.func89 (np := 2) (V := [0, 1, 4, 5, 3, 6, 15, 18, 7, 20, 21, 27, 30, 36, 39, 45, 41, 46, 47, 48, 53, 56, 64, 70, 73, 84, 76, 77, 78, 85, 88, 94, 97, 102, 11, 13]) (ks := []) (by kernel_rfl)

/- tipstaff/insn.Of -/
def xf90 : XF := ⟨1, [0, 2, 4, 5, 9, 10, 14, 15, 20, 21, 22, 25],
  (.seq
 (.new (some 1) 203 (.const zA3))
 (.seq
 (.seq
 (.set 2 (.bin .and (.var 0) (.const (.int .u8 7))))
 (.block 0
 (.seq
 (.seq
 (.set 3 (.bin .eql (.var 2) (.const (.int .u8 4))))
 (.cond (.var 3)
 .skip
 (.set 3 (.bin .eql (.var 2) (.const (.int .u8 7))))))
 (.cond (.var 3)
 (.seq
 (.seq
 (.call (some 4) 160 [(.var 0)] [])
 (.store 5 (.var 1) (.var 4) []))
 .ret)
 (.seq
 (.seq
 (.set 5 (.bin .eql (.var 2) (.const (.int .u8 5))))
 (.cond (.var 5)
 .skip
 (.set 5 (.bin .eql (.var 2) (.const (.int .u8 6))))))
 (.cond (.var 5)
 (.seq
 (.seq
 (.call (some 6) 161 [(.var 0)] [])
 (.store 5 (.var 1) (.var 6) []))
 .ret)
 (.seq
 (.seq
 (.set 7 (.bin .eql (.var 2) (.const (.int .u8 1))))
 (.cond (.var 7)
 .skip
 (.seq
 (.set 7 (.bin .eql (.var 2) (.const (.int .u8 2))))
 (.cond (.var 7)
 .skip
 (.set 7 (.bin .eql (.var 2) (.const (.int .u8 3))))))))
 (.cond (.var 7)
 (.seq
 (.seq
 (.call (some 8) 162 [(.var 0)] [])
 (.store 5 (.var 1) (.var 8) []))
 .ret)
 .skip))))))))
 (.seq
 (.seq
 (.set 9 (.var 0))
 (.block 1
 (.seq
 (.set 10 (.bin .eql (.var 9) (.const (.int .u8 24))))
 (.cond (.var 10)
 (.seq
 (.seq
 (.chk [(.upd 2 1 (.upd 0 1 (.const zA3) (.const (.int .i64 9))) (.const (.int .i64 8)))])
 (.store 5 (.var 1) (.upd 2 1 (.upd 0 1 (.const zA3) (.const (.int .i64 9))) (.const (.int .i64 8))) []))
 .ret)
 (.seq
 (.set 11 (.bin .eql (.var 9) (.const (.int .u8 0))))
 (.cond (.var 11)
 (.seq
 (.seq
 (.chk [(.upd 0 1 (.const zA3) (.const (.int .i64 10)))])
 (.store 5 (.var 1) (.upd 0 1 (.const zA3) (.const (.int .i64 10))) []))
 .ret)
 .skip))))))
 (.seq
 (.store 5 (.var 1) (.const zA3) [])
 .ret)))),
  [(.ld (some 5) (.var 1))]⟩
theorem okx_90 : FnOk Tryz.prog 3 377 90 xf90 := fnOk_of Tryz.func90 (np := 1) (V := [0, 2, 4, 5, 9, 10, 14, 15, 20, 21, 22, 25]) (ks := []) (by kernel_rfl)

/- tipstaff/token.has -/
def xf104 : XF := ⟨2, [0, 1, 4, 5, 12],
  (.seq
 (.set 2 (.const (.int .i64 0)))
 (.seq
 (.block 0
 (.seq
 (.set 3 (.pick (.bin .lss (.var 1) (.const (.int .i64 0))) (.const (.bool true)) (.bin .geq (.var 1) (.const (.int .i64 16)))))
 (.cond (.var 3)
 (.seq
 (.set 2 (.const (.int .i64 22)))
 .ret)
 (.seq
 (.set 4 (.bin .eql (.bin .and (.bin .shr (.var 0) (.var 1)) (.const (.int .u16 1))) (.const (.int .u16 0))))
 (.cond (.var 4)
 (.seq
 (.set 2 (.const (.int .i64 1)))
 .ret)
 .skip)))))
 (.seq
 (.set 2 (.const (.int .i64 0)))
 .ret))),
  [(.var 2)]⟩
theorem okx_104 : FnOk Tryz.prog 3 377 104 xf104 := fnOk_of Tryz.func104 (np := 2) (V := [0, 1, 4, 5, 12]) (ks := []) (by kernel_rfl)

/- tipstaff/token.of -/
def xf105 : XF := ⟨1, [0, 2],
  (.seq
 (.new (some 1) 69 (.const zA4))
 (.seq
 (.cond (.isnil 0 false (.var 0))
 (.seq
 (.store 6 (.var 1) (.const zA4) [])
 .ret)
 .skip)
 (.seq
 (.store 6 (.var 1) (.ld (some 6) (.offp 1 (.nn (.var 0)))) [])
 .ret))),
  [(.ld (some 6) (.var 1))]⟩
theorem okx_105 : FnOk Tryz.prog 3 377 105 xf105 := fnOk_of Tryz.func105 (np := 1) (V := [0, 2]) (ks := []) (by kernel_rfl)

/- tipstaff/canon.Slots -/
def xf106 : XF := ⟨1, [0, 2, 3, 4, 11, 5, 6, 14, 13, 12, 8, 7, 18, 20, 25, 9, 33, 34],
  (.seq
 (.seq
 (.set 1 (.const (.slice none 0 0)))
 (.seq
 (.set 2 (.const (.slice none 0 0)))
 (.set 3 (.const (.int .i64 0)))))
 (.seq
 (.seq
 (.call (some 4) 179 [(.var 0)] [])
 (.set 5 (.var 4)))
 (.seq
 (.set 6 (.const (.slice none 0 0)))
 (.seq
 (.seq
 (.seq
 (.set 9 (.var 5))
 (.seq
 (.set 8 (.len false (.var 9)))
 (.set 7 (.const (.int .i64 0)))))
 (.block 0
 (.loop [5, 6, 7, 8, 9]
 (.seq
 (.cond (.bin .lss (.var 7) (.var 8))
 .skip
 (.exit 0))
 (.seq
 (.block 1
 (.seq
 (.seq
 (.set 12 (.ld (some 5) (.ixSl 5 (.var 9) (.var 7))))
 (.seq
 (.new (some 10) 32 (.const zA2))
 (.seq
 (.set 11 (.var 7))
 (.store 5 (.var 10) (.var 12) []))))
 (.seq
 (.seq
 (.call (some 13) 180 [(.ld (some 5) (.var 10))] [])
 (.cond (.un .not (.var 13))
 (.exit 1)
 .skip))
 (.seq
 (.seq
 (.call (some 14) 181 [(.var 6), (.ld none (.offp 4 (.var 10)))] [])
 (.set 15 (.var 14)))
 (.seq
 (.cond (.bin .lss (.var 15) (.const (.int .i64 0)))
 (.seq
 (.set 15 (.len false (.var 6)))
 (.seq
 (.chk [(.var 6)])
 (.seq
 (.row (some 16) 21 1 (.upd 0 1 (.const (.agg #[(.int .i32 0)])) (.ld none (.offp 4 (.var 10)))))
 (.seq
 (.app (some 17) 21 1 (.var 6) (.var 16) [])
 (.set 6 (.var 17))))))
 .skip)
 (.store 1 (.offp 4 (.ixSl 5 (.var 5) (.var 11))) (.conv .i32 (.var 15)) []))))))
 (.set 7 (.bin .add (.var 7) (.const (.int .i64 1)))))))))
 (.seq
 (.cond (.bin .gtr (.len false (.var 6)) (.const (.int .i64 4)))
 (.seq
 (.seq
 (.set 1 (.const (.slice none 0 0)))
 (.seq
 (.set 2 (.const (.slice none 0 0)))
 (.set 3 (.const (.int .i64 7)))))
 .ret)
 .skip)
 (.seq
 (.seq
 (.chk [(.var 6)])
 (.seq
 (.set 1 (.var 5))
 (.seq
 (.set 2 (.var 6))
 (.set 3 (.const (.int .i64 0))))))
 .ret)))))),
  [(.var 1), (.var 2), (.var 3)]⟩
theorem okx_106 : FnOk Tryz.prog 3 377 106 xf106 := fnOk_of Tryz.func106 (np := 1) (V := [0, 2, 3, 4, 11, 5, 6, 14, 13, 12, 8, 7, 18, 20, 25, 9, 33, 34]) (ks := [[5, 6, 7, 8, 9]]) (by kernel_rfl)

/- (*tipstaff/bmap.Map).Sum -/
def xf107 : XF := ⟨1, [0, 2, 14, 3, 41, 42, 4, 45, 44, 43, 6, 54, 61, 62, 63, 66, 58],
  (.seq
 (.new (some 1) 49 (.const (.agg (Array.replicate 32 (.int .u8 0)))))
 (.seq
 (.cond (.isnil 0 false (.var 0))
 (.seq
 (.store 32 (.var 1) (.const (.agg (Array.replicate 32 (.int .u8 0)))) [])
 .ret)
 .skip)
 (.seq
 (.seq
 (.call (some 2) 182 [(.ld none (.offp 4 (.nn (.var 0))))] [])
 (.set 3 (.var 2)))
 (.seq
 (.call none 183 [(.var 3), (.const (.func (.func 184) #[] #[]))] [])
 (.seq
 (.seq
 .skip
 (.seq
 (.row (some 4) 5 4 (.upd 3 1 (.upd 2 1 (.upd 1 1 (.upd 0 1 (.const (.agg (Array.replicate 4 (.int .u8 0)))) (.conv .u8 (.ld none (.offp 0 (.offp 0 (.nn (.var 0))))))) (.conv .u8 (.ld none (.offp 1 (.offp 0 (.nn (.var 0))))))) (.conv .u8 (.ld none (.offp 2 (.offp 0 (.nn (.var 0))))))) (.conv .u8 (.ld none (.offp 3 (.offp 0 (.nn (.var 0))))))))
 (.seq
 (.row (some 5) 55 1 (.upd 0 1 (.const (.agg #[(.slice none 0 0)])) (.var 4)))
 (.set 6 (.var 5)))))
 (.seq
 (.seq
 (.seq
 (.set 9 (.var 3))
 (.seq
 (.set 8 (.len false (.var 9)))
 (.set 7 (.const (.int .i64 0)))))
 (.block 0
 (.loop [1, 6, 7, 8, 9]
 (.seq
 (.cond (.bin .lss (.var 7) (.var 8))
 .skip
 (.exit 0))
 (.seq
 (.block 1
 (.seq
 (.set 10 (.ld none (.ixSl 1 (.var 9) (.var 7))))
 (.seq
 .skip
 (.seq
 (.chk [(.ld none (.offp 0 (.nn (.var 10)))), (.var 6)])
 (.seq
 (.set 16 (.ld none (.offp 1 (.nn (.var 10)))))
 (.seq
 (.set 12 (.ld none (.offp 0 (.nn (.var 16)))))
 (.seq
 badX
 (.seq
 (.row (some 13) 55 2 (.upd 1 1 (.upd 0 1 (.const (.agg #[(.slice none 0 0), (.slice none 0 0)])) (.var 11)) (.var 12)))
 (.seq
 (.app (some 14) 55 1 (.var 6) (.var 13) [])
 (.set 6 (.var 14)))))))))))
 (.set 7 (.bin .add (.var 7) (.const (.int .i64 1)))))))))
 (.seq
 (.seq
 (.call (some 15) 186 [(.var 6)] [])
 (.store 32 (.var 1) (.var 15) []))
 .ret))))))),
  [(.ld (some 32) (.var 1))]⟩
theorem okx_107 : FnOk Tryz.prog 3 377 107 xf107 := fnOk_of Tryz.func107 (np := 1) (V := [0, 2, 14, 3, 41, 42, 4, 45, 44, 43, 6, 54, 61, 62, 63, 66, 58]) (ks := [[1, 6, 7, 8, 9]]) (by kernel_rfl)

/- tipstaff/canon.Sum -/
def xf108 : XF := ⟨2, [0, 1, 4, 9, 10, 5, 13, 12, 11, 7, 16, 19, 20, 23],
  (.seq
 (.new (some 2) 49 (.const (.agg (Array.replicate 32 (.int .u8 0)))))
 (.seq
 (.seq
 (.call (some 3) 187 [(.var 0)] [])
 (.seq
 (.row (some 4) 55 1 (.upd 0 1 (.const (.agg #[(.slice none 0 0)])) (.var 3)))
 (.set 5 (.var 4))))
 (.seq
 (.seq
 (.seq
 (.set 8 (.var 1))
 (.seq
 (.set 7 (.len false (.var 8)))
 (.set 6 (.const (.int .i64 0)))))
 (.block 0
 (.loop [2, 5, 6, 7, 8]
 (.seq
 (.cond (.bin .lss (.var 6) (.var 7))
 .skip
 (.exit 0))
 (.seq
 (.block 1
 (.seq
 (.seq
 (.set 10 (.ld (some 32) (.ixSl 32 (.var 8) (.var 6))))
 (.seq
 (.new (some 9) 49 (.const (.agg (Array.replicate 32 (.int .u8 0)))))
 (.store 32 (.var 9) (.var 10) [])))
 (.seq
 (.chk [(.var 5)])
 (.seq
 (.row (some 11) 55 1 (.upd 0 1 (.const (.agg #[(.slice none 0 0)])) (.slArr 32 1 (.var 9) (.const (.int .i64 0)) (.const (.int .i64 32)))))
 (.seq
 (.app (some 12) 55 1 (.var 5) (.var 11) [])
 (.set 5 (.var 12)))))))
 (.set 6 (.bin .add (.var 6) (.const (.int .i64 1)))))))))
 (.seq
 (.seq
 (.call (some 13) 186 [(.var 5)] [])
 (.store 32 (.var 2) (.var 13) []))
 .ret)))),
  [(.ld (some 32) (.var 2))]⟩
theorem okx_108 : FnOk Tryz.prog 3 377 108 xf108 := fnOk_of Tryz.func108 (np := 2) (V := [0, 1, 4, 9, 10, 5, 13, 12, 11, 7, 16, 19, 20, 23]) (ks := [[2, 5, 6, 7, 8]]) (by kernel_rfl)

/- tipstaff/verify.Helpers -/
def xf109 : XF := ⟨1, [0, 2, 3, 8, 7, 6, 5, 11, 14, 20, 21, 26],
  (.seq
 (.set 1 (.const (.slice none 0 0)))
 (.seq
 (.set 2 (.const (.slice none 0 0)))
 (.seq
 (.seq
 (.seq
 (.set 5 (.var 0))
 (.seq
 (.set 4 (.len false (.var 5)))
 (.set 3 (.const (.int .i64 0)))))
 (.block 0
 (.loop [2, 3, 4, 5]
 (.seq
 (.cond (.bin .lss (.var 3) (.var 4))
 .skip
 (.exit 0))
 (.seq
 (.block 1
 (.seq
 (.seq
 (.set 7 (.ld (some 5) (.ixSl 5 (.var 5) (.var 3))))
 (.seq
 (.new (some 6) 32 (.const zA2))
 (.store 5 (.var 6) (.var 7) [])))
 (.seq
 (.call (some 8) 90 [(.ld none (.offp 0 (.var 6)))] [])
 (.cond (.bin .eql (.part none 0 (.var 8)) (.const (.int .i64 4)))
 (.seq
 (.chk [(.var 2)])
 (.seq
 (.row (some 9) 21 1 (.upd 0 1 (.const (.agg #[(.int .i32 0)])) (.ld none (.offp 4 (.var 6)))))
 (.seq
 (.app (some 10) 21 1 (.var 2) (.var 9) [])
 (.set 2 (.var 10)))))
 .skip))))
 (.set 3 (.bin .add (.var 3) (.const (.int .i64 1)))))))))
 (.seq
 (.call none 188 [(.var 2)] [])
 (.seq
 (.seq
 (.call (some 11) 189 [(.var 2)] [])
 (.set 1 (.var 11)))
 .ret))))),
  [(.var 1)]⟩
theorem okx_109 : FnOk Tryz.prog 3 377 109 xf109 := fnOk_of Tryz.func109 (np := 1) (V := [0, 2, 3, 8, 7, 6, 5, 11, 14, 20, 21, 26]) (ks := [[2, 3, 4, 5]]) (by kernel_rfl)

/- tipstaff/token.Helper -/
def xf110 : XF := ⟨2, [0, 1, 4, 9, 5, 6, 15, 18],
  (.seq
 (.set 2 (.const (.int .i64 0)))
 (.seq
 (.seq
 (.call (some 3) 190 [(.var 1)] [])
 (.seq
 (.chk [(.proj 1 (.var 3))])
 (.seq
 (.set 4 (.proj 0 (.var 3)))
 (.set 5 (.proj 1 (.var 3))))))
 (.seq
 (.cond (.un .not (.var 5))
 (.seq
 (.set 2 (.const (.int .i64 22)))
 .ret)
 .skip)
 (.seq
 (.seq
 (.call (some 6) 105 [(.var 0)] [])
 (.seq
 (.call (some 7) 104 [(.part none 3 (.var 6)), (.var 4)] [])
 (.set 2 (.var 7))))
 .ret)))),
  [(.var 2)]⟩
theorem okx_110 : FnOk Tryz.prog 3 377 110 xf110 := fnOk_of Tryz.func110 (np := 2) (V := [0, 1, 4, 9, 5, 6, 15, 18]) (ks := []) (by kernel_rfl)

/- tipstaff/token.Map -/
def xf111 : XF := ⟨2, [0, 1, 4, 6, 9],
  (.seq
 (.set 2 (.const (.int .i64 0)))
 (.seq
 (.seq
 (.call (some 3) 105 [(.var 0)] [])
 (.seq
 (.call (some 4) 104 [(.part none 2 (.var 3)), (.var 1)] [])
 (.set 2 (.var 4))))
 .ret)),
  [(.var 2)]⟩
theorem okx_111 : FnOk Tryz.prog 3 377 111 xf111 := fnOk_of Tryz.func111 (np := 2) (V := [0, 1, 4, 6, 9]) (ks := []) (by kernel_rfl)

/- (*tipstaff/bmap.Map).Spec -/
def xf112 : XF := ⟨1, [0, 2],
  (.seq
 (.new (some 1) 24 (.const (.agg (Array.replicate 4 (.int .i64 0)))))
 (.seq
 (.cond (.isnil 0 false (.var 0))
 (.seq
 (.store 4 (.var 1) (.const (.agg (Array.replicate 4 (.int .i64 0)))) [])
 .ret)
 .skip)
 (.seq
 (.store 4 (.var 1) (.ld (some 4) (.offp 0 (.nn (.var 0)))) [])
 .ret))),
  [(.ld (some 4) (.var 1))]⟩
theorem okx_112 : FnOk Tryz.prog 3 377 112 xf112 := fnOk_of Tryz.func112 (np := 1) (V := [0, 2]) (ks := []) (by kernel_rfl)

/- (*tipstaff/bmap.Map).Frozen -/
def xf113 : XF := ⟨1, [0, 2],
  (.seq
 (.set 1 (.const (.bool false)))
 (.seq
 (.set 1 (.pick (.isnil 0 true (.var 0)) (.ld none (.offp 5 (.nn (.var 0)))) (.const (.bool false))))
 .ret)),
  [(.var 1)]⟩
theorem okx_113 : FnOk Tryz.prog 3 377 113 xf113 := fnOk_of Tryz.func113 (np := 1) (V := [0, 2]) (ks := []) (by kernel_rfl)

/- (*tipstaff/space.Tree).Depth -/
def xf118 : XF := ⟨2, [0, 1, 4, 5, 11, 6, 7],
  (.seq
 (.seq
 (.set 2 (.const (.int .i64 0)))
 (.set 3 (.const (.int .i64 0))))
 (.seq
 (.seq
 (.call (some 4) 193 [(.var 0), (.var 1)] [])
 (.seq
 (.chk [(.proj 1 (.var 4)), (.proj 0 (.var 4))])
 (.seq
 (.new (some 5) 312 (.const (.agg #[(.int .i64 0), (.int .i64 0)])))
 (.seq
 (.store 2 (.var 5) (.proj 0 (.var 4)) [])
 (.set 6 (.proj 1 (.var 4)))))))
 (.seq
 (.seq
 (.chk [(.var 6)])
 (.seq
 (.set 2 (.ld none (.offp 1 (.var 5))))
 (.set 3 (.var 6))))
 .ret))),
  [(.var 2), (.var 3)]⟩
theorem okx_118 : FnOk Tryz.prog 3 377 118 xf118 := fnOk_of Tryz.func118 (np := 2) (V := [0, 1, 4, 5, 11, 6, 7]) (ks := []) (by kernel_rfl)

/- tipstaff/rights.Within -/
def xf119 : XF := ⟨2, [0, 1, 4, 2, 3, 7, 8],
  (.seq
 (.seq
 (.new (some 3) 69 (.var 0))
 (.seq
 (.new (some 4) 69 (.var 1))
 (.set 2 (.const (.bool false)))))
 (.seq
 (.seq
 .skip
 (.seq
 (.chk [(.ld (some 6) (.var 4))])
 (.seq
 (.set 6 (.ld (some 6) (.var 3)))
 (.seq
 (.call (some 5) 194 [(.ld (some 6) (.var 3)), (.ld (some 6) (.var 4))] [(.ld (some 6) (.var 3))])
 (.set 2 (.eqx false (.cons 0 none .int (.cons 1 none .int (.cons 2 none .int (.cons 3 none .int (.cons 4 none .bool (.cons 5 none .bool .nil)))))) (.var 5) (.var 6)))))))
 .ret)),
  [(.var 2)]⟩
theorem okx_119 : FnOk Tryz.prog 3 377 119 xf119 := fnOk_of Tryz.func119 (np := 2) (V := [0, 1, 4, 2, 3, 7, 8]) (ks := []) (by kernel_rfl)

/- slices.Index[[]*tipstaff/bmap.Map,*tipstaff/bmap.Map] -/
def xf120 : XF := ⟨2, [0, 1, 4, 8, 7, 5],
  (.seq
 (.set 2 (.const (.int .i64 0)))
 (.seq
 (.seq
 (.seq
 (.set 4 (.len false (.var 0)))
 (.set 3 (.const (.int .i64 0))))
 (.block 0
 (.loop [0, 1, 3, 4]
 (.seq
 (.cond (.bin .lss (.var 3) (.var 4))
 .skip
 (.exit 0))
 (.seq
 (.block 1
 (.seq
 (.set 5 (.var 3))
 (.cond (.eqx false .ptr (.var 1) (.ld none (.ixSl 1 (.var 0) (.var 5))))
 (.seq
 (.set 2 (.var 5))
 .ret)
 .skip)))
 (.set 3 (.bin .add (.var 3) (.const (.int .i64 1)))))))))
 (.seq
 (.set 2 (.const (.int .i64 (-1))))
 .ret))),
  [(.var 2)]⟩
theorem okx_120 : FnOk Tryz.prog 3 377 120 xf120 := fnOk_of Tryz.func120 (np := 2) (V := [0, 1, 4, 8, 7, 5]) (ks := [[0, 1, 3, 4]]) (by kernel_rfl)
end Go.Proofs.YtmpgfgemnhbkhaaGreatDoor
