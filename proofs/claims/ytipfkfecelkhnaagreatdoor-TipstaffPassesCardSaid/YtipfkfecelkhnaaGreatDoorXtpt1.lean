/- The interpreter's functions, part 1: made by program (geny.py). -/
import Derived.Test.YtipfkfecelkhnaaGreatDoorXtpz
import Derived.Test.YtipfkfecelkhnaaGreatDoorProg
set_option maxRecDepth 100000
set_option linter.unusedVariables false
namespace Go.Proofs.YtipfkfecelkhnaaGreatDoor
open Go.Eng
/- slices.Index[[]int,int] -/
def xf74 : XF := ⟨2, [0, 1, 4, 8, 7, 5],
  (.seq
 (.set 2 (.const (.int .i64 0)))
 (.seq
 (.seq
 (.seq
 (.set 4 (.len false (.var 0)))
 (.set 3 (.const (.int .i64 0))))
 (.block 0
 (.loop [0, 1, 3, 4]
 (.seq
 (.cond (.bin .lss (.var 3) (.var 4))
 .skip
 (.exit 0))
 (.seq
 (.block 1
 (.seq
 (.set 5 (.var 3))
 (.cond (.bin .eql (.var 1) (.ld none (.ixSl 1 (.var 0) (.var 5))))
 (.seq
 (.set 2 (.var 5))
 .ret)
 .skip)))
 (.set 3 (.bin .add (.var 3) (.const (.int .i64 1)))))))))
 (.seq
 (.set 2 (.const (.int .i64 (-1))))
 .ret))),
  [(.var 2)]⟩
theorem okx_74 : FnOk Tryz.prog 3 365 74 xf74 := fnOk_of Tryz.func74 (np := 2) (V := [0, 1, 4, 8, 7, 5]) (ks := [[0, 1, 3, 4]]) (by kernel_rfl)

/- (*tipstaff/objtab.Table[tipstaff/gate.Object]).find -/
def xf77 : XF := ⟨2, [0, 1, 4, 5, 16, 6, 7],
  (.seq
 (.seq
 (.set 2 (.const (.pointer none)))
 (.set 3 (.const (.int .i64 0))))
 (.seq
 (.cond (.isnil 0 false (.var 0))
 (.seq
 (.seq
 (.set 2 (.const (.pointer none)))
 (.set 3 (.const (.int .i64 22))))
 .ret)
 .skip)
 (.seq
 (.seq
 (.look (some 4) (.pointer none) true .i64 (.ld none (.offp 2 (.nn (.var 0)))) (.var 1) [])
 (.seq
 (.chk [(.proj 1 (.var 4))])
 (.seq
 (.set 5 (.proj 0 (.var 4)))
 (.set 6 (.proj 1 (.var 4))))))
 (.seq
 (.cond (.un .not (.var 6))
 (.seq
 (.seq
 (.set 2 (.const (.pointer none)))
 (.set 3 (.const (.int .i64 2))))
 .ret)
 .skip)
 (.seq
 (.seq
 (.set 2 (.var 5))
 (.set 3 (.const (.int .i64 0))))
 .ret))))),
  [(.var 2), (.var 3)]⟩
theorem okx_77 : FnOk Tryz.prog 3 365 77 xf77 := fnOk_of Tryz.func77 (np := 2) (V := [0, 1, 4, 5, 16, 6, 7]) (ks := []) (by kernel_rfl)

/- tipstaff/token.Program -/
def xf78 : XF := ⟨2, [0, 1, 4, 6, 9],
  (.seq
 (.set 2 (.const (.int .i64 0)))
 (.seq
 (.seq
 (.call (some 3) 103 [(.var 0)] [])
 (.seq
 (.call (some 4) 102 [(.part none 1 (.var 3)), (.var 1)] [])
 (.set 2 (.var 4))))
 .ret)),
  [(.var 2)]⟩
theorem okx_78 : FnOk Tryz.prog 3 365 78 xf78 := fnOk_of Tryz.func78 (np := 2) (V := [0, 1, 4, 6, 9]) (ks := []) (by kernel_rfl)

/- slices.Contains[[]*tipstaff/bmap.Map,*tipstaff/bmap.Map] -/
def xf79 : XF := ⟨2, [0, 1, 4, 7],
  (.seq
 (.set 2 (.const (.bool false)))
 (.seq
 (.seq
 (.call (some 3) 129 [(.var 0), (.var 1)] [])
 (.set 2 (.bin .geq (.var 3) (.const (.int .i64 0)))))
 .ret)),
  [(.var 2)]⟩
theorem okx_79 : FnOk Tryz.prog 3 365 79 xf79 := fnOk_of Tryz.func79 (np := 2) (V := [0, 1, 4, 7]) (ks := []) (by kernel_rfl)

/- tipstaff/loader.may -/
def xf80 : XF := ⟨4, [0, 1, 2, 3, 8, 16, 18, 17, 10, 24, 11, 31, 30, 29, 13, 37, 39, 14],
  (.seq
 (.set 4 (.const (.int .i64 0)))
 (.seq
 (.seq
 (.seq
 (.call (some 5) 130 [(.var 1)] [])
 (.seq
 (.set 7 (.len false (.var 5)))
 (.set 6 (.const (.int .i64 0)))))
 (.block 0
 (.loop [0, 2, 3, 5, 6, 7]
 (.seq
 (.cond (.bin .lss (.var 6) (.var 7))
 .skip
 (.exit 0))
 (.seq
 (.block 1
 (.seq
 (.set 8 (.ld none (.ixSl 1 (.var 5) (.var 6))))
 (.seq
 (.seq
 (.call (some 9) 131 [(.var 0), (.var 8)] [])
 (.set 10 (.var 9)))
 (.cond (.bin .neq (.var 10) (.const (.int .i64 0)))
 (.seq
 (.set 4 (.var 10))
 .ret)
 .skip))))
 (.set 6 (.bin .add (.var 6) (.const (.int .i64 1)))))))))
 (.seq
 (.seq
 (.seq
 (.set 13 (.var 2))
 (.seq
 (.set 12 (.len false (.var 13)))
 (.set 11 (.const (.int .i64 0)))))
 (.block 2
 (.loop [0, 3, 11, 12, 13]
 (.seq
 (.cond (.bin .lss (.var 11) (.var 12))
 .skip
 (.exit 2))
 (.seq
 (.block 3
 (.seq
 (.set 14 (.ld none (.ixSl 1 (.var 13) (.var 11))))
 (.seq
 (.seq
 (.chk [(.var 0)])
 (.seq
 (.call (some 15) 132 [(.var 14)] [])
 (.seq
 (.call (some 16) 104 [(.var 0), (.part none 0 (.var 15))] [])
 (.set 17 (.var 16)))))
 (.cond (.bin .neq (.var 17) (.const (.int .i64 0)))
 (.seq
 (.set 4 (.var 17))
 .ret)
 .skip))))
 (.set 11 (.bin .add (.var 11) (.const (.int .i64 1)))))))))
 (.seq
 (.cond (.pick (.var 3) (.un .not (.ld none (.offp 4 (.offp 1 (.nn (.var 0)))))) (.const (.bool false)))
 (.seq
 (.set 4 (.const (.int .i64 1)))
 .ret)
 .skip)
 (.seq
 (.set 4 (.const (.int .i64 0)))
 .ret))))),
  [(.var 4)]⟩
theorem okx_80 : FnOk Tryz.prog 3 365 80 xf80 := fnOk_of Tryz.func80 (np := 4) (V := [0, 1, 2, 3, 8, 16, 18, 17, 10, 24, 11, 31, 30, 29, 13, 37, 39, 14]) (ks := [[0, 2, 3, 5, 6, 7], [0, 3, 11, 12, 13]]) (by kernel_rfl)

/- (*tipstaff/space.Tree).Depth -/
def xf81 : XF := ⟨2, [0, 1, 4, 5, 11, 6, 7],
  (.seq
 (.seq
 (.set 2 (.const (.int .i64 0)))
 (.set 3 (.const (.int .i64 0))))
 (.seq
 (.seq
 (.call (some 4) 122 [(.var 0), (.var 1)] [])
 (.seq
 (.chk [(.proj 1 (.var 4)), (.proj 0 (.var 4))])
 (.seq
 (.new (some 5) 227 (.const (.agg #[(.int .i64 0), (.int .i64 0)])))
 (.seq
 (.store 2 (.var 5) (.proj 0 (.var 4)) [])
 (.set 6 (.proj 1 (.var 4)))))))
 (.seq
 (.seq
 (.chk [(.var 6)])
 (.seq
 (.set 2 (.ld none (.offp 1 (.var 5))))
 (.set 3 (.var 6))))
 .ret))),
  [(.var 2), (.var 3)]⟩
theorem okx_81 : FnOk Tryz.prog 3 365 81 xf81 := fnOk_of Tryz.func81 (np := 2) (V := [0, 1, 4, 5, 11, 6, 7]) (ks := []) (by kernel_rfl)

/- tipstaff/rights.Within -/
def xf82 : XF := ⟨2, [0, 1, 4, 2, 3, 7, 8],
  (.seq
 (.seq
 (.new (some 3) 33 (.var 0))
 (.seq
 (.new (some 4) 33 (.var 1))
 (.set 2 (.const (.bool false)))))
 (.seq
 (.seq
 .skip
 (.seq
 (.chk [(.ld (some 6) (.var 4))])
 (.seq
 (.set 6 (.ld (some 6) (.var 3)))
 (.seq
 (.call (some 5) 133 [(.ld (some 6) (.var 3)), (.ld (some 6) (.var 4))] [(.ld (some 6) (.var 3))])
 (.set 2 (.eqx false (.cons 0 none .int (.cons 1 none .int (.cons 2 none .int (.cons 3 none .int (.cons 4 none .bool (.cons 5 none .bool .nil)))))) (.var 5) (.var 6)))))))
 .ret)),
  [(.var 2)]⟩
theorem okx_82 : FnOk Tryz.prog 3 365 82 xf82 := fnOk_of Tryz.func82 (np := 2) (V := [0, 1, 4, 2, 3, 7, 8]) (ks := []) (by kernel_rfl)

/- tipstaff/verify.Check -/
def xf85 : XF := ⟨2, [0, 1, 4, 5, 3, 14, 6, 7, 27, 8, 33, 32, 35, 9, 37, 39, 44],
  (.seq
 (.seq
 (.new (some 4) 181 (.var 1))
 (.seq
 (.new (some 2) 175 (.const (.agg #[(.int .i64 0), (.int .i64 0)])))
 (.set 3 (.const (.int .i64 0)))))
 (.seq
 (.seq
 (.seq
 (.call (some 5) 135 [(.var 0), (.ld none (.offp 2 (.var 4)))] [])
 (.seq
 (.chk [(.proj 1 (.var 5))])
 (.seq
 (.set 6 (.proj 0 (.var 5)))
 (.set 7 (.proj 1 (.var 5))))))
 (.cond (.bin .neq (.var 7) (.const (.int .i64 0)))
 (.seq
 (.cond (.bin .eql (.var 7) (.const (.int .i64 7)))
 (.seq
 (.seq
 (.chk [(.var 7)])
 (.seq
 (.store 2 (.var 2) (.const (.agg #[(.int .i64 0), (.int .i64 0)])) [])
 (.set 3 (.var 7))))
 .ret)
 .skip)
 (.seq
 (.seq
 (.chk [(.upd 0 1 (.const (.agg #[(.int .i64 0), (.int .i64 0)])) (.var 6))])
 (.seq
 (.store 2 (.var 2) (.upd 0 1 (.const (.agg #[(.int .i64 0), (.int .i64 0)])) (.var 6)) [])
 (.set 3 (.const (.int .i64 22)))))
 .ret))
 .skip))
 (.seq
 (.seq
 (.call (some 8) 136 [(.ld none (.offp 0 (.var 4))), (.const (.func (.func 137) #[] #[]))] [])
 (.cond (.var 8)
 (.seq
 (.seq
 (.store 2 (.var 2) (.const (.agg #[(.int .i64 0), (.int .i64 0)])) [])
 (.set 3 (.const (.int .i64 22))))
 .ret)
 .skip))
 (.seq
 (.set 9 (.const (.int .i64 512)))
 (.seq
 (.cond (.ld none (.offp 2 (.var 4)))
 (.set 9 (.const (.int .i64 2048)))
 .skip)
 (.seq
 (.seq
 (.chk [(.var 0)])
 (.seq
 (.set 11 (.ld (some 3) (.var 4)))
 (.seq
 (.mkmap (some 10) .i64 [])
 (.seq
 (.chk [(.upd 5 1 (.upd 1 3 (.upd 0 1 (.const (.agg #[(.slice none 0 0), (.slice none 0 0), (.slice none 0 0), (.bool false), (.slice none 0 0), (.map none), (.int .i64 0)])) (.var 0)) (.var 11)) (.var 10))])
 (.seq
 (.new (some 12) 251 (.upd 5 1 (.upd 1 3 (.upd 0 1 (.const (.agg #[(.slice none 0 0), (.slice none 0 0), (.slice none 0 0), (.bool false), (.slice none 0 0), (.map none), (.int .i64 0)])) (.var 0)) (.var 11)) (.var 10)))
 (.set 13 (.var 12)))))))
 (.seq
 (.seq
 (.chk [(.var 13)])
 (.seq
 (.call (some 14) 138 [] [])
 (.seq
 (.chk [(.upd 1 273 (.upd 0 1 (.const zA18) (.const (.int .i64 0))) (.var 14))])
 (.seq
 (.row (some 15) 265 1 (.upd 0 274 (.const zA18) (.upd 1 273 (.upd 0 1 (.const zA18) (.const (.int .i64 0))) (.var 14))))
 (.store 1 (.offp 4 (.nn (.var 13))) (.var 15) [])))))
 (.seq
 (.seq
 (.call (some 16) 139 [(.var 13), (.var 9)] [])
 (.seq
 (.chk [(.proj 1 (.var 16))])
 (.seq
 (.store 2 (.var 2) (.proj 0 (.var 16)) [])
 (.set 3 (.proj 1 (.var 16))))))
 .ret)))))))),
  [(.ld (some 2) (.var 2)), (.var 3)]⟩
theorem okx_85 : FnOk Tryz.prog 3 365 85 xf85 := fnOk_of Tryz.func85 (np := 2) (V := [0, 1, 4, 5, 3, 14, 6, 7, 27, 8, 33, 32, 35, 9, 37, 39, 44]) (ks := []) (by kernel_rfl)

/- tipstaff/loader.env -/
def xf86 : XF := ⟨2, [0, 1, 4, 5, 12, 11, 10, 7, 19, 20, 17, 21, 26, 27, 24, 28],
  (.seq
 (.new (some 2) 181 (.const (.agg #[(.slice none 0 0), (.slice none 0 0), (.bool false)])))
 (.seq
 (.seq
 (.chk [(.upd 2 1 (.const (.agg #[(.slice none 0 0), (.slice none 0 0), (.bool false)])) (.var 1))])
 (.seq
 (.new (some 3) 181 (.const (.agg #[(.slice none 0 0), (.slice none 0 0), (.bool false)])))
 (.store 3 (.var 3) (.upd 2 1 (.const (.agg #[(.slice none 0 0), (.slice none 0 0), (.bool false)])) (.var 1)) [])))
 (.seq
 (.seq
 (.seq
 (.set 6 (.var 0))
 (.seq
 (.set 5 (.len false (.var 6)))
 (.set 4 (.const (.int .i64 0)))))
 (.block 0
 (.loop [2, 3, 4, 5, 6]
 (.seq
 (.cond (.bin .lss (.var 4) (.var 5))
 .skip
 (.exit 0))
 (.seq
 (.block 1
 (.seq
 (.set 7 (.ld none (.ixSl 1 (.var 6) (.var 4))))
 (.seq
 (.seq
 .skip
 (.seq
 (.set 10 (.ld none (.offp 0 (.var 3))))
 (.seq
 (.call (some 8) 132 [(.var 7)] [(.ld none (.offp 0 (.var 3)))])
 (.seq
 (.row (some 9) 36 1 (.upd 0 4 (.const (.agg (Array.replicate 4 (.int .i64 0)))) (.var 8)))
 (.seq
 (.app (some 11) 36 4 (.var 10) (.var 9) [])
 (.store 1 (.offp 0 (.var 3)) (.var 11) []))))))
 (.seq
 .skip
 (.seq
 (.set 14 (.ld none (.offp 1 (.var 3))))
 (.seq
 (.call (some 12) 140 [(.var 7)] [(.ld none (.offp 1 (.var 3)))])
 (.seq
 (.row (some 13) 4 1 (.upd 0 1 (.const (.agg #[(.bool false)])) (.var 12)))
 (.seq
 (.app (some 15) 4 1 (.var 14) (.var 13) [])
 (.store 1 (.offp 1 (.var 3)) (.var 15) [])))))))))
 (.set 4 (.bin .add (.var 4) (.const (.int .i64 1)))))))))
 (.seq
 (.store 3 (.var 2) (.ld (some 3) (.var 3)) [])
 .ret)))),
  [(.ld (some 3) (.var 2))]⟩
theorem okx_86 : FnOk Tryz.prog 3 365 86 xf86 := fnOk_of Tryz.func86 (np := 2) (V := [0, 1, 4, 5, 12, 11, 10, 7, 19, 20, 17, 21, 26, 27, 24, 28]) (ks := [[2, 3, 4, 5, 6]]) (by kernel_rfl)

/- slices.Clone[[]*tipstaff/bmap.Map,*tipstaff/bmap.Map] -/
def xf88 : XF := ⟨1, [0, 2, 5, 7],
  (.seq
 (.set 1 (.const (.slice none 0 0)))
 (.seq
 (.cond (.isnil 1 false (.var 0))
 (.seq
 (.set 1 (.const (.slice none 0 0)))
 .ret)
 .skip)
 (.seq
 (.seq
 (.row (some 2) 56 0 (.const (.agg #[])))
 (.seq
 (.app (some 3) 56 1 (.var 2) (.var 0) [])
 (.set 1 (.var 3))))
 .ret))),
  [(.var 1)]⟩
theorem okx_88 : FnOk Tryz.prog 3 365 88 xf88 := fnOk_of Tryz.func88 (np := 1) (V := [0, 2, 5, 7]) (ks := []) (by kernel_rfl)

/- tipstaff/canon.Slots -/
def xf99 : XF := ⟨1, [0, 2, 3, 4, 11, 5, 6, 14, 13, 12, 8, 7, 18, 20, 25, 9, 33, 34],
  (.seq
 (.seq
 (.set 1 (.const (.slice none 0 0)))
 (.seq
 (.set 2 (.const (.slice none 0 0)))
 (.set 3 (.const (.int .i64 0)))))
 (.seq
 (.seq
 (.call (some 4) 147 [(.var 0)] [])
 (.set 5 (.var 4)))
 (.seq
 (.set 6 (.const (.slice none 0 0)))
 (.seq
 (.seq
 (.seq
 (.set 9 (.var 5))
 (.seq
 (.set 8 (.len false (.var 9)))
 (.set 7 (.const (.int .i64 0)))))
 (.block 0
 (.loop [5, 6, 7, 8, 9]
 (.seq
 (.cond (.bin .lss (.var 7) (.var 8))
 .skip
 (.exit 0))
 (.seq
 (.block 1
 (.seq
 (.seq
 (.set 12 (.ld (some 5) (.ixSl 5 (.var 9) (.var 7))))
 (.seq
 (.new (some 10) 46 (.const zA2))
 (.seq
 (.set 11 (.var 7))
 (.store 5 (.var 10) (.var 12) []))))
 (.seq
 (.seq
 (.call (some 13) 148 [(.ld (some 5) (.var 10))] [])
 (.cond (.un .not (.var 13))
 (.exit 1)
 .skip))
 (.seq
 (.seq
 (.call (some 14) 149 [(.var 6), (.ld none (.offp 4 (.var 10)))] [])
 (.set 15 (.var 14)))
 (.seq
 (.cond (.bin .lss (.var 15) (.const (.int .i64 0)))
 (.seq
 (.set 15 (.len false (.var 6)))
 (.seq
 (.chk [(.var 6)])
 (.seq
 (.row (some 16) 21 1 (.upd 0 1 (.const (.agg #[(.int .i32 0)])) (.ld none (.offp 4 (.var 10)))))
 (.seq
 (.app (some 17) 21 1 (.var 6) (.var 16) [])
 (.set 6 (.var 17))))))
 .skip)
 (.store 1 (.offp 4 (.ixSl 5 (.var 5) (.var 11))) (.conv .i32 (.var 15)) []))))))
 (.set 7 (.bin .add (.var 7) (.const (.int .i64 1)))))))))
 (.seq
 (.cond (.bin .gtr (.len false (.var 6)) (.const (.int .i64 4)))
 (.seq
 (.seq
 (.set 1 (.const (.slice none 0 0)))
 (.seq
 (.set 2 (.const (.slice none 0 0)))
 (.set 3 (.const (.int .i64 7)))))
 .ret)
 .skip)
 (.seq
 (.seq
 (.chk [(.var 6)])
 (.seq
 (.set 1 (.var 5))
 (.seq
 (.set 2 (.var 6))
 (.set 3 (.const (.int .i64 0))))))
 .ret)))))),
  [(.var 1), (.var 2), (.var 3)]⟩
theorem okx_99 : FnOk Tryz.prog 3 365 99 xf99 := fnOk_of Tryz.func99 (np := 1) (V := [0, 2, 3, 4, 11, 5, 6, 14, 13, 12, 8, 7, 18, 20, 25, 9, 33, 34]) (ks := [[5, 6, 7, 8, 9]]) (by kernel_rfl)

/- tipstaff/canon.Sum -/
def xf101 : XF := ⟨2, [0, 1, 4, 9, 10, 5, 13, 12, 11, 7, 16, 19, 20, 23],
  (.seq
 (.new (some 2) 40 (.const (.agg (Array.replicate 32 (.int .u8 0)))))
 (.seq
 (.seq
 (.call (some 3) 155 [(.var 0)] [])
 (.seq
 (.row (some 4) 27 1 (.upd 0 1 (.const (.agg #[(.slice none 0 0)])) (.var 3)))
 (.set 5 (.var 4))))
 (.seq
 (.seq
 (.seq
 (.set 8 (.var 1))
 (.seq
 (.set 7 (.len false (.var 8)))
 (.set 6 (.const (.int .i64 0)))))
 (.block 0
 (.loop [2, 5, 6, 7, 8]
 (.seq
 (.cond (.bin .lss (.var 6) (.var 7))
 .skip
 (.exit 0))
 (.seq
 (.block 1
 (.seq
 (.seq
 (.set 10 (.ld (some 32) (.ixSl 32 (.var 8) (.var 6))))
 (.seq
 (.new (some 9) 40 (.const (.agg (Array.replicate 32 (.int .u8 0)))))
 (.store 32 (.var 9) (.var 10) [])))
 (.seq
 (.chk [(.var 5)])
 (.seq
 (.row (some 11) 27 1 (.upd 0 1 (.const (.agg #[(.slice none 0 0)])) (.slArr 32 1 (.var 9) (.const (.int .i64 0)) (.const (.int .i64 32)))))
 (.seq
 (.app (some 12) 27 1 (.var 5) (.var 11) [])
 (.set 5 (.var 12)))))))
 (.set 6 (.bin .add (.var 6) (.const (.int .i64 1)))))))))
 (.seq
 (.seq
 (.call (some 13) 154 [(.var 5)] [])
 (.store 32 (.var 2) (.var 13) []))
 .ret)))),
  [(.ld (some 32) (.var 2))]⟩
theorem okx_101 : FnOk Tryz.prog 3 365 101 xf101 := fnOk_of Tryz.func101 (np := 2) (V := [0, 1, 4, 9, 10, 5, 13, 12, 11, 7, 16, 19, 20, 23]) (ks := [[2, 5, 6, 7, 8]]) (by kernel_rfl)

/- tipstaff/token.has -/
def xf102 : XF := ⟨2, [0, 1, 4, 5, 12],
  (.seq
 (.set 2 (.const (.int .i64 0)))
 (.seq
 (.block 0
 (.seq
 (.set 3 (.pick (.bin .lss (.var 1) (.const (.int .i64 0))) (.const (.bool true)) (.bin .geq (.var 1) (.const (.int .i64 16)))))
 (.cond (.var 3)
 (.seq
 (.set 2 (.const (.int .i64 22)))
 .ret)
 (.seq
 (.set 4 (.bin .eql (.bin .and (.bin .shr (.var 0) (.var 1)) (.const (.int .u16 1))) (.const (.int .u16 0))))
 (.cond (.var 4)
 (.seq
 (.set 2 (.const (.int .i64 1)))
 .ret)
 .skip)))))
 (.seq
 (.set 2 (.const (.int .i64 0)))
 .ret))),
  [(.var 2)]⟩
theorem okx_102 : FnOk Tryz.prog 3 365 102 xf102 := fnOk_of Tryz.func102 (np := 2) (V := [0, 1, 4, 5, 12]) (ks := []) (by kernel_rfl)

/- tipstaff/token.of -/
def xf103 : XF := ⟨1, [0, 2],
  (.seq
 (.new (some 1) 33 (.const zA4))
 (.seq
 (.cond (.isnil 0 false (.var 0))
 (.seq
 (.store 6 (.var 1) (.const zA4) [])
 .ret)
 .skip)
 (.seq
 (.store 6 (.var 1) (.ld (some 6) (.offp 1 (.nn (.var 0)))) [])
 .ret))),
  [(.ld (some 6) (.var 1))]⟩
theorem okx_103 : FnOk Tryz.prog 3 365 103 xf103 := fnOk_of Tryz.func103 (np := 1) (V := [0, 2]) (ks := []) (by kernel_rfl)

/- tipstaff/loader.Fds -/
def xf105 : XF := ⟨1, [0, 2, 3, 1, 10, 4, 5, 6],
  (.seq
 (.seq
 (.new (some 3) 39 (.var 0))
 (.seq
 (.set 1 (.const (.slice none 0 0)))
 (.set 2 (.const (.int .i64 0)))))
 (.seq
 (.seq
 (.call (some 4) 99 [(.ld none (.offp 1 (.var 3)))] [])
 (.seq
 (.chk [(.proj 2 (.var 4)), (.proj 1 (.var 4))])
 (.seq
 (.set 5 (.proj 0 (.var 4)))
 (.seq
 (.set 6 (.proj 1 (.var 4)))
 (.set 7 (.proj 2 (.var 4)))))))
 (.seq
 (.seq
 (.chk [(.var 7)])
 (.seq
 (.set 1 (.var 6))
 (.set 2 (.var 7))))
 .ret))),
  [(.var 1), (.var 2)]⟩
theorem okx_105 : FnOk Tryz.prog 3 365 105 xf105 := fnOk_of Tryz.func105 (np := 1) (V := [0, 2, 3, 1, 10, 4, 5, 6]) (ks := []) (by kernel_rfl)

/- (*tipstaff/gate.Kernel).maps -/
def xf106 : XF := ⟨3, [0, 1, 2, 6, 7, 8, 9, 10, 18, 17, 16, 12, 27, 14, 13, 15, 36, 37, 40, 41, 42],
  (.seq
 (.seq
 (.set 3 (.const (.slice none 0 0)))
 (.seq
 (.set 4 (.const (.slice none 0 0)))
 (.set 5 (.const (.int .i64 0)))))
 (.seq
 (.set 6 (.const (.slice none 0 0)))
 (.seq
 (.set 7 (.const (.slice none 0 0)))
 (.seq
 (.seq
 (.seq
 (.set 10 (.var 2))
 (.seq
 (.set 9 (.len false (.var 10)))
 (.set 8 (.const (.int .i64 0)))))
 (.block 0
 (.loop [0, 1, 6, 7, 8, 9, 10]
 (.seq
 (.cond (.bin .lss (.var 8) (.var 9))
 .skip
 (.exit 0))
 (.seq
 (.block 1
 (.seq
 (.set 11 (.ld none (.ixSl 1 (.var 10) (.var 8))))
 (.seq
 (.seq
 (.call (some 12) 55 [(.var 0), (.var 1), (.conv .i64 (.var 11)), (.const (.int .i64 1))] [])
 (.seq
 (.chk [(.proj 2 (.var 12)), (.proj 1 (.var 12)), (.proj 0 (.var 12))])
 (.seq
 (.new (some 13) 80 (.const zA6))
 (.seq
 (.set 14 (.proj 0 (.var 12)))
 (.seq
 (.store 7 (.var 13) (.proj 1 (.var 12)) [])
 (.set 15 (.proj 2 (.var 12))))))))
 (.seq
 (.cond (.bin .neq (.var 15) (.const (.int .i64 0)))
 (.seq
 (.seq
 (.chk [(.var 15)])
 (.seq
 (.set 3 (.const (.slice none 0 0)))
 (.seq
 (.set 4 (.const (.slice none 0 0)))
 (.set 5 (.var 15)))))
 .ret)
 .skip)
 (.seq
 .skip
 (.seq
 (.chk [(.var 7), (.var 14), (.var 6)])
 (.seq
 (.set 18 (.ld none (.offp 4 (.var 13))))
 (.seq
 (.resv 2)
 (.seq
 (.seq
 (.set 16 (.const (.bool true)))
 (.seq
 (.set 19 (.const (.bool true)))
 .skip))
 (.seq
 (.chk [(.var 16), (.var 19)])
 (.seq
 (.clr [16, 19])
 (.seq
 (.chk [(.upd 0 1 (.const (.agg #[(.int .i64 0)])) (.var 14)), (.upd 0 1 (.const (.agg #[(.pointer none)])) (.var 18))])
 (.seq
 (.rowR 0 16 3 1 (.upd 0 1 (.const (.agg #[(.int .i64 0)])) (.var 14)))
 (.seq
 (.app (some 17) 3 1 (.var 6) (.var 16) [(.ld none (.offp 4 (.var 13)))])
 (.seq
 (.rowR 1 19 56 1 (.upd 0 1 (.const (.agg #[(.pointer none)])) (.var 18)))
 (.seq
 (.app (some 20) 56 1 (.var 7) (.var 19) [])
 (.seq
 (.set 6 (.var 17))
 (.seq
 (.set 7 (.var 20))
 .skip))))))))))))))))))
 (.set 8 (.bin .add (.var 8) (.const (.int .i64 1)))))))))
 (.seq
 (.seq
 (.chk [(.var 7)])
 (.seq
 (.set 3 (.var 6))
 (.seq
 (.set 4 (.var 7))
 (.set 5 (.const (.int .i64 0))))))
 .ret))))),
  [(.var 3), (.var 4), (.var 5)]⟩
theorem okx_106 : FnOk Tryz.prog 3 365 106 xf106 := fnOk_of Tryz.func106 (np := 3) (V := [0, 1, 2, 6, 7, 8, 9, 10, 18, 17, 16, 12, 27, 14, 13, 15, 36, 37, 40, 41, 42]) (ks := [[0, 1, 6, 7, 8, 9, 10]]) (by kernel_rfl)

/- (*tipstaff/gate.Kernel).ready -/
def xf107 : XF := ⟨5, [0, 1, 2, 3, 4, 10, 6, 11, 21, 32, 12, 13, 44, 49, 14, 15, 64, 16, 17, 73, 18, 79],
  (.seq
 (.seq
 (.new (some 6) 43 (.var 1))
 (.set 5 (.const (.int .i64 0))))
 (.seq
 (.seq
 (.set 8 (.ld (some 8) (.nn (.var 2))))
 (.seq
 (.new (some 7) 170 (.const zA7))
 (.store 8 (.var 7) (.var 8) [])))
 (.seq
 (.store 1 (.offp 5 (.offp 1 (.var 7))) (.const (.bool false)) [])
 (.seq
 (.seq
 (.seq
 .skip
 (.seq
 (.call (some 9) 46 [(.ld (some 4) (.offp 14 (.var 6))), (.var 4), (.var 7), (.ld none (.offp 1 (.nn (.var 0))))] [])
 (.seq
 (.chk [(.proj 1 (.var 9))])
 (.seq
 (.set 10 (.proj 0 (.var 9)))
 (.set 11 (.proj 1 (.var 9)))))))
 (.cond (.bin .neq (.var 11) (.const (.int .i64 0)))
 (.seq
 (.set 5 (.var 11))
 .ret)
 .skip))
 (.seq
 (.cond (.ld none (.offp 5 (.offp 1 (.nn (.var 2)))))
 (.seq
 (.seq
 (.call (some 12) 141 [(.var 4), (.const (.func (.func 156) #[] #[]))] [])
 (.cond (.var 12)
 (.seq
 (.set 5 (.const (.int .i64 1)))
 .ret)
 .skip))
 (.seq
 (.seq
 (.call (some 13) 20 [(.ld (some 4) (.offp 14 (.var 6))), (.var 4)] [])
 (.seq
 (.chk [(.proj 1 (.var 13)), (.proj 0 (.var 13))])
 (.seq
 (.new (some 14) 40 (.const (.agg (Array.replicate 32 (.int .u8 0)))))
 (.seq
 (.store 32 (.var 14) (.proj 0 (.var 13)) [])
 (.set 15 (.proj 1 (.var 13)))))))
 (.seq
 (.cond (.bin .neq (.var 15) (.const (.int .i64 0)))
 (.seq
 (.set 5 (.var 15))
 .ret)
 .skip)
 (.seq
 (.seq
 .skip
 (.seq
 (.call (some 16) 143 [(.ld none (.offp 1 (.nn (.var 0)))), (.ld (some 32) (.var 14)), (.ld none (.offp 3 (.offp 14 (.var 6))))] [])
 (.seq
 (.chk [(.proj 1 (.var 16))])
 (.seq
 (.set 17 (.proj 0 (.var 16)))
 (.set 18 (.proj 1 (.var 16)))))))
 (.cond (.bin .neq (.var 18) (.const (.int .i64 0)))
 (.seq
 (.set 5 (.var 18))
 .ret)
 .skip)))))
 .skip)
 (.seq
 (.seq
 (.seq
 (.call (some 19) 70 [(.var 0), (.ld none (.offp 0 (.var 6)))] [])
 (.set 20 (.var 19)))
 (.cond (.bin .neq (.var 20) (.const (.int .i64 0)))
 (.seq
 (.set 5 (.var 20))
 .ret)
 .skip))
 (.seq
 (.seq
 (.call (some 21) 109 [(.var 0), (.var 3)] [])
 (.set 5 (.var 21)))
 .ret))))))),
  [(.var 5)]⟩
theorem okx_107 : FnOk Tryz.prog 3 365 107 xf107 := fnOk_of Tryz.func107 (np := 5) (V := [0, 1, 2, 3, 4, 10, 6, 11, 21, 32, 12, 13, 44, 49, 14, 15, 64, 16, 17, 73, 18, 79]) (ks := []) (by kernel_rfl)

/- (*tipstaff/gate.Kernel).holdable -/
def xf109 : XF := ⟨2, [0, 1, 4, 9, 8, 7, 6, 18],
  (.seq
 (.set 2 (.const (.int .i64 0)))
 (.seq
 (.seq
 (.seq
 (.set 5 (.var 1))
 (.seq
 (.set 4 (.len false (.var 5)))
 (.set 3 (.const (.int .i64 0)))))
 (.block 0
 (.loop [0, 3, 4, 5]
 (.seq
 (.cond (.bin .lss (.var 3) (.var 4))
 .skip
 (.exit 0))
 (.seq
 (.block 1
 (.seq
 (.set 6 (.ld none (.ixSl 1 (.var 5) (.var 3))))
 (.seq
 (.call (some 7) 38 [(.ld none (.offp 2 (.nn (.var 0)))), (.var 6)] [])
 (.cond (.bin .geq (.var 7) (.const (.int .i64 1000)))
 (.seq
 (.set 2 (.const (.int .i64 28)))
 .ret)
 .skip))))
 (.set 3 (.bin .add (.var 3) (.const (.int .i64 1)))))))))
 (.seq
 (.set 2 (.const (.int .i64 0)))
 .ret))),
  [(.var 2)]⟩
theorem okx_109 : FnOk Tryz.prog 3 365 109 xf109 := fnOk_of Tryz.func109 (np := 2) (V := [0, 1, 4, 9, 8, 7, 6, 18]) (ks := [[0, 3, 4, 5]]) (by kernel_rfl)

/- tipstaff/region.New -/
def xf116 : XF := ⟨2, [0, 1, 4, 2, 6, 8, 5, 10],
  (.seq
 (.seq
 (.new (some 3) 40 (.var 0))
 (.set 2 (.const (.pointer none))))
 (.seq
 (.seq
 .skip
 (.seq
 (.set 6 (.ld (some 32) (.var 3)))
 (.seq
 (.chk [(.var 1)])
 (.seq
 (.row (some 4) 56 0 (.const (.agg #[])))
 (.seq
 (.app (some 5) 56 1 (.var 4) (.var 1) [(.ld (some 32) (.var 3))])
 (.seq
 (.chk [(.upd 192 1 (.upd 0 32 (.const zA16) (.var 6)) (.var 5))])
 (.seq
 (.new (some 7) 285 (.upd 192 1 (.upd 0 32 (.const zA16) (.var 6)) (.var 5)))
 (.set 2 (.var 7)))))))))
 .ret)),
  [(.var 2)]⟩
theorem okx_116 : FnOk Tryz.prog 3 365 116 xf116 := fnOk_of Tryz.func116 (np := 2) (V := [0, 1, 4, 2, 6, 8, 5, 10]) (ks := []) (by kernel_rfl)

/- (*tipstaff/vm.machine).step -/
def xf117 : XF := ⟨1, [0, 2, 3, 31, 42, 4, 44, 45, 50, 51, 56, 57, 65, 68, 72, 73, 89, 94, 95, 105, 98, 100, 106, 107, 112, 113, 117, 8, 25, 29],
  (.seq
 (.set 1 (.const (.bool false)))
 (.seq
 (.seq
 (.seq
 .skip
 (.set 27 (.ld none (.offp 82 (.nn (.var 0))))))
 (.cond (.pick (.bin .lss (.var 27) (.const (.int .i64 0))) (.const (.bool true)) (.bin .geq (.ld none (.offp 82 (.nn (.var 0)))) (.len false (.ld none (.offp 0 (.nn (.var 0)))))))
 (.seq
 (.set 1 (.const (.bool false)))
 .ret)
 .skip))
 (.seq
 (.seq
 .skip
 (.seq
 (.set 28 (.ld none (.offp 0 (.nn (.var 0)))))
 (.seq
 (.set 29 (.ld none (.offp 82 (.nn (.var 0)))))
 (.seq
 (.set 3 (.ld (some 5) (.ixSl 5 (.var 28) (.var 29))))
 (.seq
 (.new (some 2) 46 (.const zA2))
 (.store 5 (.var 2) (.var 3) []))))))
 (.seq
 (.cond (.pick (.bin .geq (.ld none (.offp 1 (.var 2))) (.const (.int .u8 11))) (.const (.bool true)) (.bin .geq (.ld none (.offp 2 (.var 2))) (.const (.int .u8 11))))
 (.seq
 (.set 1 (.const (.bool false)))
 .ret)
 .skip)
 (.seq
 (.seq
 (.call (some 4) 160 [(.ld none (.offp 0 (.var 2)))] [])
 (.seq
 (.new (some 5) 287 (.const zA3))
 (.store 5 (.var 5) (.var 4) [])))
 (.seq
 (.seq
 (.set 6 (.ld none (.offp 0 (.var 5))))
 (.block 0
 (.seq
 (.set 7 (.bin .eql (.var 6) (.const (.int .i64 1))))
 (.cond (.var 7)
 (.seq
 (.seq
 (.call (some 8) 161 [(.var 0), (.ld (some 5) (.var 2)), (.ld (some 5) (.var 5))] [])
 (.set 1 (.var 8)))
 .ret)
 (.seq
 (.set 9 (.bin .eql (.var 6) (.const (.int .i64 2))))
 (.cond (.var 9)
 (.seq
 (.seq
 (.call (some 10) 162 [(.var 0), (.ld (some 5) (.var 2)), (.ld (some 5) (.var 5))] [])
 (.set 1 (.var 10)))
 .ret)
 (.seq
 (.set 11 (.bin .eql (.var 6) (.const (.int .i64 3))))
 (.cond (.var 11)
 (.seq
 (.seq
 .skip
 (.seq
 (.call (some 12) 163 [(.ld none (.offp 82 (.nn (.var 0)))), (.ld (some 5) (.var 2))] [])
 (.store 1 (.offp 82 (.nn (.var 0))) (.var 12) [])))
 (.seq
 (.set 1 (.const (.bool true)))
 .ret))
 (.seq
 (.set 13 (.bin .eql (.var 6) (.const (.int .i64 4))))
 (.cond (.var 13)
 (.seq
 (.seq
 (.call (some 14) 164 [(.var 0), (.ld (some 5) (.var 2))] [])
 (.set 1 (.var 14)))
 .ret)
 (.seq
 (.set 15 (.bin .eql (.var 6) (.const (.int .i64 5))))
 (.cond (.var 15)
 (.seq
 (.store 1 (.offp 83 (.nn (.var 0))) (.bin .eql (.ld none (.offp 0 (.ixArr 11 4 (.offp 38 (.nn (.var 0))) (.const (.int .i64 0))))) (.const (.int .i64 1))) [])
 (.seq
 (.set 1 (.ld none (.offp 83 (.nn (.var 0)))))
 .ret))
 (.seq
 (.set 16 (.bin .eql (.var 6) (.const (.int .i64 6))))
 (.cond (.var 16)
 (.seq
 (.seq
 (.call (some 17) 165 [(.var 0), (.ld (some 5) (.var 2)), (.ld (some 5) (.var 5))] [])
 (.set 1 (.var 17)))
 .ret)
 (.seq
 (.set 18 (.bin .eql (.var 6) (.const (.int .i64 7))))
 (.cond (.var 18)
 (.seq
 (.seq
 .skip
 (.seq
 (.chk [(.var 0)])
 (.seq
 (.set 20 (.ld (some 5) (.var 2)))
 (.seq
 (.set 21 (.ld none (.offp 2 (.var 5))))
 (.seq
 (.call (some 19) 167 [(.var 0), (.ld (some 5) (.var 2)), (.ld none (.offp 4 (.var 5)))] [(.ld none (.offp 2 (.var 5))), (.ld (some 5) (.var 2))])
 (.seq
 (.call (some 22) 166 [(.var 0), (.var 20), (.var 21), (.var 19)] [])
 (.set 1 (.var 22))))))))
 .ret)
 (.seq
 (.set 23 (.bin .eql (.var 6) (.const (.int .i64 8))))
 (.cond (.var 23)
 (.seq
 (.seq
 (.call (some 24) 168 [(.var 0), (.ld (some 5) (.var 2)), (.ld (some 5) (.var 5))] [])
 (.set 1 (.var 24)))
 .ret)
 (.seq
 (.set 25 (.bin .eql (.var 6) (.const (.int .i64 9))))
 (.cond (.var 25)
 (.seq
 (.seq
 (.call (some 26) 169 [(.var 0), (.ld (some 5) (.var 2))] [])
 (.set 1 (.var 26)))
 .ret)
 .skip))))))))))))))))))))
 (.seq
 (.set 1 (.const (.bool false)))
 .ret))))))),
  [(.var 1)]⟩
theorem okx_117 : FnOk Tryz.prog 3 365 117 xf117 := fnOk_of Tryz.func117 (np := 1) (V := [0, 2, 3, 31, 42, 4, 44, 45, 50, 51, 56, 57, 65, 68, 72, 73, 89, 94, 95, 105, 98, 100, 106, 107, 112, 113, 117, 8, 25, 29]) (ks := []) (by kernel_rfl)

/- (*tipstaff/objtab.Table[tipstaff/gate.Object]).Drop -/
def xf118 : XF := ⟨2, [0, 1, 4, 5, 11, 6, 7],
  (.seq
 (.seq
 (.set 2 (.const (.bool false)))
 (.set 3 (.const (.int .i64 0))))
 (.seq
 (.seq
 (.call (some 4) 77 [(.var 0), (.var 1)] [])
 (.seq
 (.chk [(.proj 1 (.var 4))])
 (.seq
 (.set 5 (.proj 0 (.var 4)))
 (.set 6 (.proj 1 (.var 4))))))
 (.seq
 (.cond (.bin .neq (.var 6) (.const (.int .i64 0)))
 (.seq
 (.seq
 (.chk [(.var 6)])
 (.seq
 (.set 2 (.const (.bool false)))
 (.set 3 (.var 6))))
 .ret)
 .skip)
 (.seq
 (.store 1 (.offp 7 (.nn (.var 5))) (.bin .sub (.ld none (.offp 7 (.nn (.var 5)))) (.const (.int .i64 1))) [])
 (.seq
 (.cond (.bin .eql (.ld none (.offp 7 (.nn (.var 5)))) (.const (.int .i64 0)))
 (.mdel .i64 (.ld none (.offp 2 (.nn (.var 0)))) (.var 1) [])
 .skip)
 (.seq
 (.seq
 (.set 2 (.bin .eql (.ld none (.offp 7 (.nn (.var 5)))) (.const (.int .i64 0))))
 (.set 3 (.const (.int .i64 0))))
 .ret)))))),
  [(.var 2), (.var 3)]⟩
theorem okx_118 : FnOk Tryz.prog 3 365 118 xf118 := fnOk_of Tryz.func118 (np := 2) (V := [0, 1, 4, 5, 11, 6, 7]) (ks := []) (by kernel_rfl)

/- (*tipstaff/fdtab.Table).Free -/
def xf119 : XF := ⟨1, [0, 2, 11, 9],
  (.seq
 (.set 1 (.const (.int .i64 0)))
 (.seq
 (.cond (.isnil 0 false (.var 0))
 (.seq
 (.set 1 (.const (.int .i64 0)))
 .ret)
 .skip)
 (.seq
 (.seq
 .skip
 (.seq
 (.set 3 (.len false (.ld none (.offp 0 (.nn (.var 0))))))
 (.seq
 (.call (some 2) 35 [(.var 0)] [(.ld none (.offp 0 (.nn (.var 0))))])
 (.set 1 (.bin .sub (.var 3) (.len false (.var 2)))))))
 .ret))),
  [(.var 1)]⟩
theorem okx_119 : FnOk Tryz.prog 3 365 119 xf119 := fnOk_of Tryz.func119 (np := 1) (V := [0, 2, 11, 9]) (ks := []) (by kernel_rfl)

/- (*tipstaff/objtab.Table[tipstaff/gate.Object]).Hold -/
def xf120 : XF := ⟨2, [0, 1, 4, 10, 5, 6, 13, 17],
  (.seq
 (.set 2 (.const (.int .i64 0)))
 (.seq
 (.seq
 (.call (some 3) 77 [(.var 0), (.var 1)] [])
 (.seq
 (.chk [(.proj 1 (.var 3))])
 (.seq
 (.set 4 (.proj 0 (.var 3)))
 (.set 5 (.proj 1 (.var 3))))))
 (.seq
 (.block 0
 (.seq
 (.set 6 (.bin .neq (.var 5) (.const (.int .i64 0))))
 (.cond (.var 6)
 (.seq
 (.set 2 (.var 5))
 .ret)
 (.seq
 (.set 7 (.bin .eql (.ld none (.offp 7 (.nn (.var 4)))) (.const (.int .i64 1000))))
 (.cond (.var 7)
 (.seq
 (.set 2 (.const (.int .i64 28)))
 .ret)
 .skip)))))
 (.seq
 (.store 1 (.offp 7 (.nn (.var 4))) (.bin .add (.ld none (.offp 7 (.nn (.var 4)))) (.const (.int .i64 1))) [])
 (.seq
 (.set 2 (.const (.int .i64 0)))
 .ret))))),
  [(.var 2)]⟩
theorem okx_120 : FnOk Tryz.prog 3 365 120 xf120 := fnOk_of Tryz.func120 (np := 2) (V := [0, 1, 4, 10, 5, 6, 13, 17]) (ks := []) (by kernel_rfl)

/- (*tipstaff/space.Tree).find -/
def xf122 : XF := ⟨2, [0, 1, 4, 5, 6, 10],
  (.seq
 (.seq
 (.new (some 2) 227 (.const (.agg #[(.int .i64 0), (.int .i64 0)])))
 (.set 3 (.const (.int .i64 0))))
 (.seq
 (.block 0
 (.seq
 (.set 4 (.isnil 0 false (.var 0)))
 (.cond (.var 4)
 (.seq
 (.seq
 (.store 2 (.var 2) (.const (.agg #[(.int .i64 0), (.int .i64 0)])) [])
 (.set 3 (.const (.int .i64 22))))
 .ret)
 (.seq
 (.set 5 (.pick (.bin .lss (.var 1) (.const (.int .i64 0))) (.const (.bool true)) (.bin .geq (.var 1) (.len false (.ld none (.offp 0 (.nn (.var 0))))))))
 (.cond (.var 5)
 (.seq
 (.seq
 (.store 2 (.var 2) (.const (.agg #[(.int .i64 0), (.int .i64 0)])) [])
 (.set 3 (.const (.int .i64 2))))
 .ret)
 .skip)))))
 (.seq
 (.seq
 (.store 2 (.var 2) (.ld (some 2) (.ixSl 2 (.ld none (.offp 0 (.nn (.var 0)))) (.var 1))) [])
 (.set 3 (.const (.int .i64 0))))
 .ret))),
  [(.ld (some 2) (.var 2)), (.var 3)]⟩
theorem okx_122 : FnOk Tryz.prog 3 365 122 xf122 := fnOk_of Tryz.func122 (np := 2) (V := [0, 1, 4, 5, 6, 10]) (ks := []) (by kernel_rfl)

/- (*tipstaff/objtab.Table[tipstaff/gate.Object]).Make -/
def xf123 : XF := ⟨2, [0, 1, 4, 5, 3, 6, 14, 18, 9, 37, 30, 34],
  (.seq
 (.seq
 (.new (some 4) 80 (.var 1))
 (.seq
 (.set 2 (.const (.int .i64 0)))
 (.set 3 (.const (.int .i64 0)))))
 (.seq
 (.block 0
 (.seq
 (.set 5 (.isnil 0 false (.var 0)))
 (.cond (.var 5)
 (.seq
 (.seq
 (.set 2 (.const (.int .i64 0)))
 (.set 3 (.const (.int .i64 22))))
 .ret)
 (.seq
 (.seq
 .skip
 (.seq
 (.chk [(.ld none (.offp 2 (.nn (.var 0))))])
 (.seq
 (.set 7 (.ld none (.offp 0 (.nn (.var 0)))))
 (.seq
 (.mlen (some 6) (.ld none (.offp 2 (.nn (.var 0)))) [(.ld none (.offp 0 (.nn (.var 0))))])
 (.set 8 (.bin .eql (.var 6) (.var 7)))))))
 (.cond (.var 8)
 (.seq
 (.seq
 (.set 2 (.const (.int .i64 0)))
 (.set 3 (.const (.int .i64 12))))
 .ret)
 .skip)))))
 (.seq
 (.store 1 (.offp 1 (.nn (.var 0))) (.bin .add (.ld none (.offp 1 (.nn (.var 0)))) (.const (.int .i64 1))) [])
 (.seq
 (.seq
 .skip
 (.seq
 (.set 10 (.ld none (.offp 2 (.nn (.var 0)))))
 (.seq
 (.set 11 (.ld none (.offp 1 (.nn (.var 0)))))
 (.seq
 (.chk [(.upd 7 1 (.upd 0 7 (.const (.agg #[(.int .i64 0), (.int .i64 0), (.int .i64 0), (.slice none 0 0), (.pointer none), (.pointer none), (.pointer none), (.int .i64 0)])) (.ld (some 7) (.var 4))) (.const (.int .i64 1)))])
 (.seq
 (.new (some 9) 166 (.upd 7 1 (.upd 0 7 (.const (.agg #[(.int .i64 0), (.int .i64 0), (.int .i64 0), (.slice none 0 0), (.pointer none), (.pointer none), (.pointer none), (.int .i64 0)])) (.ld (some 7) (.var 4))) (.const (.int .i64 1))))
 (.upd .i64 (.var 10) (.var 11) (.var 9) []))))))
 (.seq
 (.seq
 (.set 2 (.ld none (.offp 1 (.nn (.var 0)))))
 (.set 3 (.const (.int .i64 0))))
 .ret))))),
  [(.var 2), (.var 3)]⟩
theorem okx_123 : FnOk Tryz.prog 3 365 123 xf123 := fnOk_of Tryz.func123 (np := 2) (V := [0, 1, 4, 5, 3, 6, 14, 18, 9, 37, 30, 34]) (ks := []) (by kernel_rfl)

/- tipstaff/digest.words -/
def xf124 : XF := ⟨1, [0, 2, 3, 13, 12, 11, 4, 5, 6, 7, 8, 43, 45, 9, 51, 53, 10],
  (.seq
 (.new (some 1) 232 (.const (.agg (Array.replicate 64 (.int .u32 0)))))
 (.seq
 (.new (some 2) 232 (.const (.agg (Array.replicate 64 (.int .u32 0)))))
 (.seq
 (.seq
 (.seq
 (.set 5 (.var 0))
 (.seq
 (.set 4 (.len false (.var 5)))
 (.set 3 (.const (.int .i64 0)))))
 (.block 0
 (.loop [1, 2, 3, 4, 5]
 (.seq
 (.cond (.bin .lss (.var 3) (.var 4))
 .skip
 (.exit 0))
 (.seq
 (.block 1
 (.seq
 (.seq
 (.chk [(.ld none (.ixSl 1 (.var 5) (.var 3)))])
 (.seq
 (.set 6 (.var 3))
 (.set 7 (.ld none (.ixSl 1 (.var 5) (.var 3))))))
 (.store 1 (.ixArr 64 1 (.var 2) (.bin .quo (.var 6) (.const (.int .i64 4)))) (.bin .or (.bin .shl (.ld none (.ixArr 64 1 (.var 2) (.bin .quo (.var 6) (.const (.int .i64 4))))) (.const (.int .u64 8))) (.conv .u32 (.var 7))) [])))
 (.set 3 (.bin .add (.var 3) (.const (.int .i64 1)))))))))
 (.seq
 (.seq
 (.set 8 (.const (.int .i64 16)))
 (.block 2
 (.loop [1, 2, 8]
 (.seq
 (.cond (.bin .lss (.var 8) (.const (.int .i64 64)))
 .skip
 (.exit 2))
 (.seq
 (.block 3
 (.seq
 (.seq
 .skip
 (.seq
 (.chk [(.ld none (.ixArr 64 1 (.var 2) (.bin .sub (.var 8) (.const (.int .i64 2)))))])
 (.seq
 (.set 9 (.ld none (.ixArr 64 1 (.var 2) (.bin .sub (.var 8) (.const (.int .i64 15))))))
 (.set 10 (.ld none (.ixArr 64 1 (.var 2) (.bin .sub (.var 8) (.const (.int .i64 2)))))))))
 (.seq
 (.seq
 (.call (some 11) 125 [(.var 9), (.const (.int .i64 7))] [])
 (.seq
 (.call (some 12) 125 [(.var 9), (.const (.int .i64 18))] [])
 (.set 13 (.bin .xor (.bin .xor (.var 11) (.var 12)) (.bin .shr (.var 9) (.const (.int .u64 3)))))))
 (.seq
 (.seq
 (.call (some 14) 125 [(.var 10), (.const (.int .i64 17))] [])
 (.seq
 (.call (some 15) 125 [(.var 10), (.const (.int .i64 19))] [])
 (.set 16 (.bin .xor (.bin .xor (.var 14) (.var 15)) (.bin .shr (.var 10) (.const (.int .u64 10)))))))
 (.seq
 .skip
 (.store 1 (.ixArr 64 1 (.var 2) (.var 8)) (.bin .add (.bin .add (.bin .add (.var 16) (.ld none (.ixArr 64 1 (.var 2) (.bin .sub (.var 8) (.const (.int .i64 7)))))) (.var 13)) (.ld none (.ixArr 64 1 (.var 2) (.bin .sub (.var 8) (.const (.int .i64 16)))))) []))))))
 (.set 8 (.bin .add (.var 8) (.const (.int .i64 1)))))))))
 (.seq
 (.store 64 (.var 1) (.ld (some 64) (.var 2)) [])
 .ret))))),
  [(.ld (some 64) (.var 1))]⟩
theorem okx_124 : FnOk Tryz.prog 3 365 124 xf124 := fnOk_of Tryz.func124 (np := 1) (V := [0, 2, 3, 13, 12, 11, 4, 5, 6, 7, 8, 43, 45, 9, 51, 53, 10]) (ks := [[1, 2, 3, 4, 5], [1, 2, 8]]) (by kernel_rfl)

/- tipstaff/digest.right -/
def xf125 : XF := ⟨2, [0, 1, 4, 8],
  (.seq
 (.set 2 (.const (.int .u32 0)))
 (.seq
 (.seq
 (.call (some 3) 171 [(.var 0), (.un .neg (.var 1))] [])
 (.set 2 (.var 3)))
 .ret)),
  [(.var 2)]⟩
theorem okx_125 : FnOk Tryz.prog 3 365 125 xf125 := fnOk_of Tryz.func125 (np := 2) (V := [0, 1, 4, 8]) (ks := []) (by kernel_rfl)

/- slices.Index[[]*tipstaff/bmap.Map,*tipstaff/bmap.Map] -/
def xf129 : XF := ⟨2, [0, 1, 4, 8, 7, 5],
  (.seq
 (.set 2 (.const (.int .i64 0)))
 (.seq
 (.seq
 (.seq
 (.set 4 (.len false (.var 0)))
 (.set 3 (.const (.int .i64 0))))
 (.block 0
 (.loop [0, 1, 3, 4]
 (.seq
 (.cond (.bin .lss (.var 3) (.var 4))
 .skip
 (.exit 0))
 (.seq
 (.block 1
 (.seq
 (.set 5 (.var 3))
 (.cond (.eqx false .ptr (.var 1) (.ld none (.ixSl 1 (.var 0) (.var 5))))
 (.seq
 (.set 2 (.var 5))
 .ret)
 .skip)))
 (.set 3 (.bin .add (.var 3) (.const (.int .i64 1)))))))))
 (.seq
 (.set 2 (.const (.int .i64 (-1))))
 .ret))),
  [(.var 2)]⟩
theorem okx_129 : FnOk Tryz.prog 3 365 129 xf129 := fnOk_of Tryz.func129 (np := 2) (V := [0, 1, 4, 8, 7, 5]) (ks := [[0, 1, 3, 4]]) (by kernel_rfl)

/- tipstaff/verify.Helpers -/
def xf130 : XF := ⟨1, [0, 2, 3, 8, 7, 6, 5, 11, 14, 20, 21, 26],
  (.seq
 (.set 1 (.const (.slice none 0 0)))
 (.seq
 (.set 2 (.const (.slice none 0 0)))
 (.seq
 (.seq
 (.seq
 (.set 5 (.var 0))
 (.seq
 (.set 4 (.len false (.var 5)))
 (.set 3 (.const (.int .i64 0)))))
 (.block 0
 (.loop [2, 3, 4, 5]
 (.seq
 (.cond (.bin .lss (.var 3) (.var 4))
 .skip
 (.exit 0))
 (.seq
 (.block 1
 (.seq
 (.seq
 (.set 7 (.ld (some 5) (.ixSl 5 (.var 5) (.var 3))))
 (.seq
 (.new (some 6) 46 (.const zA2))
 (.store 5 (.var 6) (.var 7) [])))
 (.seq
 (.call (some 8) 160 [(.ld none (.offp 0 (.var 6)))] [])
 (.cond (.bin .eql (.part none 0 (.var 8)) (.const (.int .i64 4)))
 (.seq
 (.chk [(.var 2)])
 (.seq
 (.row (some 9) 21 1 (.upd 0 1 (.const (.agg #[(.int .i32 0)])) (.ld none (.offp 4 (.var 6)))))
 (.seq
 (.app (some 10) 21 1 (.var 2) (.var 9) [])
 (.set 2 (.var 10)))))
 .skip))))
 (.set 3 (.bin .add (.var 3) (.const (.int .i64 1)))))))))
 (.seq
 (.call none 175 [(.var 2)] [])
 (.seq
 (.seq
 (.call (some 11) 176 [(.var 2)] [])
 (.set 1 (.var 11)))
 .ret))))),
  [(.var 1)]⟩
theorem okx_130 : FnOk Tryz.prog 3 365 130 xf130 := fnOk_of Tryz.func130 (np := 1) (V := [0, 2, 3, 8, 7, 6, 5, 11, 14, 20, 21, 26]) (ks := [[2, 3, 4, 5]]) (by kernel_rfl)

/- tipstaff/rights.Common -/
def xf133 : XF := ⟨2, [0, 1, 4, 2, 3],
  (.seq
 (.seq
 (.new (some 3) 33 (.var 0))
 (.seq
 (.new (some 4) 33 (.var 1))
 (.new (some 2) 33 (.const zA4))))
 (.seq
 (.seq
 (.chk [(.upd 5 1 (.upd 4 1 (.upd 3 1 (.upd 2 1 (.upd 1 1 (.upd 0 1 (.const zA4) (.bin .and (.ld none (.offp 0 (.var 3))) (.ld none (.offp 0 (.var 4))))) (.bin .and (.ld none (.offp 1 (.var 3))) (.ld none (.offp 1 (.var 4))))) (.bin .and (.ld none (.offp 2 (.var 3))) (.ld none (.offp 2 (.var 4))))) (.bin .and (.ld none (.offp 3 (.var 3))) (.ld none (.offp 3 (.var 4))))) (.pick (.ld none (.offp 4 (.var 3))) (.ld none (.offp 4 (.var 4))) (.const (.bool false)))) (.pick (.ld none (.offp 5 (.var 3))) (.const (.bool true)) (.ld none (.offp 5 (.var 4)))))])
 (.store 6 (.var 2) (.upd 5 1 (.upd 4 1 (.upd 3 1 (.upd 2 1 (.upd 1 1 (.upd 0 1 (.const zA4) (.bin .and (.ld none (.offp 0 (.var 3))) (.ld none (.offp 0 (.var 4))))) (.bin .and (.ld none (.offp 1 (.var 3))) (.ld none (.offp 1 (.var 4))))) (.bin .and (.ld none (.offp 2 (.var 3))) (.ld none (.offp 2 (.var 4))))) (.bin .and (.ld none (.offp 3 (.var 3))) (.ld none (.offp 3 (.var 4))))) (.pick (.ld none (.offp 4 (.var 3))) (.ld none (.offp 4 (.var 4))) (.const (.bool false)))) (.pick (.ld none (.offp 5 (.var 3))) (.const (.bool true)) (.ld none (.offp 5 (.var 4))))) []))
 .ret)),
  [(.ld (some 6) (.var 2))]⟩
theorem okx_133 : FnOk Tryz.prog 3 365 133 xf133 := fnOk_of Tryz.func133 (np := 2) (V := [0, 1, 4, 2, 3]) (ks := []) (by kernel_rfl)

/- tipstaff/cfg.Check -/
def xf135 : XF := ⟨2, [0, 1, 4, 5, 11, 6, 7, 19, 20, 8, 28],
  (.seq
 (.seq
 (.set 2 (.const (.int .i64 0)))
 (.set 3 (.const (.int .i64 0))))
 (.seq
 (.seq
 (.seq
 (.call (some 4) 179 [(.var 0)] [])
 (.seq
 (.chk [(.proj 1 (.var 4))])
 (.seq
 (.set 5 (.proj 0 (.var 4)))
 (.set 6 (.proj 1 (.var 4))))))
 (.cond (.bin .neq (.var 6) (.const (.int .i64 0)))
 (.seq
 (.seq
 (.chk [(.var 6)])
 (.seq
 (.set 2 (.var 5))
 (.set 3 (.var 6))))
 .ret)
 .skip))
 (.seq
 (.seq
 (.seq
 (.call (some 7) 181 [(.var 0)] [])
 (.seq
 (.call (some 8) 180 [(.var 7), (.const (.bool false))] [])
 (.set 9 (.var 8))))
 (.cond (.bin .geq (.var 9) (.const (.int .i64 0)))
 (.seq
 (.seq
 (.set 2 (.var 9))
 (.set 3 (.const (.int .i64 22))))
 .ret)
 .skip))
 (.seq
 (.seq
 (.seq
 (.chk [(.pick (.un .not (.var 1)) (.var 0) (.const (.bool false)))])
 (.cond (.pick (.un .not (.var 1)) (.const (.bool true)) (.const (.bool false)))
 (.call (some 10) 182 [(.var 0)] [])
 (.clr [10])))
 (.cond (.pick (.un .not (.var 1)) (.var 10) (.const (.bool false)))
 (.seq
 (.seq
 (.set 2 (.const (.int .i64 0)))
 (.set 3 (.const (.int .i64 22))))
 .ret)
 .skip))
 (.seq
 (.seq
 (.set 2 (.const (.int .i64 0)))
 (.set 3 (.const (.int .i64 0))))
 .ret))))),
  [(.var 2), (.var 3)]⟩
theorem okx_135 : FnOk Tryz.prog 3 365 135 xf135 := fnOk_of Tryz.func135 (np := 2) (V := [0, 1, 4, 5, 11, 6, 7, 19, 20, 8, 28]) (ks := []) (by kernel_rfl)

/- slices.ContainsFunc[[]tipstaff/bmap.Spec,tipstaff/bmap.Spec] -/
def xf136 : XF := ⟨2, [0, 1, 4, 7],
  (.seq
 (.set 2 (.const (.bool false)))
 (.seq
 (.seq
 (.call (some 3) 183 [(.var 0), (.var 1)] [])
 (.set 2 (.bin .geq (.var 3) (.const (.int .i64 0)))))
 .ret)),
  [(.var 2)]⟩
theorem okx_136 : FnOk Tryz.prog 3 365 136 xf136 := fnOk_of Tryz.func136 (np := 2) (V := [0, 1, 4, 7]) (ks := []) (by kernel_rfl)

/- tipstaff/absreg.Start -/
def xf138 : XF := ⟨0, [0, 1],
  (.seq
 (.new (some 0) 262 (.const zA17))
 (.seq
 (.new (some 1) 262 (.const zA17))
 (.seq
 (.seq
 (.chk [(.upd 0 1 (.const zA9) (.const (.int .i64 2)))])
 (.store 11 (.ixArr 11 11 (.offp 0 (.var 1)) (.const (.int .i64 1))) (.upd 0 1 (.const zA9) (.const (.int .i64 2))) []))
 (.seq
 (.seq
 (.chk [(.upd 0 1 (.const zA9) (.const (.int .i64 3)))])
 (.store 11 (.ixArr 11 11 (.offp 0 (.var 1)) (.const (.int .i64 10))) (.upd 0 1 (.const zA9) (.const (.int .i64 3))) []))
 (.seq
 (.store 273 (.var 0) (.ld (some 273) (.var 1)) [])
 .ret))))),
  [(.ld (some 273) (.var 0))]⟩
theorem okx_138 : FnOk Tryz.prog 3 365 138 xf138 := fnOk_of Tryz.func138 (np := 0) (V := [0, 1]) (ks := []) (by kernel_rfl)

/- (*tipstaff/verify.checker).run -/
def xf139 : XF := ⟨2, [0, 1, 4, 5, 6, 7, 8, 29, 41, 61, 63, 64, 65, 52, 54, 58, 60, 71, 9, 10, 86],
  (.seq
 (.seq
 (.new (some 2) 175 (.const (.agg #[(.int .i64 0), (.int .i64 0)])))
 (.set 3 (.const (.int .i64 0))))
 (.seq
 (.set 4 (.const (.int .i64 0)))
 (.seq
 (.block 0
 (.loop [0, 1, 2, 4]
 (.seq
 (.cond (.bin .gtr (.len false (.ld none (.offp 4 (.nn (.var 0))))) (.const (.int .i64 0)))
 .skip
 (.exit 0))
 (.block 1
 (.seq
 (.set 5 (.bin .sub (.len false (.ld none (.offp 4 (.nn (.var 0))))) (.const (.int .i64 1))))
 (.seq
 (.seq
 (.set 7 (.ld (some 274) (.ixSl 274 (.ld none (.offp 4 (.nn (.var 0)))) (.var 5))))
 (.seq
 (.new (some 6) 265 (.const zA18))
 (.store 274 (.var 6) (.var 7) [])))
 (.seq
 (.store 1 (.offp 4 (.nn (.var 0))) (.slSl 274 (.ld none (.offp 4 (.nn (.var 0)))) (.const (.int .i64 0)) (.var 5)) [])
 (.seq
 (.seq
 (.call (some 8) 184 [(.var 0), (.ld (some 274) (.var 6))] [])
 (.cond (.var 8)
 (.exit 1)
 .skip))
 (.seq
 (.cond (.bin .eql (.var 4) (.var 1))
 (.seq
 (.seq
 (.chk [(.upd 1 1 (.upd 0 1 (.const (.agg #[(.int .i64 0), (.int .i64 0)])) (.ld none (.offp 0 (.var 6)))) (.var 4))])
 (.seq
 (.store 2 (.var 2) (.upd 1 1 (.upd 0 1 (.const (.agg #[(.int .i64 0), (.int .i64 0)])) (.ld none (.offp 0 (.var 6)))) (.var 4)) [])
 (.set 3 (.const (.int .i64 7)))))
 .ret)
 .skip)
 (.seq
 (.seq
 .skip
 (.seq
 (.set 13 (.ld none (.offp 5 (.nn (.var 0)))))
 (.seq
 (.set 14 (.ld none (.offp 0 (.var 6))))
 (.seq
 (.set 15 (.ld none (.offp 5 (.nn (.var 0)))))
 (.seq
 (.set 16 (.ld none (.offp 0 (.var 6))))
 (.seq
 (.set 10 (.ld (some 273) (.offp 1 (.var 6))))
 (.seq
 (.resv 1)
 (.seq
 (.seq
 (.set 11 (.const (.bool true)))
 .skip)
 (.seq
 (.chk [(.var 11)])
 (.seq
 (.clr [11])
 (.seq
 (.chk [(.upd 0 273 (.const zA17) (.var 10))])
 (.seq
 (.look (some 9) (.slice none 0 0) false .i64 (.var 15) (.var 16) [(.ld (some 273) (.offp 1 (.var 6))), (.ld none (.offp 0 (.var 6))), (.ld none (.offp 5 (.nn (.var 0)))), (.ld none (.offp 0 (.var 6))), (.ld none (.offp 5 (.nn (.var 0))))])
 (.seq
 (.rowR 0 11 262 1 (.upd 0 273 (.const zA17) (.var 10)))
 (.seq
 (.app (some 12) 262 273 (.var 9) (.var 11) [(.ld none (.offp 0 (.var 6))), (.ld none (.offp 5 (.nn (.var 0))))])
 (.seq
 (.upd .i64 (.var 13) (.var 14) (.var 12) [])
 .skip)))))))))))))))
 (.seq
 (.set 4 (.bin .add (.var 4) (.const (.int .i64 1))))
 (.seq
 (.seq
 (.call (some 17) 185 [(.var 0), (.ld (some 274) (.var 6))] [])
 (.seq
 (.chk [(.proj 1 (.var 17))])
 (.seq
 (.set 18 (.proj 0 (.var 17)))
 (.set 19 (.proj 1 (.var 17))))))
 (.seq
 (.cond (.un .not (.var 19))
 (.seq
 (.seq
 (.chk [(.upd 1 1 (.upd 0 1 (.const (.agg #[(.int .i64 0), (.int .i64 0)])) (.ld none (.offp 0 (.var 6)))) (.var 4))])
 (.seq
 (.store 2 (.var 2) (.upd 1 1 (.upd 0 1 (.const (.agg #[(.int .i64 0), (.int .i64 0)])) (.ld none (.offp 0 (.var 6)))) (.var 4)) [])
 (.set 3 (.const (.int .i64 13)))))
 .ret)
 .skip)
 (.seq
 (.app (some 20) 265 274 (.ld none (.offp 4 (.nn (.var 0)))) (.var 18) [])
 (.store 1 (.offp 4 (.nn (.var 0))) (.var 20) [])))))))))))))))
 (.seq
 (.seq
 (.chk [(.upd 1 1 (.upd 0 1 (.const (.agg #[(.int .i64 0), (.int .i64 0)])) (.const (.int .i64 0))) (.var 4))])
 (.seq
 (.store 2 (.var 2) (.upd 1 1 (.upd 0 1 (.const (.agg #[(.int .i64 0), (.int .i64 0)])) (.const (.int .i64 0))) (.var 4)) [])
 (.set 3 (.const (.int .i64 0)))))
 .ret)))),
  [(.ld (some 2) (.var 2)), (.var 3)]⟩
theorem okx_139 : FnOk Tryz.prog 3 365 139 xf139 := fnOk_of Tryz.func139 (np := 2) (V := [0, 1, 4, 5, 6, 7, 8, 29, 41, 61, 63, 64, 65, 52, 54, 58, 60, 71, 9, 10, 86]) (ks := [[0, 1, 2, 4]]) (by kernel_rfl)
end Go.Proofs.YtipfkfecelkhnaaGreatDoor
