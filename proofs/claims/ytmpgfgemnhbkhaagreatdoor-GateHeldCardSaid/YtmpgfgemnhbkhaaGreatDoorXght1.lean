/- The interpreter's functions, part 1: made by program (geny.py). -/
import Derived.Test.YtmpgfgemnhbkhaaGreatDoorXghz
import Derived.Test.YtmpgfgemnhbkhaaGreatDoorProg
set_option maxRecDepth 100000
set_option linter.unusedVariables false
namespace Go.Proofs.YtmpgfgemnhbkhaaGreatDoor
open Go.Eng
/- (*tipstaff/gate.Kernel).object -/
def xf121 : XF := ⟨4, [0, 1, 2, 3, 8, 9, 10, 22, 11, 12, 34, 13],
  (.seq
 (.seq
 (.set 4 (.const (.int .i64 0)))
 (.seq
 (.new (some 5) 168 (.const zA6))
 (.set 6 (.const (.int .i64 0)))))
 (.seq
 (.seq
 (.call (some 7) 43 [(.ld none (.ixArr 4 1 (.offp 3 (.nn (.var 0))) (.var 1))), (.var 2)] [])
 (.seq
 (.chk [(.proj 1 (.var 7))])
 (.seq
 (.set 8 (.proj 0 (.var 7)))
 (.set 9 (.proj 1 (.var 7))))))
 (.seq
 (.cond (.bin .neq (.var 9) (.const (.int .i64 0)))
 (.seq
 (.seq
 (.set 4 (.const (.int .i64 0)))
 (.seq
 (.store 7 (.var 5) (.const zA6) [])
 (.set 6 (.const (.int .i64 9)))))
 .ret)
 .skip)
 (.seq
 (.seq
 (.call (some 10) 71 [(.ld none (.offp 2 (.nn (.var 0)))), (.var 8)] [])
 (.seq
 (.chk [(.proj 1 (.var 10)), (.proj 0 (.var 10))])
 (.seq
 (.new (some 11) 168 (.const zA6))
 (.seq
 (.store 7 (.var 11) (.proj 0 (.var 10)) [])
 (.set 9 (.proj 1 (.var 10)))))))
 (.seq
 (.cond (.pick (.bin .neq (.var 9) (.const (.int .i64 0))) (.const (.bool true)) (.pick (.bin .neq (.var 3) (.const (.int .i64 0))) (.bin .neq (.ld none (.offp 1 (.var 11))) (.var 3)) (.const (.bool false))))
 (.seq
 (.seq
 (.set 4 (.const (.int .i64 0)))
 (.seq
 (.store 7 (.var 5) (.const zA6) [])
 (.set 6 (.const (.int .i64 9)))))
 .ret)
 .skip)
 (.seq
 (.seq
 .skip
 (.seq
 (.chk [(.ld (some 7) (.var 11))])
 (.seq
 (.set 4 (.var 8))
 (.seq
 (.store 7 (.var 5) (.ld (some 7) (.var 11)) [])
 (.set 6 (.const (.int .i64 0)))))))
 .ret)))))),
  [(.var 4), (.ld (some 7) (.var 5)), (.var 6)]⟩
theorem okx_121 : FnOk Tryz.prog 3 377 121 xf121 := fnOk_of Tryz.func121 (np := 4) (V := [0, 1, 2, 3, 8, 9, 10, 22, 11, 12, 34, 13]) (ks := []) (by kernel_rfl)

/- tipstaff/token.Command -/
def xf122 : XF := ⟨2, [0, 1, 4, 6, 9],
  (.seq
 (.set 2 (.const (.int .i64 0)))
 (.seq
 (.seq
 (.call (some 3) 105 [(.var 0)] [])
 (.seq
 (.call (some 4) 104 [(.part none 0 (.var 3)), (.var 1)] [])
 (.set 2 (.var 4))))
 .ret)),
  [(.var 2)]⟩
theorem okx_122 : FnOk Tryz.prog 3 377 122 xf122 := fnOk_of Tryz.func122 (np := 2) (V := [0, 1, 4, 6, 9]) (ks := []) (by kernel_rfl)

/- (*tipstaff/gate.Kernel).mapCreate -/
def xf123 : XF := ⟨3, [0, 1, 2, 6, 4, 15, 7, 19, 23, 8, 9, 29, 33, 10, 37, 43],
  (.seq
 (.seq
 (.new (some 4) 78 (.var 1))
 (.new (some 3) 80 (.const zA0)))
 (.seq
 (.seq
 (.seq
 (.call (some 5) 111 [(.var 2), (.ld none (.offp 0 (.offp 4 (.var 4))))] [])
 (.set 6 (.var 5)))
 (.cond (.bin .neq (.var 6) (.const (.int .i64 0)))
 (.seq
 (.seq
 (.call (some 7) 64 [(.var 6)] [])
 (.store 4 (.var 3) (.var 7) []))
 .ret)
 .skip))
 (.seq
 (.seq
 (.call (some 8) 12 [(.ld (some 4) (.offp 4 (.var 4)))] [])
 (.seq
 (.chk [(.proj 1 (.var 8))])
 (.seq
 (.set 9 (.proj 0 (.var 8)))
 (.set 10 (.proj 1 (.var 8))))))
 (.seq
 (.cond (.bin .neq (.var 10) (.const (.int .i64 0)))
 (.seq
 (.seq
 (.call (some 11) 64 [(.var 10)] [])
 (.store 4 (.var 3) (.var 11) []))
 .ret)
 .skip)
 (.seq
 (.seq
 (.seq
 (.call (some 12) 135 [(.var 0), (.ld none (.offp 0 (.var 4)))] [])
 (.set 13 (.var 12)))
 (.cond (.bin .neq (.var 13) (.const (.int .i64 0)))
 (.seq
 (.seq
 (.call (some 14) 64 [(.var 13)] [])
 (.store 4 (.var 3) (.var 14) []))
 .ret)
 .skip))
 (.seq
 (.seq
 (.chk [(.upd 4 1 (.upd 1 1 (.const zA6) (.const (.int .i64 1))) (.var 9))])
 (.seq
 (.call (some 15) 136 [(.var 0), (.ld none (.offp 0 (.var 4))), (.upd 4 1 (.upd 1 1 (.const zA6) (.const (.int .i64 1))) (.var 9))] [])
 (.store 4 (.var 3) (.var 15) [])))
 .ret)))))),
  [(.ld (some 4) (.var 3))]⟩
theorem okx_123 : FnOk Tryz.prog 3 377 123 xf123 := fnOk_of Tryz.func123 (np := 3) (V := [0, 1, 2, 6, 4, 15, 7, 19, 23, 8, 9, 29, 33, 10, 37, 43]) (ks := []) (by kernel_rfl)

/- (*tipstaff/gate.Kernel).progLoad -/
def xf124 : XF := ⟨4, [0, 1, 2, 3, 8, 5, 18, 9, 10, 24, 30, 11, 12, 37, 40, 41, 47, 13, 51, 61, 14, 67, 74],
  (.seq
 (.seq
 (.new (some 5) 78 (.var 1))
 (.new (some 4) 80 (.const zA0)))
 (.seq
 (.seq
 (.call (some 6) 195 [(.ld (some 4) (.offp 14 (.var 5)))] [])
 (.seq
 (.chk [(.proj 1 (.var 6))])
 (.seq
 (.set 7 (.proj 0 (.var 6)))
 (.set 8 (.proj 1 (.var 6))))))
 (.seq
 (.cond (.bin .neq (.var 8) (.const (.int .i64 0)))
 (.seq
 (.seq
 (.call (some 9) 64 [(.var 8)] [])
 (.store 4 (.var 4) (.var 9) []))
 .ret)
 .skip)
 (.seq
 (.seq
 (.call (some 10) 196 [(.var 0), (.ld none (.offp 0 (.var 5))), (.var 7)] [])
 (.seq
 (.chk [(.proj 2 (.var 10)), (.proj 1 (.var 10))])
 (.seq
 (.set 11 (.proj 0 (.var 10)))
 (.seq
 (.set 12 (.proj 1 (.var 10)))
 (.set 8 (.proj 2 (.var 10)))))))
 (.seq
 (.cond (.bin .neq (.var 8) (.const (.int .i64 0)))
 (.seq
 (.seq
 (.call (some 13) 64 [(.var 8)] [])
 (.store 4 (.var 4) (.var 13) []))
 .ret)
 .skip)
 (.seq
 (.seq
 (.chk [(.var 11)])
 (.seq
 (.row (some 14) 3 1 (.upd 0 1 (.const (.agg #[(.int .i64 0)])) (.var 2)))
 (.seq
 (.app (some 15) 3 1 (.var 11) (.var 14) [])
 (.set 11 (.var 15)))))
 (.seq
 (.seq
 (.seq
 (.call (some 16) 197 [(.var 0), (.ld (some 55) (.var 5)), (.var 3), (.var 11), (.var 12)] [])
 (.set 17 (.var 16)))
 (.cond (.bin .neq (.var 17) (.const (.int .i64 0)))
 (.seq
 (.seq
 (.call (some 18) 64 [(.var 17)] [])
 (.store 4 (.var 4) (.var 18) []))
 .ret)
 .skip))
 (.seq
 (.seq
 .skip
 (.seq
 (.call (some 19) 22 [(.ld (some 4) (.offp 14 (.var 5))), (.var 12), (.var 3), (.ld none (.offp 1 (.nn (.var 0))))] [])
 (.seq
 (.chk [(.proj 1 (.var 19))])
 (.seq
 (.set 20 (.proj 0 (.var 19)))
 (.set 8 (.proj 1 (.var 19)))))))
 (.seq
 (.cond (.bin .neq (.var 8) (.const (.int .i64 0)))
 (.seq
 (.seq
 (.call (some 21) 64 [(.var 8)] [])
 (.store 4 (.var 4) (.var 21) []))
 .ret)
 .skip)
 (.seq
 (.seq
 (.chk [(.upd 3 1 (.upd 5 1 (.upd 1 1 (.const zA6) (.const (.int .i64 2))) (.var 20)) (.var 11))])
 (.seq
 (.call (some 22) 136 [(.var 0), (.ld none (.offp 0 (.var 5))), (.upd 3 1 (.upd 5 1 (.upd 1 1 (.const zA6) (.const (.int .i64 2))) (.var 20)) (.var 11))] [])
 (.store 4 (.var 4) (.var 22) [])))
 .ret)))))))))),
  [(.ld (some 4) (.var 4))]⟩
theorem okx_124 : FnOk Tryz.prog 3 377 124 xf124 := fnOk_of Tryz.func124 (np := 4) (V := [0, 1, 2, 3, 8, 5, 18, 9, 10, 24, 30, 11, 12, 37, 40, 41, 47, 13, 51, 61, 14, 67, 74]) (ks := []) (by kernel_rfl)

/- (*tipstaff/fdtab.Table).Close -/
def xf130 : XF := ⟨2, [0, 1, 4, 5, 11, 6, 7],
  (.seq
 (.seq
 (.set 2 (.const (.int .i64 0)))
 (.set 3 (.const (.int .i64 0))))
 (.seq
 (.seq
 (.call (some 4) 43 [(.var 0), (.var 1)] [])
 (.seq
 (.chk [(.proj 1 (.var 4))])
 (.seq
 (.set 5 (.proj 0 (.var 4)))
 (.set 6 (.proj 1 (.var 4))))))
 (.seq
 (.cond (.bin .eql (.var 6) (.const (.int .i64 0)))
 (.store 1 (.ixSl 1 (.ld none (.offp 0 (.nn (.var 0)))) (.var 1)) (.const (.int .i64 0)) [])
 .skip)
 (.seq
 (.seq
 (.chk [(.var 6)])
 (.seq
 (.set 2 (.var 5))
 (.set 3 (.var 6))))
 .ret)))),
  [(.var 2), (.var 3)]⟩
theorem okx_130 : FnOk Tryz.prog 3 377 130 xf130 := fnOk_of Tryz.func130 (np := 2) (V := [0, 1, 4, 5, 11, 6, 7]) (ks := []) (by kernel_rfl)

/- (*tipstaff/gate.Kernel).drop -/
def xf131 : XF := ⟨2, [0, 1, 16, 4, 5, 27, 6, 7, 34, 33, 32, 9],
  (.seq
 (.seq
 (.call (some 2) 71 [(.ld none (.offp 2 (.nn (.var 0)))), (.var 1)] [])
 (.seq
 (.chk [(.proj 1 (.var 2)), (.proj 0 (.var 2))])
 (.seq
 (.new (some 3) 168 (.const zA6))
 (.seq
 (.store 7 (.var 3) (.proj 0 (.var 2)) [])
 (.set 4 (.proj 1 (.var 2)))))))
 (.seq
 (.cond (.bin .neq (.var 4) (.const (.int .i64 0)))
 .ret
 .skip)
 (.seq
 (.seq
 (.call (some 5) 208 [(.ld none (.offp 2 (.nn (.var 0)))), (.var 1)] [])
 (.seq
 (.chk [(.proj 1 (.var 5))])
 (.seq
 (.set 6 (.proj 0 (.var 5)))
 (.set 7 (.proj 1 (.var 5))))))
 (.cond (.var 6)
 (.seq
 (.seq
 (.set 10 (.ld none (.offp 3 (.var 3))))
 (.seq
 (.set 9 (.len false (.var 10)))
 (.set 8 (.const (.int .i64 0)))))
 (.block 0
 (.loop [0, 8, 9, 10]
 (.seq
 (.cond (.bin .lss (.var 8) (.var 9))
 .skip
 (.exit 0))
 (.seq
 (.block 1
 (.seq
 (.set 11 (.ld none (.ixSl 1 (.var 10) (.var 8))))
 (.call none 131 [(.var 0), (.var 11)] [])))
 (.set 8 (.bin .add (.var 8) (.const (.int .i64 1)))))))))
 .skip)))),
  []⟩
theorem okx_131 : FnOk Tryz.prog 3 377 131 xf131 := fnOk_of Tryz.func131 (np := 2) (V := [0, 1, 16, 4, 5, 27, 6, 7, 34, 33, 32, 9]) (ks := [[0, 8, 9, 10]]) (by kernel_rfl)

/- (*tipstaff/gate.Kernel).room -/
def xf135 : XF := ⟨2, [0, 1, 4, 12, 5, 19, 14],
  (.seq
 (.set 2 (.const (.int .i64 0)))
 (.seq
 (.block 0
 (.seq
 (.seq
 (.call (some 3) 209 [(.ld none (.ixArr 4 1 (.offp 3 (.nn (.var 0))) (.var 1)))] [])
 (.set 4 (.bin .eql (.var 3) (.const (.int .i64 0)))))
 (.cond (.var 4)
 (.seq
 (.set 2 (.const (.int .i64 24)))
 .ret)
 (.seq
 (.seq
 (.call (some 5) 70 [(.ld none (.offp 2 (.nn (.var 0))))] [])
 (.set 6 (.bin .eql (.len false (.var 5)) (.const (.int .i64 64)))))
 (.cond (.var 6)
 (.seq
 (.set 2 (.const (.int .i64 12)))
 .ret)
 .skip)))))
 (.seq
 (.set 2 (.const (.int .i64 0)))
 .ret))),
  [(.var 2)]⟩
theorem okx_135 : FnOk Tryz.prog 3 377 135 xf135 := fnOk_of Tryz.func135 (np := 2) (V := [0, 1, 4, 12, 5, 19, 14]) (ks := []) (by kernel_rfl)

/- (*tipstaff/gate.Kernel).made -/
def xf136 : XF := ⟨3, [0, 1, 2, 6, 5, 15, 14, 13, 8, 32, 9, 10, 38, 47, 11],
  (.seq
 (.seq
 (.new (some 4) 168 (.var 2))
 (.new (some 3) 80 (.const zA0)))
 (.seq
 (.seq
 (.seq
 (.set 7 (.ld none (.offp 3 (.var 4))))
 (.seq
 (.set 6 (.len false (.var 7)))
 (.set 5 (.const (.int .i64 0)))))
 (.block 0
 (.loop [0, 1, 3, 4, 5, 6, 7]
 (.seq
 (.cond (.bin .lss (.var 5) (.var 6))
 .skip
 (.exit 0))
 (.seq
 (.block 1
 (.seq
 (.set 8 (.ld none (.ixSl 1 (.var 7) (.var 5))))
 (.call none 210 [(.ld none (.offp 2 (.nn (.var 0)))), (.var 8)] [])))
 (.set 5 (.bin .add (.var 5) (.const (.int .i64 1)))))))))
 (.seq
 (.seq
 .skip
 (.seq
 (.call (some 9) 212 [(.ld none (.offp 2 (.nn (.var 0)))), (.ld (some 7) (.var 4))] [])
 (.seq
 (.chk [(.proj 1 (.var 9))])
 (.seq
 (.set 10 (.proj 0 (.var 9)))
 (.set 11 (.proj 1 (.var 9)))))))
 (.seq
 (.cond (.bin .neq (.var 11) (.const (.int .i64 0)))
 (.seq
 (.seq
 (.call (some 12) 64 [(.var 11)] [])
 (.store 4 (.var 3) (.var 12) []))
 .ret)
 .skip)
 (.seq
 (.seq
 (.call (some 13) 42 [(.ld none (.ixArr 4 1 (.offp 3 (.nn (.var 0))) (.var 1))), (.var 10)] [])
 (.seq
 (.chk [(.proj 1 (.var 13))])
 (.seq
 (.set 14 (.proj 0 (.var 13)))
 (.set 11 (.proj 1 (.var 13))))))
 (.seq
 (.seq
 (.chk [(.upd 1 1 (.upd 0 1 (.const zA0) (.var 11)) (.var 14))])
 (.store 4 (.var 3) (.upd 1 1 (.upd 0 1 (.const zA0) (.var 11)) (.var 14)) []))
 .ret)))))),
  [(.ld (some 4) (.var 3))]⟩
theorem okx_136 : FnOk Tryz.prog 3 377 136 xf136 := fnOk_of Tryz.func136 (np := 3) (V := [0, 1, 2, 6, 5, 15, 14, 13, 8, 32, 9, 10, 38, 47, 11]) (ks := [[0, 1, 3, 4, 5, 6, 7]]) (by kernel_rfl)

/- (*tipstaff/objtab.Table[tipstaff/gate.Object]).find -/
def xf139 : XF := ⟨2, [0, 1, 4, 5, 16, 6, 7],
  (.seq
 (.seq
 (.set 2 (.const (.pointer none)))
 (.set 3 (.const (.int .i64 0))))
 (.seq
 (.cond (.isnil 0 false (.var 0))
 (.seq
 (.seq
 (.set 2 (.const (.pointer none)))
 (.set 3 (.const (.int .i64 22))))
 .ret)
 .skip)
 (.seq
 (.seq
 (.look (some 4) (.pointer none) true .i64 (.ld none (.offp 2 (.nn (.var 0)))) (.var 1) [])
 (.seq
 (.chk [(.proj 1 (.var 4))])
 (.seq
 (.set 5 (.proj 0 (.var 4)))
 (.set 6 (.proj 1 (.var 4))))))
 (.seq
 (.cond (.un .not (.var 6))
 (.seq
 (.seq
 (.set 2 (.const (.pointer none)))
 (.set 3 (.const (.int .i64 2))))
 .ret)
 .skip)
 (.seq
 (.seq
 (.set 2 (.var 5))
 (.set 3 (.const (.int .i64 0))))
 .ret))))),
  [(.var 2), (.var 3)]⟩
theorem okx_139 : FnOk Tryz.prog 3 377 139 xf139 := fnOk_of Tryz.func139 (np := 2) (V := [0, 1, 4, 5, 16, 6, 7]) (ks := []) (by kernel_rfl)

/- tipstaff/digest.words -/
def xf141 : XF := ⟨1, [0, 2, 3, 13, 12, 11, 4, 5, 6, 7, 8, 43, 45, 9, 51, 53, 10],
  (.seq
 (.new (some 1) 259 (.const (.agg (Array.replicate 64 (.int .u32 0)))))
 (.seq
 (.new (some 2) 259 (.const (.agg (Array.replicate 64 (.int .u32 0)))))
 (.seq
 (.seq
 (.seq
 (.set 5 (.var 0))
 (.seq
 (.set 4 (.len false (.var 5)))
 (.set 3 (.const (.int .i64 0)))))
 (.block 0
 (.loop [1, 2, 3, 4, 5]
 (.seq
 (.cond (.bin .lss (.var 3) (.var 4))
 .skip
 (.exit 0))
 (.seq
 (.block 1
 (.seq
 (.seq
 (.chk [(.ld none (.ixSl 1 (.var 5) (.var 3)))])
 (.seq
 (.set 6 (.var 3))
 (.set 7 (.ld none (.ixSl 1 (.var 5) (.var 3))))))
 (.store 1 (.ixArr 64 1 (.var 2) (.bin .quo (.var 6) (.const (.int .i64 4)))) (.bin .or (.bin .shl (.ld none (.ixArr 64 1 (.var 2) (.bin .quo (.var 6) (.const (.int .i64 4))))) (.const (.int .u64 8))) (.conv .u32 (.var 7))) [])))
 (.set 3 (.bin .add (.var 3) (.const (.int .i64 1)))))))))
 (.seq
 (.seq
 (.set 8 (.const (.int .i64 16)))
 (.block 2
 (.loop [1, 2, 8]
 (.seq
 (.cond (.bin .lss (.var 8) (.const (.int .i64 64)))
 .skip
 (.exit 2))
 (.seq
 (.block 3
 (.seq
 (.seq
 .skip
 (.seq
 (.chk [(.ld none (.ixArr 64 1 (.var 2) (.bin .sub (.var 8) (.const (.int .i64 2)))))])
 (.seq
 (.set 9 (.ld none (.ixArr 64 1 (.var 2) (.bin .sub (.var 8) (.const (.int .i64 15))))))
 (.set 10 (.ld none (.ixArr 64 1 (.var 2) (.bin .sub (.var 8) (.const (.int .i64 2)))))))))
 (.seq
 (.seq
 (.call (some 11) 142 [(.var 9), (.const (.int .i64 7))] [])
 (.seq
 (.call (some 12) 142 [(.var 9), (.const (.int .i64 18))] [])
 (.set 13 (.bin .xor (.bin .xor (.var 11) (.var 12)) (.bin .shr (.var 9) (.const (.int .u64 3)))))))
 (.seq
 (.seq
 (.call (some 14) 142 [(.var 10), (.const (.int .i64 17))] [])
 (.seq
 (.call (some 15) 142 [(.var 10), (.const (.int .i64 19))] [])
 (.set 16 (.bin .xor (.bin .xor (.var 14) (.var 15)) (.bin .shr (.var 10) (.const (.int .u64 10)))))))
 (.seq
 .skip
 (.store 1 (.ixArr 64 1 (.var 2) (.var 8)) (.bin .add (.bin .add (.bin .add (.var 16) (.ld none (.ixArr 64 1 (.var 2) (.bin .sub (.var 8) (.const (.int .i64 7)))))) (.var 13)) (.ld none (.ixArr 64 1 (.var 2) (.bin .sub (.var 8) (.const (.int .i64 16)))))) []))))))
 (.set 8 (.bin .add (.var 8) (.const (.int .i64 1)))))))))
 (.seq
 (.store 64 (.var 1) (.ld (some 64) (.var 2)) [])
 .ret))))),
  [(.ld (some 64) (.var 1))]⟩
theorem okx_141 : FnOk Tryz.prog 3 377 141 xf141 := fnOk_of Tryz.func141 (np := 1) (V := [0, 2, 3, 13, 12, 11, 4, 5, 6, 7, 8, 43, 45, 9, 51, 53, 10]) (ks := [[1, 2, 3, 4, 5], [1, 2, 8]]) (by kernel_rfl)

/- tipstaff/digest.right -/
def xf142 : XF := ⟨2, [0, 1, 4, 8],
  (.seq
 (.set 2 (.const (.int .u32 0)))
 (.seq
 (.seq
 (.call (some 3) 217 [(.var 0), (.un .neg (.var 1))] [])
 (.set 2 (.var 3)))
 .ret)),
  [(.var 2)]⟩
theorem okx_142 : FnOk Tryz.prog 3 377 142 xf142 := fnOk_of Tryz.func142 (np := 2) (V := [0, 1, 4, 8]) (ks := []) (by kernel_rfl)

/- tipstaff/shape.one -/
def xf143 : XF := ⟨2, [0, 1, 4, 5, 12, 15, 6, 22, 20, 19, 23, 29, 26, 37, 38, 43, 44, 49, 7, 8, 53, 57, 58, 62, 63, 73],
  (.seq
 (.set 2 (.const (.bool false)))
 (.seq
 (.seq
 (.set 4 (.ld (some 5) (.ixSl 5 (.var 0) (.var 1))))
 (.seq
 (.new (some 3) 32 (.const zA2))
 (.store 5 (.var 3) (.var 4) [])))
 (.seq
 (.seq
 (.call (some 5) 90 [(.ld none (.offp 0 (.var 3)))] [])
 (.seq
 (.new (some 6) 203 (.const zA3))
 (.store 5 (.var 6) (.var 5) [])))
 (.seq
 (.seq
 (.seq
 .skip
 (.seq
 (.set 9 (.bin .eql (.ld none (.offp 0 (.var 6))) (.const (.int .i64 0))))
 (.seq
 (.cond (.pick (.var 9) (.const (.bool false)) (.const (.bool true)))
 (.set 8 (.ld (some 5) (.var 3)))
 (.clr [8]))
 (.seq
 (.chk [(.pick (.var 9) (.const (.bool false)) (.ld (some 5) (.var 6)))])
 (.seq
 (.cond (.pick (.var 9) (.const (.bool false)) (.const (.bool true)))
 (.call (some 7) 219 [(.ld (some 5) (.var 6))] [(.ld (some 5) (.var 3))])
 (.clr [7]))
 (.seq
 (.cond (.pick (.var 9) (.const (.bool false)) (.const (.bool true)))
 (.call (some 10) 218 [(.var 8), (.var 7)] [])
 (.clr [10]))
 (.seq
 (.set 12 (.pick (.var 9) (.const (.bool true)) (.un .not (.var 10))))
 (.seq
 (.chk [(.pick (.var 12) (.const (.bool false)) (.ld none (.offp 0 (.var 6))))])
 (.cond (.pick (.var 12) (.const (.bool false)) (.const (.bool true)))
 (.call (some 11) 220 [(.ld none (.offp 0 (.var 6)))] [])
 (.clr [11]))))))))))
 (.cond (.pick (.var 12) (.const (.bool true)) (.pick (.var 11) (.bin .eql (.ld none (.offp 1 (.var 3))) (.const (.int .u8 10))) (.const (.bool false))))
 (.seq
 (.set 2 (.const (.bool false)))
 .ret)
 .skip))
 (.seq
 (.seq
 (.set 13 (.ld none (.offp 0 (.var 6))))
 (.block 0
 (.seq
 (.set 14 (.bin .eql (.var 13) (.const (.int .i64 1))))
 (.cond (.var 14)
 (.seq
 (.seq
 (.call (some 15) 221 [(.ld (some 5) (.var 6)), (.ld none (.offp 4 (.var 3)))] [])
 (.set 2 (.var 15)))
 .ret)
 (.seq
 (.set 16 (.bin .eql (.var 13) (.const (.int .i64 4))))
 (.cond (.var 16)
 (.seq
 (.seq
 (.call (some 17) 222 [(.ld none (.offp 4 (.var 3)))] [])
 (.seq
 (.chk [(.proj 1 (.var 17))])
 (.seq
 (.set 18 (.proj 0 (.var 17)))
 (.set 19 (.proj 1 (.var 17))))))
 (.seq
 (.set 2 (.var 19))
 .ret))
 (.seq
 (.set 20 (.bin .eql (.var 13) (.const (.int .i64 8))))
 (.cond (.var 20)
 (.seq
 (.seq
 (.call (some 21) 223 [(.ld none (.offp 4 (.var 3)))] [])
 (.set 2 (.var 21)))
 .ret)
 (.seq
 (.set 22 (.bin .eql (.var 13) (.const (.int .i64 9))))
 (.cond (.var 22)
 (.seq
 (.seq
 (.call (some 23) 224 [(.var 0), (.var 1)] [])
 (.set 2 (.var 23)))
 .ret)
 (.seq
 (.set 24 (.bin .eql (.var 13) (.const (.int .i64 10))))
 (.cond (.var 24)
 (.seq
 (.seq
 (.chk [(.pick (.bin .gtr (.var 1) (.const (.int .i64 0))) (.ld (some 5) (.ixSl 5 (.var 0) (.bin .sub (.var 1) (.const (.int .i64 1))))) (.const (.bool false)))])
 (.seq
 (.cond (.pick (.bin .gtr (.var 1) (.const (.int .i64 0))) (.const (.bool true)) (.const (.bool false)))
 (.call (some 25) 145 [(.ld (some 5) (.ixSl 5 (.var 0) (.bin .sub (.var 1) (.const (.int .i64 1)))))] [])
 (.clr [25]))
 (.set 2 (.pick (.bin .gtr (.var 1) (.const (.int .i64 0))) (.bin .eql (.var 25) (.const (.int .i64 9))) (.const (.bool false))))))
 .ret)
 .skip))))))))))))
 (.seq
 (.set 2 (.const (.bool true)))
 .ret)))))),
  [(.var 2)]⟩
theorem okx_143 : FnOk Tryz.prog 3 377 143 xf143 := fnOk_of Tryz.func143 (np := 2) (V := [0, 1, 4, 5, 12, 15, 6, 22, 20, 19, 23, 29, 26, 37, 38, 43, 44, 49, 7, 8, 53, 57, 58, 62, 63, 73]) (ks := []) (by kernel_rfl)

/- tipstaff/shape.lands -/
def xf144 : XF := ⟨2, [0, 1, 4, 11, 5, 23, 6, 37],
  (.seq
 (.set 2 (.const (.bool false)))
 (.seq
 (.seq
 (.seq
 (.call (some 3) 145 [(.ld (some 5) (.ixSl 5 (.var 0) (.var 1)))] [])
 (.set 4 (.var 3)))
 (.cond (.pick (.bin .neq (.var 4) (.const (.int .i64 2))) (.bin .neq (.var 4) (.const (.int .i64 3))) (.const (.bool false)))
 (.seq
 (.set 2 (.const (.bool true)))
 .ret)
 .skip))
 (.seq
 (.seq
 (.call (some 5) 93 [(.var 1), (.ld (some 5) (.ixSl 5 (.var 0) (.var 1)))] [])
 (.set 6 (.var 5)))
 (.seq
 (.seq
 (.chk [(.pick (.pick (.bin .geq (.var 6) (.const (.int .i64 0))) (.bin .lss (.var 6) (.len false (.var 0))) (.const (.bool false))) (.ld (some 5) (.ixSl 5 (.var 0) (.var 6))) (.const (.bool false)))])
 (.seq
 (.cond (.pick (.pick (.bin .geq (.var 6) (.const (.int .i64 0))) (.bin .lss (.var 6) (.len false (.var 0))) (.const (.bool false))) (.const (.bool true)) (.const (.bool false)))
 (.call (some 7) 145 [(.ld (some 5) (.ixSl 5 (.var 0) (.var 6)))] [])
 (.clr [7]))
 (.set 2 (.pick (.pick (.bin .geq (.var 6) (.const (.int .i64 0))) (.bin .lss (.var 6) (.len false (.var 0))) (.const (.bool false))) (.bin .neq (.var 7) (.const (.int .i64 10))) (.const (.bool false))))))
 .ret)))),
  [(.var 2)]⟩
theorem okx_144 : FnOk Tryz.prog 3 377 144 xf144 := fnOk_of Tryz.func144 (np := 2) (V := [0, 1, 4, 11, 5, 23, 6, 37]) (ks := []) (by kernel_rfl)

/- tipstaff/shape.kind -/
def xf145 : XF := ⟨1, [0, 2, 1, 5],
  (.seq
 (.seq
 (.new (some 2) 32 (.var 0))
 (.set 1 (.const (.int .i64 0))))
 (.seq
 (.seq
 (.call (some 3) 90 [(.ld none (.offp 0 (.var 2)))] [])
 (.set 1 (.part none 0 (.var 3))))
 .ret)),
  [(.var 1)]⟩
theorem okx_145 : FnOk Tryz.prog 3 377 145 xf145 := fnOk_of Tryz.func145 (np := 1) (V := [0, 2, 1, 5]) (ks := []) (by kernel_rfl)

/- tipstaff/cfg.walked -/
def xf146 : XF := ⟨1, [0, 2, 7, 9, 3],
  (.seq
 (.set 1 (.const (.pointer none)))
 (.seq
 (.seq
 (.mk (some 2) 3 [(.int .i64 0)] (.len false (.var 0)) (.len false (.var 0)) [])
 (.seq
 (.chk [(.upd 1 1 (.upd 0 1 (.const (.agg #[(.slice none 0 0), (.slice none 0 0), (.bool false)])) (.var 0)) (.var 2))])
 (.seq
 (.new (some 3) 268 (.upd 1 1 (.upd 0 1 (.const (.agg #[(.slice none 0 0), (.slice none 0 0), (.bool false)])) (.var 0)) (.var 2)))
 (.set 4 (.var 3)))))
 (.seq
 (.cond (.bin .gtr (.len false (.var 0)) (.const (.int .i64 0)))
 (.call none 225 [(.var 4), (.const (.int .i64 0))] [])
 .skip)
 (.seq
 (.set 1 (.var 4))
 .ret)))),
  [(.var 1)]⟩
theorem okx_146 : FnOk Tryz.prog 3 377 146 xf146 := fnOk_of Tryz.func146 (np := 1) (V := [0, 2, 7, 9, 3]) (ks := []) (by kernel_rfl)

/- tipstaff/cfg.kind -/
def xf147 : XF := ⟨1, [0, 2, 1, 5],
  (.seq
 (.seq
 (.new (some 2) 32 (.var 0))
 (.set 1 (.const (.int .i64 0))))
 (.seq
 (.seq
 (.call (some 3) 90 [(.ld none (.offp 0 (.var 2)))] [])
 (.set 1 (.part none 0 (.var 3))))
 .ret)),
  [(.var 1)]⟩
theorem okx_147 : FnOk Tryz.prog 3 377 147 xf147 := fnOk_of Tryz.func147 (np := 1) (V := [0, 2, 1, 5]) (ks := []) (by kernel_rfl)

/- slices.ContainsFunc[[]tipstaff/absreg.State,tipstaff/absreg.State] -/
def xf148 : XF := ⟨2, [0, 1, 4, 7],
  (.seq
 (.set 2 (.const (.bool false)))
 (.seq
 (.seq
 (.call (some 3) 226 [(.var 0), (.var 1)] [])
 (.set 2 (.bin .geq (.var 3) (.const (.int .i64 0)))))
 .ret)),
  [(.var 2)]⟩
theorem okx_148 : FnOk Tryz.prog 3 377 148 xf148 := fnOk_of Tryz.func148 (np := 2) (V := [0, 1, 4, 7]) (ks := []) (by kernel_rfl)

/- (*tipstaff/verify.checker).alu -/
def xf151 : XF := ⟨4, [0, 1, 2, 3, 8, 9, 5, 6, 7, 26, 10, 11, 20, 22, 23, 25, 35, 52, 12, 58, 65, 13, 14, 84, 16],
  (.seq
 (.seq
 (.new (some 6) 132 (.var 1))
 (.seq
 (.new (some 7) 32 (.var 2))
 (.seq
 (.new (some 8) 203 (.var 3))
 (.seq
 (.set 4 (.const (.slice none 0 0)))
 (.set 5 (.const (.bool false)))))))
 (.seq
 (.seq
 .skip
 (.seq
 (.set 24 (.ld none (.offp 1 (.var 7))))
 (.seq
 (.set 12 (.ld (some 11) (.ixArr 11 11 (.offp 0 (.offp 1 (.var 6))) (.var 24))))
 (.seq
 (.set 13 (.ld (some 273) (.offp 1 (.var 6))))
 (.seq
 (.set 14 (.ld (some 5) (.var 7)))
 (.seq
 (.set 15 (.ld none (.offp 4 (.var 8))))
 (.seq
 (.resv 2)
 (.seq
 (.seq
 (.set 10 (.const (.bool true)))
 (.seq
 (.set 11 (.const (.bool true)))
 .skip))
 (.seq
 (.chk [(.var 10), (.var 11)])
 (.seq
 (.clr [10, 11])
 (.seq
 (.chk [(.const zA9), (.const zA9)])
 (.seq
 (.call (some 9) 157 [(.var 13), (.var 14), (.var 15)] [(.ld none (.offp 4 (.var 8))), (.ld (some 5) (.var 7)), (.ld (some 273) (.offp 1 (.var 6))), (.ld (some 11) (.ixArr 11 11 (.offp 0 (.offp 1 (.var 6))) (.var 24))), (.ld none (.offp 1 (.var 7)))])
 (.seq
 (.newR 0 10 124 (.const zA9))
 (.seq
 (.newR 1 11 124 (.const zA9))
 (.seq
 (.store 11 (.var 10) (.var 12) [])
 (.seq
 (.store 11 (.var 11) (.var 9) [])
 .skip))))))))))))))))
 (.seq
 (.cond (.pick (.bin .eql (.ld none (.offp 1 (.var 8))) (.const (.int .i64 11))) (.bin .eql (.ld none (.offp 0 (.var 11))) (.const (.int .i64 1))) (.const (.bool false)))
 (.seq
 (.call (some 16) 228 [(.const (.int .u64 0))] [])
 (.store 11 (.var 10) (.var 16) []))
 .skip)
 (.seq
 (.cond (.pick (.bin .eql (.ld none (.offp 0 (.var 10))) (.const (.int .i64 1))) (.bin .eql (.ld none (.offp 0 (.var 11))) (.const (.int .i64 1))) (.const (.bool false)))
 (.seq
 (.seq
 (.call (some 17) 229 [(.ld none (.offp 1 (.var 8))), (.ld none (.offp 3 (.var 8))), (.ld (some 6) (.offp 1 (.var 10))), (.ld (some 6) (.offp 1 (.var 11)))] [])
 (.seq
 (.chk [(.upd 1 6 (.upd 0 1 (.const zA9) (.const (.int .i64 1))) (.var 17))])
 (.seq
 (.new (some 18) 124 (.const zA9))
 (.store 11 (.var 18) (.upd 1 6 (.upd 0 1 (.const zA9) (.const (.int .i64 1))) (.var 17)) []))))
 (.seq
 (.seq
 (.call (some 19) 230 [(.ld (some 274) (.var 6)), (.ld none (.offp 1 (.var 7))), (.ld (some 11) (.var 18)), (.const (.int .i64 1))] [])
 (.seq
 (.set 4 (.var 19))
 (.set 5 (.const (.bool true)))))
 .ret))
 .skip)
 (.seq
 (.seq
 (.call (some 20) 231 [(.var 0), (.ld none (.offp 1 (.var 8))), (.ld (some 11) (.var 10)), (.ld (some 11) (.var 11))] [])
 (.seq
 (.chk [(.proj 1 (.var 20)), (.proj 0 (.var 20))])
 (.seq
 (.new (some 21) 124 (.const zA9))
 (.seq
 (.store 11 (.var 21) (.proj 0 (.var 20)) [])
 (.set 22 (.proj 1 (.var 20)))))))
 (.seq
 (.cond (.pick (.pick (.un .not (.var 22)) (.const (.bool true)) (.un .not (.ld none (.offp 3 (.var 8))))) (.const (.bool true)) (.bin .eql (.ld none (.offp 1 (.var 8))) (.const (.int .i64 8))))
 (.seq
 (.seq
 (.set 4 (.const (.slice none 0 0)))
 (.set 5 (.const (.bool false))))
 .ret)
 .skip)
 (.seq
 (.seq
 (.call (some 23) 230 [(.ld (some 274) (.var 6)), (.ld none (.offp 1 (.var 7))), (.ld (some 11) (.var 21)), (.const (.int .i64 1))] [])
 (.seq
 (.set 4 (.var 23))
 (.set 5 (.const (.bool true)))))
 .ret))))))),
  [(.var 4), (.var 5)]⟩
theorem okx_151 : FnOk Tryz.prog 3 377 151 xf151 := fnOk_of Tryz.func151 (np := 4) (V := [0, 1, 2, 3, 8, 9, 5, 6, 7, 26, 10, 11, 20, 22, 23, 25, 35, 52, 12, 58, 65, 13, 14, 84, 16]) (ks := []) (by kernel_rfl)

/- (tipstaff/verify.way).to -/
def xf153 : XF := ⟨2, [0, 1, 4, 2],
  (.seq
 (.seq
 (.new (some 3) 132 (.var 0))
 (.new (some 2) 132 (.const zA23)))
 (.seq
 (.store 1 (.offp 0 (.var 3)) (.var 1) [])
 (.seq
 (.store 274 (.var 2) (.ld (some 274) (.var 3)) [])
 .ret))),
  [(.ld (some 274) (.var 2))]⟩
theorem okx_153 : FnOk Tryz.prog 3 377 153 xf153 := fnOk_of Tryz.func153 (np := 2) (V := [0, 1, 4, 2]) (ks := []) (by kernel_rfl)

/- (*tipstaff/verify.checker).call -/
def xf154 : XF := ⟨3, [0, 1, 2, 6, 7, 4, 5, 12, 8, 24, 30, 31, 9, 40, 10, 11, 61, 53, 65, 66, 81, 90, 99, 105, 106],
  (.seq
 (.seq
 (.new (some 5) 132 (.var 1))
 (.seq
 (.new (some 6) 32 (.var 2))
 (.seq
 (.set 3 (.const (.slice none 0 0)))
 (.set 4 (.const (.bool false))))))
 (.seq
 (.seq
 (.call (some 7) 234 [(.const (.int .i64 8))] [])
 (.seq
 (.new (some 8) 124 (.const zA9))
 (.store 11 (.var 8) (.var 7) [])))
 (.seq
 (.cond (.pick (.bin .eql (.ld none (.offp 4 (.var 6))) (.const (.int .i32 5))) (.const (.bool true)) (.bin .eql (.ld none (.offp 4 (.var 6))) (.const (.int .i32 7))))
 (.seq
 (.seq
 (.call (some 9) 235 [(.ld (some 273) (.offp 1 (.var 5))), (.ld (some 11) (.var 8))] [])
 (.store 273 (.offp 1 (.var 5)) (.var 9) []))
 (.seq
 (.seq
 (.call (some 10) 153 [(.ld (some 274) (.var 5)), (.bin .add (.ld none (.offp 0 (.var 5))) (.const (.int .i64 1)))] [])
 (.seq
 (.row (some 11) 132 1 (.upd 0 274 (.const zA23) (.var 10)))
 (.seq
 (.set 3 (.var 11))
 (.set 4 (.const (.bool true))))))
 .ret))
 .skip)
 (.seq
 (.set 12 (.ld none (.offp 7 (.ixArr 11 11 (.offp 0 (.offp 1 (.var 5))) (.const (.int .i64 1))))))
 (.seq
 (.seq
 (.call (some 13) 236 [(.var 0), (.var 12)] [])
 (.seq
 (.chk [(.proj 1 (.var 13)), (.proj 0 (.var 13))])
 (.seq
 (.new (some 14) 24 (.const (.agg (Array.replicate 4 (.int .i64 0)))))
 (.seq
 (.store 4 (.var 14) (.proj 0 (.var 13)) [])
 (.set 15 (.proj 1 (.var 13)))))))
 (.seq
 (.seq
 (.seq
 (.set 17 (.pick (.bin .neq (.ld none (.offp 0 (.ixArr 11 11 (.offp 0 (.offp 1 (.var 5))) (.const (.int .i64 1))))) (.const (.int .i64 4))) (.const (.bool true)) (.un .not (.var 15))))
 (.seq
 (.chk [(.pick (.var 17) (.const (.bool false)) (.ld (some 4) (.var 14))), (.pick (.var 17) (.const (.bool false)) (.var 12)), (.pick (.var 17) (.const (.bool false)) (.ld none (.offp 4 (.var 6)))), (.pick (.var 17) (.const (.bool false)) (.ld (some 273) (.offp 1 (.var 5)))), (.pick (.var 17) (.const (.bool false)) (.var 0))])
 (.cond (.pick (.var 17) (.const (.bool false)) (.const (.bool true)))
 (.call (some 16) 237 [(.var 0), (.ld (some 273) (.offp 1 (.var 5))), (.ld none (.offp 4 (.var 6))), (.var 12), (.ld (some 4) (.var 14))] [])
 (.clr [16]))))
 (.cond (.pick (.var 17) (.const (.bool true)) (.un .not (.var 16)))
 (.seq
 (.seq
 (.set 3 (.const (.slice none 0 0)))
 (.set 4 (.const (.bool false))))
 .ret)
 .skip))
 (.seq
 (.seq
 (.set 18 (.ld none (.offp 4 (.var 6))))
 (.block 0
 (.seq
 (.set 19 (.bin .eql (.var 18) (.const (.int .i32 1))))
 (.cond (.var 19)
 (.seq
 (.store 1 (.offp 6 (.nn (.var 0))) (.bin .add (.ld none (.offp 6 (.nn (.var 0)))) (.const (.int .i64 1))) [])
 (.seq
 (.chk [(.upd 8 1 (.upd 7 1 (.upd 0 1 (.const zA9) (.const (.int .i64 6))) (.var 12)) (.ld none (.offp 6 (.nn (.var 0)))))])
 (.store 11 (.var 8) (.upd 8 1 (.upd 7 1 (.upd 0 1 (.const zA9) (.const (.int .i64 6))) (.var 12)) (.ld none (.offp 6 (.nn (.var 0))))) [])))
 (.seq
 (.seq
 (.set 20 (.bin .eql (.var 18) (.const (.int .i32 88))))
 (.cond (.var 20)
 .skip
 (.set 20 (.bin .eql (.var 18) (.const (.int .i32 89))))))
 (.cond (.var 20)
 (.seq
 (.seq
 (.call (some 21) 238 [(.var 0), (.ld (some 273) (.offp 1 (.var 5))), (.const (.int .i64 2)), (.ld none (.offp 2 (.var 14)))] [])
 (.seq
 (.chk [(.proj 1 (.var 21))])
 (.seq
 (.store 273 (.offp 1 (.var 5)) (.proj 0 (.var 21)) [])
 (.set 15 (.proj 1 (.var 21))))))
 (.cond (.un .not (.var 15))
 (.seq
 (.seq
 (.set 3 (.const (.slice none 0 0)))
 (.set 4 (.const (.bool false))))
 .ret)
 .skip))
 .skip))))))
 (.seq
 (.seq
 (.call (some 22) 235 [(.ld (some 273) (.offp 1 (.var 5))), (.ld (some 11) (.var 8))] [])
 (.store 273 (.offp 1 (.var 5)) (.var 22) []))
 (.seq
 (.seq
 (.call (some 23) 153 [(.ld (some 274) (.var 5)), (.bin .add (.ld none (.offp 0 (.var 5))) (.const (.int .i64 1)))] [])
 (.seq
 (.row (some 24) 132 1 (.upd 0 274 (.const zA23) (.var 23)))
 (.seq
 (.set 3 (.var 24))
 (.set 4 (.const (.bool true))))))
 .ret))))))))),
  [(.var 3), (.var 4)]⟩
theorem okx_154 : FnOk Tryz.prog 3 377 154 xf154 := fnOk_of Tryz.func154 (np := 3) (V := [0, 1, 2, 6, 7, 4, 5, 12, 8, 24, 30, 31, 9, 40, 10, 11, 61, 53, 65, 66, 81, 90, 99, 105, 106]) (ks := []) (by kernel_rfl)

/- (*tipstaff/verify.checker).save -/
def xf156 : XF := ⟨5, [0, 1, 2, 3, 4, 10, 11, 6, 7, 8, 9, 12, 20, 28, 37, 38, 41, 54, 13, 14, 63, 64],
  (.seq
 (.seq
 (.new (some 7) 132 (.var 1))
 (.seq
 (.new (some 8) 32 (.var 2))
 (.seq
 (.new (some 9) 203 (.var 3))
 (.seq
 (.new (some 10) 124 (.var 4))
 (.seq
 (.set 5 (.const (.slice none 0 0)))
 (.set 6 (.const (.bool false))))))))
 (.seq
 (.seq
 (.set 12 (.ld (some 11) (.ixArr 11 11 (.offp 0 (.offp 1 (.var 7))) (.ld none (.offp 1 (.var 8))))))
 (.seq
 (.new (some 11) 124 (.const zA9))
 (.store 11 (.var 11) (.var 12) [])))
 (.seq
 (.seq
 (.call (some 13) 241 [(.var 0), (.ld (some 11) (.var 11)), (.conv .i64 (.ld none (.offp 3 (.var 8)))), (.ld none (.offp 2 (.var 9)))] [])
 (.cond (.un .not (.var 13))
 (.seq
 (.seq
 (.set 5 (.const (.slice none 0 0)))
 (.set 6 (.const (.bool false))))
 .ret)
 .skip))
 (.seq
 (.cond (.bin .eql (.ld none (.offp 0 (.var 11))) (.const (.int .i64 5)))
 (.seq
 (.seq
 .skip
 (.seq
 (.chk [(.bin .add (.ld none (.offp 0 (.var 7))) (.const (.int .i64 1))), (.ld (some 274) (.var 7))])
 (.seq
 (.set 16 (.bin .eql (.ld none (.offp 0 (.var 10))) (.const (.int .i64 1))))
 (.seq
 (.call (some 14) 153 [(.ld (some 274) (.var 7)), (.bin .add (.ld none (.offp 0 (.var 7))) (.const (.int .i64 1)))] [(.ld none (.offp 0 (.var 10)))])
 (.seq
 (.row (some 15) 132 1 (.upd 0 274 (.const zA23) (.var 14)))
 (.seq
 (.set 5 (.var 15))
 (.set 6 (.var 16))))))))
 .ret)
 .skip)
 (.seq
 (.seq
 (.call (some 17) 242 [(.ld (some 273) (.offp 1 (.var 7))), (.bin .add (.ld none (.offp 9 (.var 11))) (.conv .i64 (.ld none (.offp 3 (.var 8))))), (.ld none (.offp 2 (.var 9))), (.ld (some 11) (.var 10))] [])
 (.seq
 (.chk [(.proj 1 (.var 17)), (.proj 0 (.var 17))])
 (.seq
 (.new (some 18) 129 (.const zA22))
 (.seq
 (.store 273 (.var 18) (.proj 0 (.var 17)) [])
 (.set 19 (.proj 1 (.var 17)))))))
 (.seq
 (.store 273 (.offp 1 (.var 7)) (.ld (some 273) (.var 18)) [])
 (.seq
 (.seq
 (.call (some 20) 153 [(.ld (some 274) (.var 7)), (.bin .add (.ld none (.offp 0 (.var 7))) (.const (.int .i64 1)))] [])
 (.seq
 (.row (some 21) 132 1 (.upd 0 274 (.const zA23) (.var 20)))
 (.seq
 (.chk [(.var 19)])
 (.seq
 (.set 5 (.var 21))
 (.set 6 (.var 19))))))
 .ret))))))),
  [(.var 5), (.var 6)]⟩
theorem okx_156 : FnOk Tryz.prog 3 377 156 xf156 := fnOk_of Tryz.func156 (np := 5) (V := [0, 1, 2, 3, 4, 10, 11, 6, 7, 8, 9, 12, 20, 28, 37, 38, 41, 54, 13, 14, 63, 64]) (ks := []) (by kernel_rfl)

/- tipstaff/verify.second -/
def xf157 : XF := ⟨3, [0, 1, 2, 6, 3, 4, 17],
  (.seq
 (.seq
 (.new (some 4) 129 (.var 0))
 (.seq
 (.new (some 5) 32 (.var 1))
 (.new (some 3) 124 (.const zA9))))
 (.seq
 (.cond (.var 2)
 (.seq
 (.store 11 (.var 3) (.ld (some 11) (.ixArr 11 11 (.offp 0 (.var 4)) (.ld none (.offp 2 (.var 5))))) [])
 .ret)
 .skip)
 (.seq
 (.seq
 (.call (some 6) 228 [(.conv .u64 (.conv .i64 (.ld none (.offp 4 (.var 5)))))] [])
 (.store 11 (.var 3) (.var 6) []))
 .ret))),
  [(.ld (some 11) (.var 3))]⟩
theorem okx_157 : FnOk Tryz.prog 3 377 157 xf157 := fnOk_of Tryz.func157 (np := 3) (V := [0, 1, 2, 6, 3, 4, 17]) (ks := []) (by kernel_rfl)

/- (*tipstaff/verify.checker).wide -/
def xf159 : XF := ⟨3, [0, 1, 2, 6, 7, 4, 5, 8, 36, 32, 34, 37, 43, 9, 10, 53],
  (.seq
 (.seq
 (.new (some 5) 132 (.var 1))
 (.seq
 (.new (some 6) 32 (.var 2))
 (.seq
 (.set 3 (.const (.slice none 0 0)))
 (.set 4 (.const (.bool false))))))
 (.seq
 (.cond (.bin .eql (.ld none (.offp 2 (.var 6))) (.const (.int .u8 0)))
 (.seq
 (.seq
 .skip
 (.set 7 (.bin .or (.conv .u64 (.conv .u32 (.ld none (.offp 4 (.var 6))))) (.bin .shl (.conv .u64 (.conv .u32 (.ld none (.offp 4 (.ixSl 5 (.ld none (.offp 0 (.nn (.var 0)))) (.bin .add (.ld none (.offp 0 (.var 5))) (.const (.int .i64 1)))))))) (.const (.int .u64 32))))))
 (.seq
 (.seq
 .skip
 (.seq
 (.set 9 (.ld (some 274) (.var 5)))
 (.seq
 (.set 10 (.ld none (.offp 1 (.var 6))))
 (.seq
 (.call (some 8) 228 [(.var 7)] [(.ld none (.offp 1 (.var 6))), (.ld (some 274) (.var 5))])
 (.seq
 (.call (some 11) 230 [(.var 9), (.var 10), (.var 8), (.const (.int .i64 2))] [])
 (.seq
 (.set 3 (.var 11))
 (.set 4 (.const (.bool true)))))))))
 .ret))
 .skip)
 (.seq
 (.seq
 (.call (some 12) 236 [(.var 0), (.conv .i64 (.ld none (.offp 4 (.var 6))))] [])
 (.seq
 (.chk [(.proj 1 (.var 12)), (.proj 0 (.var 12))])
 (.seq
 (.new (some 13) 24 (.const (.agg (Array.replicate 4 (.int .i64 0)))))
 (.seq
 (.store 4 (.var 13) (.proj 0 (.var 12)) [])
 (.set 14 (.proj 1 (.var 12)))))))
 (.seq
 (.seq
 (.chk [(.upd 7 1 (.upd 0 1 (.const zA9) (.const (.int .i64 4))) (.conv .i64 (.ld none (.offp 4 (.var 6)))))])
 (.seq
 (.call (some 15) 230 [(.ld (some 274) (.var 5)), (.ld none (.offp 1 (.var 6))), (.upd 7 1 (.upd 0 1 (.const zA9) (.const (.int .i64 4))) (.conv .i64 (.ld none (.offp 4 (.var 6))))), (.const (.int .i64 2))] [])
 (.seq
 (.chk [(.var 14)])
 (.seq
 (.set 3 (.var 15))
 (.set 4 (.var 14))))))
 .ret)))),
  [(.var 3), (.var 4)]⟩
theorem okx_159 : FnOk Tryz.prog 3 377 159 xf159 := fnOk_of Tryz.func159 (np := 3) (V := [0, 1, 2, 6, 7, 4, 5, 8, 36, 32, 34, 37, 43, 9, 10, 53]) (ks := []) (by kernel_rfl)

/- tipstaff/insn.alu -/
def xf160 : XF := ⟨1, [0, 2, 3, 13],
  (.seq
 (.new (some 1) 203 (.const zA3))
 (.seq
 (.seq
 (.set 3 (.upd 4 1 (.upd 3 1 (.upd 2 1 (.upd 1 1 (.upd 0 1 (.const zA3) (.const (.int .i64 1))) (.conv .i64 (.bin .shr (.var 0) (.const (.int .u64 4))))) (.const (.int .i64 0))) (.bin .eql (.bin .and (.var 0) (.const (.int .u8 7))) (.const (.int .u8 7)))) (.bin .neq (.bin .and (.var 0) (.const (.int .u8 8))) (.const (.int .u8 0)))))
 (.seq
 (.new (some 2) 203 (.const zA3))
 (.store 5 (.var 2) (.var 3) [])))
 (.seq
 (.cond (.pick (.bin .gtr (.ld none (.offp 1 (.var 2))) (.const (.int .i64 12))) (.const (.bool true)) (.pick (.bin .eql (.ld none (.offp 1 (.var 2))) (.const (.int .i64 8))) (.ld none (.offp 4 (.var 2))) (.const (.bool false))))
 (.seq
 (.store 5 (.var 1) (.const zA3) [])
 .ret)
 .skip)
 (.seq
 (.store 5 (.var 1) (.ld (some 5) (.var 2)) [])
 .ret)))),
  [(.ld (some 5) (.var 1))]⟩
theorem okx_160 : FnOk Tryz.prog 3 377 160 xf160 := fnOk_of Tryz.func160 (np := 1) (V := [0, 2, 3, 13]) (ks := []) (by kernel_rfl)

/- tipstaff/insn.jump -/
def xf161 : XF := ⟨1, [0, 2, 3, 14, 4, 23, 29, 32, 35],
  (.seq
 (.new (some 1) 203 (.const zA3))
 (.seq
 (.seq
 (.set 3 (.upd 4 1 (.upd 3 1 (.upd 2 1 (.upd 1 1 (.upd 0 1 (.const zA3) (.const (.int .i64 2))) (.conv .i64 (.bin .shr (.var 0) (.const (.int .u64 4))))) (.const (.int .i64 0))) (.bin .eql (.bin .and (.var 0) (.const (.int .u8 7))) (.const (.int .u8 5)))) (.bin .neq (.bin .and (.var 0) (.const (.int .u8 8))) (.const (.int .u8 0)))))
 (.seq
 (.new (some 2) 203 (.const zA3))
 (.store 5 (.var 2) (.var 3) [])))
 (.seq
 (.set 4 (.pick (.ld none (.offp 3 (.var 2))) (.un .not (.ld none (.offp 4 (.var 2)))) (.const (.bool false))))
 (.seq
 (.seq
 (.set 5 (.ld none (.offp 1 (.var 2))))
 (.block 0
 (.seq
 (.set 6 (.bin .eql (.var 5) (.const (.int .i64 0))))
 (.cond (.var 6)
 (.seq
 (.chk [(.upd 0 1 (.const zA3) (.const (.int .i64 3)))])
 (.store 5 (.var 2) (.upd 0 1 (.const zA3) (.const (.int .i64 3))) []))
 (.seq
 (.set 7 (.bin .eql (.var 5) (.const (.int .i64 8))))
 (.cond (.var 7)
 (.seq
 (.chk [(.upd 0 1 (.const zA3) (.const (.int .i64 4)))])
 (.store 5 (.var 2) (.upd 0 1 (.const zA3) (.const (.int .i64 4))) []))
 (.seq
 (.set 8 (.bin .eql (.var 5) (.const (.int .i64 9))))
 (.cond (.var 8)
 (.seq
 (.chk [(.upd 0 1 (.const zA3) (.const (.int .i64 5)))])
 (.store 5 (.var 2) (.upd 0 1 (.const zA3) (.const (.int .i64 5))) []))
 (.seq
 (.cond (.bin .gtr (.ld none (.offp 1 (.var 2))) (.const (.int .i64 13)))
 (.seq
 (.store 5 (.var 1) (.const zA3) [])
 .ret)
 .skip)
 (.seq
 (.store 5 (.var 1) (.ld (some 5) (.var 2)) [])
 .ret))))))))))
 (.seq
 (.cond (.un .not (.var 4))
 (.seq
 (.store 5 (.var 1) (.const zA3) [])
 .ret)
 .skip)
 (.seq
 (.store 5 (.var 1) (.ld (some 5) (.var 2)) [])
 .ret)))))),
  [(.ld (some 5) (.var 1))]⟩
theorem okx_161 : FnOk Tryz.prog 3 377 161 xf161 := fnOk_of Tryz.func161 (np := 1) (V := [0, 2, 3, 14, 4, 23, 29, 32, 35]) (ks := []) (by kernel_rfl)

/- tipstaff/insn.memory -/
def xf162 : XF := ⟨1, [0, 2, 5, 3, 14, 4, 17, 25, 28],
  (.seq
 (.new (some 1) 203 (.const zA3))
 (.seq
 (.seq
 (.row (some 2) 3 4 (.upd 3 1 (.upd 2 1 (.upd 1 1 (.upd 0 1 (.const (.agg (Array.replicate 4 (.int .i64 0)))) (.const (.int .i64 4))) (.const (.int .i64 2))) (.const (.int .i64 1))) (.const (.int .i64 8))))
 (.seq
 (.set 4 (.upd 4 1 (.upd 2 1 (.upd 0 1 (.const zA3) (.const (.int .i64 7))) (.ld none (.ixSl 1 (.var 2) (.bin .and (.bin .shr (.var 0) (.const (.int .u64 3))) (.const (.int .u8 3)))))) (.bin .eql (.bin .and (.var 0) (.const (.int .u8 7))) (.const (.int .u8 3)))))
 (.seq
 (.new (some 3) 203 (.const zA3))
 (.store 5 (.var 3) (.var 4) []))))
 (.seq
 (.set 5 (.bin .shr (.var 0) (.const (.int .u64 5))))
 (.seq
 (.block 0
 (.seq
 (.block 3
 (.seq
 (.block 2
 (.seq
 (.block 1
 (.seq
 (.seq
 (.seq
 (.set 6 (.pick (.bin .eql (.var 5) (.const (.int .u8 3))) (.bin .eql (.bin .and (.var 0) (.const (.int .u8 7))) (.const (.int .u8 1))) (.const (.bool false))))
 (.cond (.var 6)
 (.exit 1)
 .skip))
 (.seq
 (.seq
 (.set 7 (.bin .eql (.var 5) (.const (.int .u8 3))))
 (.cond (.var 7)
 (.exit 2)
 .skip))
 (.seq
 (.set 8 (.pick (.pick (.bin .eql (.var 5) (.const (.int .u8 6))) (.ld none (.offp 4 (.var 3))) (.const (.bool false))) (.bin .geq (.ld none (.offp 2 (.var 3))) (.const (.int .i64 4))) (.const (.bool false))))
 (.cond (.var 8)
 (.exit 3)
 .skip))))
 (.exit 0)))
 (.store 1 (.offp 0 (.var 3)) (.const (.int .i64 6)) [])))
 (.seq
 (.seq
 (.store 5 (.var 1) (.ld (some 5) (.var 3)) [])
 .ret)
 (.exit 0))))
 (.seq
 (.seq
 (.store 1 (.offp 0 (.var 3)) (.const (.int .i64 8)) [])
 (.seq
 (.store 5 (.var 1) (.ld (some 5) (.var 3)) [])
 .ret))
 (.exit 0))))
 (.seq
 (.store 5 (.var 1) (.const zA3) [])
 .ret))))),
  [(.ld (some 5) (.var 1))]⟩
theorem okx_162 : FnOk Tryz.prog 3 377 162 xf162 := fnOk_of Tryz.func162 (np := 1) (V := [0, 2, 5, 3, 14, 4, 17, 25, 28]) (ks := []) (by kernel_rfl)

/- tipstaff/scalar.Eval -/
def xf165 : XF := ⟨4, [0, 1, 2, 3, 8, 9, 18, 23, 31, 22],
  (.seq
 (.set 4 (.const (.int .u64 0)))
 (.seq
 (.cond (.un .not (.var 1))
 (.seq
 (.chk [(.conv .u64 (.conv .u32 (.var 3)))])
 (.seq
 (.set 2 (.conv .u64 (.conv .u32 (.var 2))))
 (.set 3 (.conv .u64 (.conv .u32 (.var 3))))))
 .skip)
 (.seq
 (.set 5 (.const (.int .u64 0)))
 (.seq
 (.seq
 (.set 6 (.var 0))
 (.block 0
 (.seq
 (.seq
 (.set 7 (.bin .eql (.var 6) (.const (.int .i64 6))))
 (.cond (.var 7)
 .skip
 (.seq
 (.set 7 (.bin .eql (.var 6) (.const (.int .i64 7))))
 (.cond (.var 7)
 .skip
 (.set 7 (.bin .eql (.var 6) (.const (.int .i64 12))))))))
 (.cond (.var 7)
 (.seq
 (.call (some 8) 243 [(.var 0), (.var 1), (.var 2), (.var 3)] [])
 (.set 5 (.var 8)))
 (.seq
 (.call (some 9) 244 [(.var 0), (.var 2), (.var 3)] [])
 (.set 5 (.var 9)))))))
 (.seq
 (.cond (.un .not (.var 1))
 (.set 5 (.conv .u64 (.conv .u32 (.var 5))))
 .skip)
 (.seq
 (.set 4 (.var 5))
 .ret)))))),
  [(.var 4)]⟩
theorem okx_165 : FnOk Tryz.prog 3 377 165 xf165 := fnOk_of Tryz.func165 (np := 4) (V := [0, 1, 2, 3, 8, 9, 18, 23, 31, 22]) (ks := []) (by kernel_rfl)

/- slices.Clone[[]tipstaff/api.Insn,tipstaff/api.Insn] -/
def xf179 : XF := ⟨1, [0, 2, 5, 7],
  (.seq
 (.set 1 (.const (.slice none 0 0)))
 (.seq
 (.cond (.isnil 1 false (.var 0))
 (.seq
 (.set 1 (.const (.slice none 0 0)))
 .ret)
 .skip)
 (.seq
 (.seq
 (.row (some 2) 32 0 (.const (.agg #[])))
 (.seq
 (.app (some 3) 32 5 (.var 2) (.var 0) [])
 (.set 1 (.var 3))))
 .ret))),
  [(.var 1)]⟩
theorem okx_179 : FnOk Tryz.prog 3 377 179 xf179 := fnOk_of Tryz.func179 (np := 1) (V := [0, 2, 5, 7]) (ks := []) (by kernel_rfl)

/- tipstaff/canon.ofMap -/
def xf180 : XF := ⟨1, [0, 2, 1, 5],
  (.seq
 (.seq
 (.new (some 2) 32 (.var 0))
 (.set 1 (.const (.bool false))))
 (.seq
 (.seq
 (.call (some 3) 90 [(.ld none (.offp 0 (.var 2)))] [])
 (.set 1 (.pick (.bin .eql (.part none 0 (.var 3)) (.const (.int .i64 9))) (.bin .eql (.ld none (.offp 2 (.var 2))) (.const (.int .u8 1))) (.const (.bool false)))))
 .ret)),
  [(.var 1)]⟩
theorem okx_180 : FnOk Tryz.prog 3 377 180 xf180 := fnOk_of Tryz.func180 (np := 1) (V := [0, 2, 1, 5]) (ks := []) (by kernel_rfl)

/- slices.Index[[]int32,int32] -/
def xf181 : XF := ⟨2, [0, 1, 4, 8, 7, 5],
  (.seq
 (.set 2 (.const (.int .i64 0)))
 (.seq
 (.seq
 (.seq
 (.set 4 (.len false (.var 0)))
 (.set 3 (.const (.int .i64 0))))
 (.block 0
 (.loop [0, 1, 3, 4]
 (.seq
 (.cond (.bin .lss (.var 3) (.var 4))
 .skip
 (.exit 0))
 (.seq
 (.block 1
 (.seq
 (.set 5 (.var 3))
 (.cond (.bin .eql (.var 1) (.ld none (.ixSl 1 (.var 0) (.var 5))))
 (.seq
 (.set 2 (.var 5))
 .ret)
 .skip)))
 (.set 3 (.bin .add (.var 3) (.const (.int .i64 1)))))))))
 (.seq
 (.set 2 (.const (.int .i64 (-1))))
 .ret))),
  [(.var 2)]⟩
theorem okx_181 : FnOk Tryz.prog 3 377 181 xf181 := fnOk_of Tryz.func181 (np := 2) (V := [0, 1, 4, 8, 7, 5]) (ks := [[0, 1, 3, 4]]) (by kernel_rfl)

/- slices.Clone[[]*tipstaff/bmap.entry,*tipstaff/bmap.entry] -/
def xf182 : XF := ⟨1, [0, 2, 5, 7],
  (.seq
 (.set 1 (.const (.slice none 0 0)))
 (.seq
 (.cond (.isnil 1 false (.var 0))
 (.seq
 (.set 1 (.const (.slice none 0 0)))
 .ret)
 .skip)
 (.seq
 (.seq
 (.row (some 2) 97 0 (.const (.agg #[])))
 (.seq
 (.app (some 3) 97 1 (.var 2) (.var 0) [])
 (.set 1 (.var 3))))
 .ret))),
  [(.var 1)]⟩
theorem okx_182 : FnOk Tryz.prog 3 377 182 xf182 := fnOk_of Tryz.func182 (np := 1) (V := [0, 2, 5, 7]) (ks := []) (by kernel_rfl)

/- slices.SortStableFunc[[]*tipstaff/bmap.entry,*tipstaff/bmap.entry] -/
def xf183 : XF := ⟨2, [0, 1],
  (.call none 263 [(.var 0), (.len false (.var 0)), (.var 1)] []),
  []⟩
theorem okx_183 : FnOk Tryz.prog 3 377 183 xf183 := fnOk_of Tryz.func183 (np := 2) (V := [0, 1]) (ks := []) (by kernel_rfl)

/- tipstaff/digest.Joined -/
def xf186 : XF := ⟨1, [0, 2, 3, 8, 7, 6, 5, 16, 17, 20, 23],
  (.seq
 (.new (some 1) 49 (.const (.agg (Array.replicate 32 (.int .u8 0)))))
 (.seq
 (.set 2 (.const (.slice none 0 0)))
 (.seq
 (.seq
 (.seq
 (.set 5 (.var 0))
 (.seq
 (.set 4 (.len false (.var 5)))
 (.set 3 (.const (.int .i64 0)))))
 (.block 0
 (.loop [1, 2, 3, 4, 5]
 (.seq
 (.cond (.bin .lss (.var 3) (.var 4))
 .skip
 (.exit 0))
 (.seq
 (.block 1
 (.seq
 (.set 6 (.ld none (.ixSl 1 (.var 5) (.var 3))))
 (.seq
 (.seq
 (.chk [(.var 2)])
 (.seq
 (.call (some 7) 80 [(.conv .u64 (.len false (.var 6)))] [])
 (.seq
 (.app (some 8) 5 1 (.var 2) (.var 7) [])
 (.set 2 (.var 8)))))
 (.seq
 (.app (some 9) 5 1 (.var 2) (.var 6) [])
 (.set 2 (.var 9))))))
 (.set 3 (.bin .add (.var 3) (.const (.int .i64 1)))))))))
 (.seq
 (.seq
 (.call (some 10) 40 [(.var 2)] [])
 (.store 32 (.var 1) (.var 10) []))
 .ret)))),
  [(.ld (some 32) (.var 1))]⟩
theorem okx_186 : FnOk Tryz.prog 3 377 186 xf186 := fnOk_of Tryz.func186 (np := 1) (V := [0, 2, 3, 8, 7, 6, 5, 16, 17, 20, 23]) (ks := [[1, 2, 3, 4, 5]]) (by kernel_rfl)

/- tipstaff/insn.Encode -/
def xf187 : XF := ⟨1, [0, 2, 3, 9, 8, 7, 5, 12, 30, 31, 32, 6, 42, 43],
  (.seq
 (.set 1 (.const (.slice none 0 0)))
 (.seq
 (.set 2 (.const (.slice none 0 0)))
 (.seq
 (.seq
 (.seq
 (.set 5 (.var 0))
 (.seq
 (.set 4 (.len false (.var 5)))
 (.set 3 (.const (.int .i64 0)))))
 (.block 0
 (.loop [2, 3, 4, 5]
 (.seq
 (.cond (.bin .lss (.var 3) (.var 4))
 .skip
 (.exit 0))
 (.seq
 (.block 1
 (.seq
 (.seq
 (.set 7 (.ld (some 5) (.ixSl 5 (.var 5) (.var 3))))
 (.seq
 (.new (some 6) 32 (.const zA2))
 (.store 5 (.var 6) (.var 7) [])))
 (.seq
 (.seq
 (.chk [(.var 2)])
 (.seq
 (.row (some 8) 5 4 (.upd 3 1 (.upd 2 1 (.upd 1 1 (.upd 0 1 (.const (.agg (Array.replicate 4 (.int .u8 0)))) (.ld none (.offp 0 (.var 6)))) (.bin .or (.bin .and (.ld none (.offp 1 (.var 6))) (.const (.int .u8 15))) (.bin .shl (.ld none (.offp 2 (.var 6))) (.const (.int .u64 4))))) (.conv .u8 (.ld none (.offp 3 (.var 6))))) (.conv .u8 (.bin .shr (.ld none (.offp 3 (.var 6))) (.const (.int .u64 8))))))
 (.seq
 (.app (some 9) 5 1 (.var 2) (.var 8) [])
 (.set 2 (.var 9)))))
 (.seq
 (.set 10 (.const (.int .i64 0)))
 (.block 2
 (.loop [2, 3, 4, 5, 6, 10]
 (.seq
 (.cond (.bin .lss (.var 10) (.const (.int .i64 4)))
 .skip
 (.exit 2))
 (.seq
 (.block 3
 (.seq
 (.set 11 (.var 10))
 (.seq
 (.chk [(.var 2)])
 (.seq
 (.row (some 12) 5 1 (.upd 0 1 (.const (.agg #[(.int .u8 0)])) (.conv .u8 (.bin .shr (.ld none (.offp 4 (.var 6))) (.bin .mul (.const (.int .i64 8)) (.var 11))))))
 (.seq
 (.app (some 13) 5 1 (.var 2) (.var 12) [])
 (.set 2 (.var 13)))))))
 (.set 10 (.bin .add (.var 10) (.const (.int .i64 1))))))))))))
 (.set 3 (.bin .add (.var 3) (.const (.int .i64 1)))))))))
 (.seq
 (.set 1 (.var 2))
 .ret)))),
  [(.var 1)]⟩
theorem okx_187 : FnOk Tryz.prog 3 377 187 xf187 := fnOk_of Tryz.func187 (np := 1) (V := [0, 2, 3, 9, 8, 7, 5, 12, 30, 31, 32, 6, 42, 43]) (ks := [[2, 3, 4, 5], [2, 3, 4, 5, 6, 10]]) (by kernel_rfl)

/- slices.Sort[[]int32,int32] -/
def xf188 : XF := ⟨1, [0, 2, 9],
  (.seq
 (.set 1 (.len false (.var 0)))
 (.seq
 (.chk [(.var 0)])
 (.seq
 (.call (some 2) 266 [(.conv .u64 (.var 1))] [])
 (.call none 265 [(.var 0), (.const (.int .i64 0)), (.var 1), (.var 2)] [])))),
  []⟩
theorem okx_188 : FnOk Tryz.prog 3 377 188 xf188 := fnOk_of Tryz.func188 (np := 1) (V := [0, 2, 9]) (ks := []) (by kernel_rfl)

/- slices.Compact[[]int32,int32] -/
def xf189 : XF := ⟨1, [0, 2, 3, 4, 5],
  (.seq
 (.set 1 (.const (.slice none 0 0)))
 (.seq
 (.cond (.bin .lss (.len false (.var 0)) (.const (.int .i64 2)))
 (.seq
 (.set 1 (.var 0))
 .ret)
 .skip)
 (.seq
 (.seq
 (.set 2 (.const (.int .i64 1)))
 (.block 0
 (.loop [0, 2]
 (.seq
 (.cond (.bin .lss (.var 2) (.len false (.var 0)))
 .skip
 (.exit 0))
 (.seq
 (.block 1
 (.seq
 .skip
 (.cond (.bin .eql (.ld none (.ixSl 1 (.var 0) (.var 2))) (.ld none (.ixSl 1 (.var 0) (.bin .sub (.var 2) (.const (.int .i64 1))))))
 (.seq
 (.set 3 (.slSl 1 (.var 0) (.var 2) (.len false (.var 0))))
 (.seq
 (.seq
 (.set 4 (.const (.int .i64 1)))
 (.block 2
 (.loop [0, 2, 3, 4]
 (.seq
 (.cond (.bin .lss (.var 4) (.len false (.var 3)))
 .skip
 (.exit 2))
 (.seq
 (.block 3
 (.seq
 .skip
 (.cond (.bin .neq (.ld none (.ixSl 1 (.var 3) (.var 4))) (.ld none (.ixSl 1 (.var 3) (.bin .sub (.var 4) (.const (.int .i64 1))))))
 (.seq
 (.store 1 (.ixSl 1 (.var 0) (.var 2)) (.ld none (.ixSl 1 (.var 3) (.var 4))) [])
 (.set 2 (.bin .add (.var 2) (.const (.int .i64 1)))))
 .skip)))
 (.set 4 (.bin .add (.var 4) (.const (.int .i64 1)))))))))
 (.seq
 (.clear [(.int .i32 0)] (.slSl 1 (.var 0) (.var 2) (.len false (.var 0))) [])
 (.seq
 (.set 1 (.slSl 1 (.var 0) (.const (.int .i64 0)) (.var 2)))
 .ret))))
 .skip)))
 (.set 2 (.bin .add (.var 2) (.const (.int .i64 1)))))))))
 (.seq
 (.set 1 (.var 0))
 .ret)))),
  [(.var 1)]⟩
theorem okx_189 : FnOk Tryz.prog 3 377 189 xf189 := fnOk_of Tryz.func189 (np := 1) (V := [0, 2, 3, 4, 5]) (ks := [[0, 2], [0, 2, 3, 4]]) (by kernel_rfl)

/- tipstaff/rights.Bit -/
def xf190 : XF := ⟨1, [0, 2, 3, 7, 4],
  (.seq
 (.seq
 (.set 1 (.const (.int .i64 0)))
 (.set 2 (.const (.bool false))))
 (.seq
 (.seq
 (.chk [(.slArr 8 1 (.const (.pointer (some ⟨2, 0, none⟩))) (.const (.int .i64 0)) (.const (.int .i64 8)))])
 (.seq
 (.call (some 3) 181 [(.slArr 8 1 (.const (.pointer (some ⟨2, 0, none⟩))) (.const (.int .i64 0)) (.const (.int .i64 8))), (.var 0)] [])
 (.set 4 (.var 3))))
 (.seq
 (.seq
 (.chk [(.bin .geq (.var 4) (.const (.int .i64 0)))])
 (.seq
 (.set 1 (.mx (.var 4) (.const (.int .i64 0))))
 (.set 2 (.bin .geq (.var 4) (.const (.int .i64 0))))))
 .ret))),
  [(.var 1), (.var 2)]⟩
theorem okx_190 : FnOk Tryz.prog 3 377 190 xf190 := fnOk_of Tryz.func190 (np := 1) (V := [0, 2, 3, 7, 4]) (ks := []) (by kernel_rfl)

/- (*tipstaff/space.Tree).find -/
def xf193 : XF := ⟨2, [0, 1, 4, 5, 6, 10],
  (.seq
 (.seq
 (.new (some 2) 312 (.const (.agg #[(.int .i64 0), (.int .i64 0)])))
 (.set 3 (.const (.int .i64 0))))
 (.seq
 (.block 0
 (.seq
 (.set 4 (.isnil 0 false (.var 0)))
 (.cond (.var 4)
 (.seq
 (.seq
 (.store 2 (.var 2) (.const (.agg #[(.int .i64 0), (.int .i64 0)])) [])
 (.set 3 (.const (.int .i64 22))))
 .ret)
 (.seq
 (.set 5 (.pick (.bin .lss (.var 1) (.const (.int .i64 0))) (.const (.bool true)) (.bin .geq (.var 1) (.len false (.ld none (.offp 0 (.nn (.var 0))))))))
 (.cond (.var 5)
 (.seq
 (.seq
 (.store 2 (.var 2) (.const (.agg #[(.int .i64 0), (.int .i64 0)])) [])
 (.set 3 (.const (.int .i64 2))))
 .ret)
 .skip)))))
 (.seq
 (.seq
 (.store 2 (.var 2) (.ld (some 2) (.ixSl 2 (.ld none (.offp 0 (.nn (.var 0)))) (.var 1))) [])
 (.set 3 (.const (.int .i64 0))))
 .ret))),
  [(.ld (some 2) (.var 2)), (.var 3)]⟩
theorem okx_193 : FnOk Tryz.prog 3 377 193 xf193 := fnOk_of Tryz.func193 (np := 2) (V := [0, 1, 4, 5, 6, 10]) (ks := []) (by kernel_rfl)

/- tipstaff/rights.Common -/
def xf194 : XF := ⟨2, [0, 1, 4, 2, 3],
  (.seq
 (.seq
 (.new (some 3) 69 (.var 0))
 (.seq
 (.new (some 4) 69 (.var 1))
 (.new (some 2) 69 (.const zA4))))
 (.seq
 (.seq
 (.chk [(.upd 5 1 (.upd 4 1 (.upd 3 1 (.upd 2 1 (.upd 1 1 (.upd 0 1 (.const zA4) (.bin .and (.ld none (.offp 0 (.var 3))) (.ld none (.offp 0 (.var 4))))) (.bin .and (.ld none (.offp 1 (.var 3))) (.ld none (.offp 1 (.var 4))))) (.bin .and (.ld none (.offp 2 (.var 3))) (.ld none (.offp 2 (.var 4))))) (.bin .and (.ld none (.offp 3 (.var 3))) (.ld none (.offp 3 (.var 4))))) (.pick (.ld none (.offp 4 (.var 3))) (.ld none (.offp 4 (.var 4))) (.const (.bool false)))) (.pick (.ld none (.offp 5 (.var 3))) (.const (.bool true)) (.ld none (.offp 5 (.var 4)))))])
 (.store 6 (.var 2) (.upd 5 1 (.upd 4 1 (.upd 3 1 (.upd 2 1 (.upd 1 1 (.upd 0 1 (.const zA4) (.bin .and (.ld none (.offp 0 (.var 3))) (.ld none (.offp 0 (.var 4))))) (.bin .and (.ld none (.offp 1 (.var 3))) (.ld none (.offp 1 (.var 4))))) (.bin .and (.ld none (.offp 2 (.var 3))) (.ld none (.offp 2 (.var 4))))) (.bin .and (.ld none (.offp 3 (.var 3))) (.ld none (.offp 3 (.var 4))))) (.pick (.ld none (.offp 4 (.var 3))) (.ld none (.offp 4 (.var 4))) (.const (.bool false)))) (.pick (.ld none (.offp 5 (.var 3))) (.const (.bool true)) (.ld none (.offp 5 (.var 4))))) []))
 .ret)),
  [(.ld (some 6) (.var 2))]⟩
theorem okx_194 : FnOk Tryz.prog 3 377 194 xf194 := fnOk_of Tryz.func194 (np := 2) (V := [0, 1, 4, 2, 3]) (ks := []) (by kernel_rfl)

/- tipstaff/loader.Fds -/
def xf195 : XF := ⟨1, [0, 2, 3, 1, 10, 4, 5, 6],
  (.seq
 (.seq
 (.new (some 3) 64 (.var 0))
 (.seq
 (.set 1 (.const (.slice none 0 0)))
 (.set 2 (.const (.int .i64 0)))))
 (.seq
 (.seq
 (.call (some 4) 106 [(.ld none (.offp 1 (.var 3)))] [])
 (.seq
 (.chk [(.proj 2 (.var 4)), (.proj 1 (.var 4))])
 (.seq
 (.set 5 (.proj 0 (.var 4)))
 (.seq
 (.set 6 (.proj 1 (.var 4)))
 (.set 7 (.proj 2 (.var 4)))))))
 (.seq
 (.seq
 (.chk [(.var 7)])
 (.seq
 (.set 1 (.var 6))
 (.set 2 (.var 7))))
 .ret))),
  [(.var 1), (.var 2)]⟩
theorem okx_195 : FnOk Tryz.prog 3 377 195 xf195 := fnOk_of Tryz.func195 (np := 1) (V := [0, 2, 3, 1, 10, 4, 5, 6]) (ks := []) (by kernel_rfl)

/- (*tipstaff/gate.Kernel).maps -/
def xf196 : XF := ⟨3, [0, 1, 2, 6, 7, 8, 9, 10, 18, 17, 16, 12, 27, 14, 13, 15, 36, 37, 40, 41, 42],
  (.seq
 (.seq
 (.set 3 (.const (.slice none 0 0)))
 (.seq
 (.set 4 (.const (.slice none 0 0)))
 (.set 5 (.const (.int .i64 0)))))
 (.seq
 (.set 6 (.const (.slice none 0 0)))
 (.seq
 (.set 7 (.const (.slice none 0 0)))
 (.seq
 (.seq
 (.seq
 (.set 10 (.var 2))
 (.seq
 (.set 9 (.len false (.var 10)))
 (.set 8 (.const (.int .i64 0)))))
 (.block 0
 (.loop [0, 1, 6, 7, 8, 9, 10]
 (.seq
 (.cond (.bin .lss (.var 8) (.var 9))
 .skip
 (.exit 0))
 (.seq
 (.block 1
 (.seq
 (.set 11 (.ld none (.ixSl 1 (.var 10) (.var 8))))
 (.seq
 (.seq
 (.call (some 12) 121 [(.var 0), (.var 1), (.conv .i64 (.var 11)), (.const (.int .i64 1))] [])
 (.seq
 (.chk [(.proj 2 (.var 12)), (.proj 1 (.var 12)), (.proj 0 (.var 12))])
 (.seq
 (.new (some 13) 168 (.const zA6))
 (.seq
 (.set 14 (.proj 0 (.var 12)))
 (.seq
 (.store 7 (.var 13) (.proj 1 (.var 12)) [])
 (.set 15 (.proj 2 (.var 12))))))))
 (.seq
 (.cond (.bin .neq (.var 15) (.const (.int .i64 0)))
 (.seq
 (.seq
 (.chk [(.var 15)])
 (.seq
 (.set 3 (.const (.slice none 0 0)))
 (.seq
 (.set 4 (.const (.slice none 0 0)))
 (.set 5 (.var 15)))))
 .ret)
 .skip)
 (.seq
 .skip
 (.seq
 (.chk [(.var 7), (.var 14), (.var 6)])
 (.seq
 (.set 18 (.ld none (.offp 4 (.var 13))))
 (.seq
 (.resv 2)
 (.seq
 (.seq
 (.set 16 (.const (.bool true)))
 (.seq
 (.set 19 (.const (.bool true)))
 .skip))
 (.seq
 (.chk [(.var 16), (.var 19)])
 (.seq
 (.clr [16, 19])
 (.seq
 (.chk [(.upd 0 1 (.const (.agg #[(.int .i64 0)])) (.var 14)), (.upd 0 1 (.const (.agg #[(.pointer none)])) (.var 18))])
 (.seq
 (.rowR 0 16 3 1 (.upd 0 1 (.const (.agg #[(.int .i64 0)])) (.var 14)))
 (.seq
 (.app (some 17) 3 1 (.var 6) (.var 16) [(.ld none (.offp 4 (.var 13)))])
 (.seq
 (.rowR 1 19 25 1 (.upd 0 1 (.const (.agg #[(.pointer none)])) (.var 18)))
 (.seq
 (.app (some 20) 25 1 (.var 7) (.var 19) [])
 (.seq
 (.set 6 (.var 17))
 (.seq
 (.set 7 (.var 20))
 .skip))))))))))))))))))
 (.set 8 (.bin .add (.var 8) (.const (.int .i64 1)))))))))
 (.seq
 (.seq
 (.chk [(.var 7)])
 (.seq
 (.set 3 (.var 6))
 (.seq
 (.set 4 (.var 7))
 (.set 5 (.const (.int .i64 0))))))
 .ret))))),
  [(.var 3), (.var 4), (.var 5)]⟩
theorem okx_196 : FnOk Tryz.prog 3 377 196 xf196 := fnOk_of Tryz.func196 (np := 3) (V := [0, 1, 2, 6, 7, 8, 9, 10, 18, 17, 16, 12, 27, 14, 13, 15, 36, 37, 40, 41, 42]) (ks := [[0, 1, 6, 7, 8, 9, 10]]) (by kernel_rfl)

/- (*tipstaff/gate.Kernel).ready -/
def xf197 : XF := ⟨5, [0, 1, 2, 3, 4, 10, 6, 11, 21, 32, 12, 13, 44, 49, 14, 15, 64, 16, 17, 73, 18, 79],
  (.seq
 (.seq
 (.new (some 6) 78 (.var 1))
 (.set 5 (.const (.int .i64 0))))
 (.seq
 (.seq
 (.set 8 (.ld (some 8) (.nn (.var 2))))
 (.seq
 (.new (some 7) 152 (.const zA7))
 (.store 8 (.var 7) (.var 8) [])))
 (.seq
 (.store 1 (.offp 5 (.offp 1 (.var 7))) (.const (.bool false)) [])
 (.seq
 (.seq
 (.seq
 .skip
 (.seq
 (.call (some 9) 22 [(.ld (some 4) (.offp 14 (.var 6))), (.var 4), (.var 7), (.ld none (.offp 1 (.nn (.var 0))))] [])
 (.seq
 (.chk [(.proj 1 (.var 9))])
 (.seq
 (.set 10 (.proj 0 (.var 9)))
 (.set 11 (.proj 1 (.var 9)))))))
 (.cond (.bin .neq (.var 11) (.const (.int .i64 0)))
 (.seq
 (.set 5 (.var 11))
 .ret)
 .skip))
 (.seq
 (.cond (.ld none (.offp 5 (.offp 1 (.nn (.var 2)))))
 (.seq
 (.seq
 (.call (some 12) 114 [(.var 4), (.const (.func (.func 272) #[] #[]))] [])
 (.cond (.var 12)
 (.seq
 (.set 5 (.const (.int .i64 1)))
 .ret)
 .skip))
 (.seq
 (.seq
 (.call (some 13) 273 [(.ld (some 4) (.offp 14 (.var 6))), (.var 4)] [])
 (.seq
 (.chk [(.proj 1 (.var 13)), (.proj 0 (.var 13))])
 (.seq
 (.new (some 14) 49 (.const (.agg (Array.replicate 32 (.int .u8 0)))))
 (.seq
 (.store 32 (.var 14) (.proj 0 (.var 13)) [])
 (.set 15 (.proj 1 (.var 13)))))))
 (.seq
 (.cond (.bin .neq (.var 15) (.const (.int .i64 0)))
 (.seq
 (.set 5 (.var 15))
 .ret)
 .skip)
 (.seq
 (.seq
 .skip
 (.seq
 (.call (some 16) 116 [(.ld none (.offp 1 (.nn (.var 0)))), (.ld (some 32) (.var 14)), (.ld none (.offp 3 (.offp 14 (.var 6))))] [])
 (.seq
 (.chk [(.proj 1 (.var 16))])
 (.seq
 (.set 17 (.proj 0 (.var 16)))
 (.set 18 (.proj 1 (.var 16)))))))
 (.cond (.bin .neq (.var 18) (.const (.int .i64 0)))
 (.seq
 (.set 5 (.var 18))
 .ret)
 .skip)))))
 .skip)
 (.seq
 (.seq
 (.seq
 (.call (some 19) 135 [(.var 0), (.ld none (.offp 0 (.var 6)))] [])
 (.set 20 (.var 19)))
 (.cond (.bin .neq (.var 20) (.const (.int .i64 0)))
 (.seq
 (.set 5 (.var 20))
 .ret)
 .skip))
 (.seq
 (.seq
 (.call (some 21) 199 [(.var 0), (.var 3)] [])
 (.set 5 (.var 21)))
 .ret))))))),
  [(.var 5)]⟩
theorem okx_197 : FnOk Tryz.prog 3 377 197 xf197 := fnOk_of Tryz.func197 (np := 5) (V := [0, 1, 2, 3, 4, 10, 6, 11, 21, 32, 12, 13, 44, 49, 14, 15, 64, 16, 17, 73, 18, 79]) (ks := []) (by kernel_rfl)

/- (*tipstaff/gate.Kernel).holdable -/
def xf199 : XF := ⟨2, [0, 1, 4, 9, 8, 7, 6, 18],
  (.seq
 (.set 2 (.const (.int .i64 0)))
 (.seq
 (.seq
 (.seq
 (.set 5 (.var 1))
 (.seq
 (.set 4 (.len false (.var 5)))
 (.set 3 (.const (.int .i64 0)))))
 (.block 0
 (.loop [0, 3, 4, 5]
 (.seq
 (.cond (.bin .lss (.var 3) (.var 4))
 .skip
 (.exit 0))
 (.seq
 (.block 1
 (.seq
 (.set 6 (.ld none (.ixSl 1 (.var 5) (.var 3))))
 (.seq
 (.call (some 7) 72 [(.ld none (.offp 2 (.nn (.var 0)))), (.var 6)] [])
 (.cond (.bin .geq (.var 7) (.const (.int .i64 1000)))
 (.seq
 (.set 2 (.const (.int .i64 28)))
 .ret)
 .skip))))
 (.set 3 (.bin .add (.var 3) (.const (.int .i64 1)))))))))
 (.seq
 (.set 2 (.const (.int .i64 0)))
 .ret))),
  [(.var 2)]⟩
theorem okx_199 : FnOk Tryz.prog 3 377 199 xf199 := fnOk_of Tryz.func199 (np := 2) (V := [0, 1, 4, 9, 8, 7, 6, 18]) (ks := [[0, 3, 4, 5]]) (by kernel_rfl)

/- (*tipstaff/objtab.Table[tipstaff/gate.Object]).Drop -/
def xf208 : XF := ⟨2, [0, 1, 4, 5, 11, 6, 7],
  (.seq
 (.seq
 (.set 2 (.const (.bool false)))
 (.set 3 (.const (.int .i64 0))))
 (.seq
 (.seq
 (.call (some 4) 139 [(.var 0), (.var 1)] [])
 (.seq
 (.chk [(.proj 1 (.var 4))])
 (.seq
 (.set 5 (.proj 0 (.var 4)))
 (.set 6 (.proj 1 (.var 4))))))
 (.seq
 (.cond (.bin .neq (.var 6) (.const (.int .i64 0)))
 (.seq
 (.seq
 (.chk [(.var 6)])
 (.seq
 (.set 2 (.const (.bool false)))
 (.set 3 (.var 6))))
 .ret)
 .skip)
 (.seq
 (.store 1 (.offp 7 (.nn (.var 5))) (.bin .sub (.ld none (.offp 7 (.nn (.var 5)))) (.const (.int .i64 1))) [])
 (.seq
 (.cond (.bin .eql (.ld none (.offp 7 (.nn (.var 5)))) (.const (.int .i64 0)))
 (.mdel .i64 (.ld none (.offp 2 (.nn (.var 0)))) (.var 1) [])
 .skip)
 (.seq
 (.seq
 (.set 2 (.bin .eql (.ld none (.offp 7 (.nn (.var 5)))) (.const (.int .i64 0))))
 (.set 3 (.const (.int .i64 0))))
 .ret)))))),
  [(.var 2), (.var 3)]⟩
theorem okx_208 : FnOk Tryz.prog 3 377 208 xf208 := fnOk_of Tryz.func208 (np := 2) (V := [0, 1, 4, 5, 11, 6, 7]) (ks := []) (by kernel_rfl)

/- (*tipstaff/fdtab.Table).Free -/
def xf209 : XF := ⟨1, [0, 2, 11, 9],
  (.seq
 (.set 1 (.const (.int .i64 0)))
 (.seq
 (.cond (.isnil 0 false (.var 0))
 (.seq
 (.set 1 (.const (.int .i64 0)))
 .ret)
 .skip)
 (.seq
 (.seq
 .skip
 (.seq
 (.set 3 (.len false (.ld none (.offp 0 (.nn (.var 0))))))
 (.seq
 (.call (some 2) 76 [(.var 0)] [(.ld none (.offp 0 (.nn (.var 0))))])
 (.set 1 (.bin .sub (.var 3) (.len false (.var 2)))))))
 .ret))),
  [(.var 1)]⟩
theorem okx_209 : FnOk Tryz.prog 3 377 209 xf209 := fnOk_of Tryz.func209 (np := 1) (V := [0, 2, 11, 9]) (ks := []) (by kernel_rfl)

/- (*tipstaff/objtab.Table[tipstaff/gate.Object]).Hold -/
def xf210 : XF := ⟨2, [0, 1, 4, 10, 5, 6, 13, 17],
  (.seq
 (.set 2 (.const (.int .i64 0)))
 (.seq
 (.seq
 (.call (some 3) 139 [(.var 0), (.var 1)] [])
 (.seq
 (.chk [(.proj 1 (.var 3))])
 (.seq
 (.set 4 (.proj 0 (.var 3)))
 (.set 5 (.proj 1 (.var 3))))))
 (.seq
 (.block 0
 (.seq
 (.set 6 (.bin .neq (.var 5) (.const (.int .i64 0))))
 (.cond (.var 6)
 (.seq
 (.set 2 (.var 5))
 .ret)
 (.seq
 (.set 7 (.bin .eql (.ld none (.offp 7 (.nn (.var 4)))) (.const (.int .i64 1000))))
 (.cond (.var 7)
 (.seq
 (.set 2 (.const (.int .i64 28)))
 .ret)
 .skip)))))
 (.seq
 (.store 1 (.offp 7 (.nn (.var 4))) (.bin .add (.ld none (.offp 7 (.nn (.var 4)))) (.const (.int .i64 1))) [])
 (.seq
 (.set 2 (.const (.int .i64 0)))
 .ret))))),
  [(.var 2)]⟩
theorem okx_210 : FnOk Tryz.prog 3 377 210 xf210 := fnOk_of Tryz.func210 (np := 2) (V := [0, 1, 4, 10, 5, 6, 13, 17]) (ks := []) (by kernel_rfl)

/- (*tipstaff/objtab.Table[tipstaff/gate.Object]).Make -/
def xf212 : XF := ⟨2, [0, 1, 4, 5, 3, 6, 14, 18, 9, 37, 30, 34],
  (.seq
 (.seq
 (.new (some 4) 168 (.var 1))
 (.seq
 (.set 2 (.const (.int .i64 0)))
 (.set 3 (.const (.int .i64 0)))))
 (.seq
 (.block 0
 (.seq
 (.set 5 (.isnil 0 false (.var 0)))
 (.cond (.var 5)
 (.seq
 (.seq
 (.set 2 (.const (.int .i64 0)))
 (.set 3 (.const (.int .i64 22))))
 .ret)
 (.seq
 (.seq
 .skip
 (.seq
 (.chk [(.ld none (.offp 2 (.nn (.var 0))))])
 (.seq
 (.set 7 (.ld none (.offp 0 (.nn (.var 0)))))
 (.seq
 (.mlen (some 6) (.ld none (.offp 2 (.nn (.var 0)))) [(.ld none (.offp 0 (.nn (.var 0))))])
 (.set 8 (.bin .eql (.var 6) (.var 7)))))))
 (.cond (.var 8)
 (.seq
 (.seq
 (.set 2 (.const (.int .i64 0)))
 (.set 3 (.const (.int .i64 12))))
 .ret)
 .skip)))))
 (.seq
 (.store 1 (.offp 1 (.nn (.var 0))) (.bin .add (.ld none (.offp 1 (.nn (.var 0)))) (.const (.int .i64 1))) [])
 (.seq
 (.seq
 .skip
 (.seq
 (.set 10 (.ld none (.offp 2 (.nn (.var 0)))))
 (.seq
 (.set 11 (.ld none (.offp 1 (.nn (.var 0)))))
 (.seq
 (.chk [(.upd 7 1 (.upd 0 7 (.const (.agg #[(.int .i64 0), (.int .i64 0), (.int .i64 0), (.slice none 0 0), (.pointer none), (.pointer none), (.pointer none), (.int .i64 0)])) (.ld (some 7) (.var 4))) (.const (.int .i64 1)))])
 (.seq
 (.new (some 9) 256 (.upd 7 1 (.upd 0 7 (.const (.agg #[(.int .i64 0), (.int .i64 0), (.int .i64 0), (.slice none 0 0), (.pointer none), (.pointer none), (.pointer none), (.int .i64 0)])) (.ld (some 7) (.var 4))) (.const (.int .i64 1))))
 (.upd .i64 (.var 10) (.var 11) (.var 9) []))))))
 (.seq
 (.seq
 (.set 2 (.ld none (.offp 1 (.nn (.var 0)))))
 (.set 3 (.const (.int .i64 0))))
 .ret))))),
  [(.var 2), (.var 3)]⟩
theorem okx_212 : FnOk Tryz.prog 3 377 212 xf212 := fnOk_of Tryz.func212 (np := 2) (V := [0, 1, 4, 5, 3, 6, 14, 18, 9, 37, 30, 34]) (ks := []) (by kernel_rfl)

/- math/bits.RotateLeft32 -/
def xf217 : XF := ⟨2, [0, 1, 4, 5],
  (.seq
 (.set 2 (.const (.int .u32 0)))
 (.seq
 (.set 3 (.bin .and (.conv .u64 (.var 1)) (.const (.int .u64 31))))
 (.seq
 (.set 2 (.bin .or (.bin .shl (.var 0) (.var 3)) (.bin .shr (.var 0) (.bin .sub (.const (.int .u64 32)) (.var 3)))))
 .ret))),
  [(.var 2)]⟩
theorem okx_217 : FnOk Tryz.prog 3 377 217 xf217 := fnOk_of Tryz.func217 (np := 2) (V := [0, 1, 4, 5]) (ks := []) (by kernel_rfl)

/- tipstaff/shape.plain -/
def xf218 : XF := ⟨2, [0, 1, 4, 2, 3, 5, 14, 33],
  (.seq
 (.seq
 (.new (some 3) 32 (.var 0))
 (.seq
 (.new (some 4) 336 (.var 1))
 (.set 2 (.const (.bool false)))))
 (.seq
 (.block 0
 (.seq
 (.set 5 (.pick (.bin .geq (.ld none (.offp 1 (.var 3))) (.const (.int .u8 11))) (.const (.bool true)) (.bin .geq (.ld none (.offp 2 (.var 3))) (.const (.int .u8 11)))))
 (.cond (.var 5)
 .skip
 (.seq
 (.set 6 (.pick (.pick (.un .not (.ld none (.offp 0 (.var 4)))) (.bin .neq (.ld none (.offp 1 (.var 3))) (.const (.int .u8 0))) (.const (.bool false))) (.const (.bool true)) (.pick (.un .not (.ld none (.offp 1 (.var 4)))) (.bin .neq (.ld none (.offp 2 (.var 3))) (.const (.int .u8 0))) (.const (.bool false)))))
 (.cond (.var 6)
 .skip
 (.seq
 (.set 7 (.pick (.pick (.un .not (.ld none (.offp 2 (.var 4)))) (.bin .neq (.ld none (.offp 3 (.var 3))) (.const (.int .i16 0))) (.const (.bool false))) (.const (.bool true)) (.pick (.un .not (.ld none (.offp 3 (.var 4)))) (.bin .neq (.ld none (.offp 4 (.var 3))) (.const (.int .i32 0))) (.const (.bool false)))))
 (.cond (.var 7)
 .skip
 (.seq
 (.set 2 (.const (.bool true)))
 .ret))))))))
 (.seq
 (.set 2 (.const (.bool false)))
 .ret))),
  [(.var 2)]⟩
theorem okx_218 : FnOk Tryz.prog 3 377 218 xf218 := fnOk_of Tryz.func218 (np := 2) (V := [0, 1, 4, 2, 3, 5, 14, 33]) (ks := []) (by kernel_rfl)

/- tipstaff/shape.named -/
def xf219 : XF := ⟨1, [0, 2, 1, 4, 5, 18, 27, 30, 34, 37, 40],
  (.seq
 (.seq
 (.new (some 2) 203 (.var 0))
 (.new (some 1) 336 (.const (.agg (Array.replicate 4 (.bool false))))))
 (.seq
 (.seq
 (.set 3 (.ld none (.offp 0 (.var 2))))
 (.block 0
 (.seq
 (.set 4 (.bin .eql (.var 3) (.const (.int .i64 1))))
 (.cond (.var 4)
 (.seq
 (.seq
 (.chk [(.upd 3 1 (.upd 2 1 (.upd 1 1 (.upd 0 1 (.const (.agg (Array.replicate 4 (.bool false)))) (.const (.bool true))) (.ld none (.offp 4 (.var 2)))) (.const (.bool false))) (.pick (.un .not (.ld none (.offp 4 (.var 2)))) (.bin .neq (.ld none (.offp 1 (.var 2))) (.const (.int .i64 8))) (.const (.bool false))))])
 (.store 4 (.var 1) (.upd 3 1 (.upd 2 1 (.upd 1 1 (.upd 0 1 (.const (.agg (Array.replicate 4 (.bool false)))) (.const (.bool true))) (.ld none (.offp 4 (.var 2)))) (.const (.bool false))) (.pick (.un .not (.ld none (.offp 4 (.var 2)))) (.bin .neq (.ld none (.offp 1 (.var 2))) (.const (.int .i64 8))) (.const (.bool false)))) []))
 .ret)
 (.seq
 (.seq
 (.set 5 (.bin .eql (.var 3) (.const (.int .i64 2))))
 (.cond (.var 5)
 .skip
 (.set 5 (.bin .eql (.var 3) (.const (.int .i64 7))))))
 (.cond (.var 5)
 (.seq
 (.seq
 (.chk [(.upd 3 1 (.upd 2 1 (.upd 1 1 (.upd 0 1 (.const (.agg (Array.replicate 4 (.bool false)))) (.const (.bool true))) (.ld none (.offp 4 (.var 2)))) (.const (.bool true))) (.un .not (.ld none (.offp 4 (.var 2)))))])
 (.store 4 (.var 1) (.upd 3 1 (.upd 2 1 (.upd 1 1 (.upd 0 1 (.const (.agg (Array.replicate 4 (.bool false)))) (.const (.bool true))) (.ld none (.offp 4 (.var 2)))) (.const (.bool true))) (.un .not (.ld none (.offp 4 (.var 2))))) []))
 .ret)
 (.seq
 (.set 6 (.bin .eql (.var 3) (.const (.int .i64 3))))
 (.cond (.var 6)
 (.seq
 (.seq
 (.chk [(.upd 2 1 (.const (.agg (Array.replicate 4 (.bool false)))) (.const (.bool true)))])
 (.store 4 (.var 1) (.upd 2 1 (.const (.agg (Array.replicate 4 (.bool false)))) (.const (.bool true))) []))
 .ret)
 (.seq
 (.seq
 (.set 7 (.bin .eql (.var 3) (.const (.int .i64 4))))
 (.cond (.var 7)
 .skip
 (.set 7 (.bin .eql (.var 3) (.const (.int .i64 10))))))
 (.cond (.var 7)
 (.seq
 (.seq
 (.chk [(.upd 3 1 (.const (.agg (Array.replicate 4 (.bool false)))) (.const (.bool true)))])
 (.store 4 (.var 1) (.upd 3 1 (.const (.agg (Array.replicate 4 (.bool false)))) (.const (.bool true))) []))
 .ret)
 (.seq
 (.set 8 (.bin .eql (.var 3) (.const (.int .i64 6))))
 (.cond (.var 8)
 (.seq
 (.seq
 (.chk [(.upd 3 1 (.upd 2 1 (.upd 1 1 (.upd 0 1 (.const (.agg (Array.replicate 4 (.bool false)))) (.const (.bool true))) (.const (.bool true))) (.const (.bool true))) (.const (.bool false)))])
 (.store 4 (.var 1) (.upd 3 1 (.upd 2 1 (.upd 1 1 (.upd 0 1 (.const (.agg (Array.replicate 4 (.bool false)))) (.const (.bool true))) (.const (.bool true))) (.const (.bool true))) (.const (.bool false))) []))
 .ret)
 (.seq
 (.set 9 (.bin .eql (.var 3) (.const (.int .i64 8))))
 (.cond (.var 9)
 (.seq
 (.seq
 (.chk [(.upd 3 1 (.upd 2 1 (.upd 1 1 (.upd 0 1 (.const (.agg (Array.replicate 4 (.bool false)))) (.const (.bool true))) (.const (.bool true))) (.const (.bool true))) (.const (.bool true)))])
 (.store 4 (.var 1) (.upd 3 1 (.upd 2 1 (.upd 1 1 (.upd 0 1 (.const (.agg (Array.replicate 4 (.bool false)))) (.const (.bool true))) (.const (.bool true))) (.const (.bool true))) (.const (.bool true))) []))
 .ret)
 (.seq
 (.set 10 (.bin .eql (.var 3) (.const (.int .i64 9))))
 (.cond (.var 10)
 (.seq
 (.seq
 (.chk [(.upd 3 1 (.upd 2 1 (.upd 1 1 (.upd 0 1 (.const (.agg (Array.replicate 4 (.bool false)))) (.const (.bool true))) (.const (.bool true))) (.const (.bool false))) (.const (.bool true)))])
 (.store 4 (.var 1) (.upd 3 1 (.upd 2 1 (.upd 1 1 (.upd 0 1 (.const (.agg (Array.replicate 4 (.bool false)))) (.const (.bool true))) (.const (.bool true))) (.const (.bool false))) (.const (.bool true))) []))
 .ret)
 .skip))))))))))))))))
 (.seq
 (.store 4 (.var 1) (.const (.agg (Array.replicate 4 (.bool false)))) [])
 .ret))),
  [(.ld (some 4) (.var 1))]⟩
theorem okx_219 : FnOk Tryz.prog 3 377 219 xf219 := fnOk_of Tryz.func219 (np := 1) (V := [0, 2, 1, 4, 5, 18, 27, 30, 34, 37, 40]) (ks := []) (by kernel_rfl)

/- tipstaff/shape.writes -/
def xf220 : XF := ⟨1, [0, 2],
  (.seq
 (.set 1 (.const (.bool false)))
 (.seq
 (.set 1 (.pick (.pick (.bin .eql (.var 0) (.const (.int .i64 1))) (.const (.bool true)) (.bin .eql (.var 0) (.const (.int .i64 6)))) (.const (.bool true)) (.bin .eql (.var 0) (.const (.int .i64 9)))))
 .ret)),
  [(.var 1)]⟩
theorem okx_220 : FnOk Tryz.prog 3 377 220 xf220 := fnOk_of Tryz.func220 (np := 1) (V := [0, 2]) (ks := []) (by kernel_rfl)

/- tipstaff/shape.constant -/
def xf221 : XF := ⟨2, [0, 1, 4, 2, 9, 10, 15, 5],
  (.seq
 (.seq
 (.new (some 3) 203 (.var 0))
 (.set 2 (.const (.bool false))))
 (.seq
 (.cond (.ld none (.offp 4 (.var 3)))
 (.seq
 (.set 2 (.const (.bool true)))
 .ret)
 .skip)
 (.seq
 (.seq
 (.set 4 (.ld none (.offp 1 (.var 3))))
 (.block 0
 (.seq
 (.seq
 (.set 5 (.bin .eql (.var 4) (.const (.int .i64 3))))
 (.cond (.var 5)
 .skip
 (.set 5 (.bin .eql (.var 4) (.const (.int .i64 9))))))
 (.cond (.var 5)
 (.seq
 (.set 2 (.bin .neq (.var 1) (.const (.int .i32 0))))
 .ret)
 (.seq
 (.seq
 (.set 6 (.bin .eql (.var 4) (.const (.int .i64 6))))
 (.cond (.var 6)
 .skip
 (.seq
 (.set 6 (.bin .eql (.var 4) (.const (.int .i64 7))))
 (.cond (.var 6)
 .skip
 (.set 6 (.bin .eql (.var 4) (.const (.int .i64 12))))))))
 (.cond (.var 6)
 (.seq
 (.set 7 (.const (.int .i32 31)))
 (.seq
 (.cond (.ld none (.offp 3 (.var 3)))
 (.set 7 (.const (.int .i32 63)))
 .skip)
 (.seq
 (.set 2 (.pick (.bin .geq (.var 1) (.const (.int .i32 0))) (.bin .leq (.var 1) (.var 7)) (.const (.bool false))))
 .ret)))
 .skip))))))
 (.seq
 (.set 2 (.const (.bool true)))
 .ret)))),
  [(.var 2)]⟩
theorem okx_221 : FnOk Tryz.prog 3 377 221 xf221 := fnOk_of Tryz.func221 (np := 2) (V := [0, 1, 4, 2, 9, 10, 15, 5]) (ks := []) (by kernel_rfl)

/- tipstaff/shape.Args -/
def xf222 : XF := ⟨1, [0, 2, 3, 4, 5, 10, 12, 15],
  (.seq
 (.seq
 (.set 1 (.const (.int .i64 0)))
 (.set 2 (.const (.bool false))))
 (.seq
 (.seq
 (.set 3 (.var 0))
 (.block 0
 (.seq
 (.seq
 (.set 4 (.bin .eql (.var 3) (.const (.int .i32 1))))
 (.cond (.var 4)
 .skip
 (.seq
 (.set 4 (.bin .eql (.var 3) (.const (.int .i32 3))))
 (.cond (.var 4)
 .skip
 (.seq
 (.set 4 (.bin .eql (.var 3) (.const (.int .i32 88))))
 (.cond (.var 4)
 .skip
 (.set 4 (.bin .eql (.var 3) (.const (.int .i32 89))))))))))
 (.cond (.var 4)
 (.seq
 (.seq
 (.set 1 (.const (.int .i64 2)))
 (.set 2 (.const (.bool true))))
 .ret)
 (.seq
 (.set 5 (.bin .eql (.var 3) (.const (.int .i32 2))))
 (.cond (.var 5)
 (.seq
 (.seq
 (.set 1 (.const (.int .i64 4)))
 (.set 2 (.const (.bool true))))
 .ret)
 (.seq
 (.seq
 (.set 6 (.bin .eql (.var 3) (.const (.int .i32 5))))
 (.cond (.var 6)
 .skip
 (.set 6 (.bin .eql (.var 3) (.const (.int .i32 7))))))
 (.cond (.var 6)
 (.seq
 (.seq
 (.set 1 (.const (.int .i64 0)))
 (.set 2 (.const (.bool true))))
 .ret)
 (.seq
 (.set 7 (.bin .eql (.var 3) (.const (.int .i32 87))))
 (.cond (.var 7)
 (.seq
 (.seq
 (.set 1 (.const (.int .i64 3)))
 (.set 2 (.const (.bool true))))
 .ret)
 .skip))))))))))
 (.seq
 (.seq
 (.set 1 (.const (.int .i64 0)))
 (.set 2 (.const (.bool false))))
 .ret))),
  [(.var 1), (.var 2)]⟩
theorem okx_222 : FnOk Tryz.prog 3 377 222 xf222 := fnOk_of Tryz.func222 (np := 1) (V := [0, 2, 3, 4, 5, 10, 12, 15]) (ks := []) (by kernel_rfl)

/- tipstaff/shape.wide -/
def xf224 : XF := ⟨2, [0, 1, 4, 5, 9, 21],
  (.seq
 (.set 2 (.const (.bool false)))
 (.seq
 (.seq
 (.set 4 (.ld (some 5) (.ixSl 5 (.var 0) (.var 1))))
 (.seq
 (.new (some 3) 32 (.const zA2))
 (.store 5 (.var 3) (.var 4) [])))
 (.seq
 (.seq
 (.seq
 (.chk [(.pick (.bin .geq (.bin .add (.var 1) (.const (.int .i64 1))) (.len false (.var 0))) (.const (.bool false)) (.ld (some 5) (.ixSl 5 (.var 0) (.bin .add (.var 1) (.const (.int .i64 1))))))])
 (.cond (.pick (.bin .geq (.bin .add (.var 1) (.const (.int .i64 1))) (.len false (.var 0))) (.const (.bool false)) (.const (.bool true)))
 (.call (some 5) 145 [(.ld (some 5) (.ixSl 5 (.var 0) (.bin .add (.var 1) (.const (.int .i64 1)))))] [])
 (.clr [5])))
 (.cond (.pick (.pick (.bin .geq (.bin .add (.var 1) (.const (.int .i64 1))) (.len false (.var 0))) (.const (.bool true)) (.bin .neq (.var 5) (.const (.int .i64 10)))) (.const (.bool true)) (.bin .gtr (.ld none (.offp 2 (.var 3))) (.const (.int .u8 1))))
 (.seq
 (.set 2 (.const (.bool false)))
 .ret)
 .skip))
 (.seq
 (.set 2 (.pick (.bin .eql (.ld none (.offp 2 (.var 3))) (.const (.int .u8 0))) (.const (.bool true)) (.pick (.pick (.bin .geq (.ld none (.offp 4 (.var 3))) (.const (.int .i32 0))) (.bin .lss (.ld none (.offp 4 (.var 3))) (.const (.int .i32 4))) (.const (.bool false))) (.bin .eql (.ld none (.offp 4 (.ixSl 5 (.var 0) (.bin .add (.var 1) (.const (.int .i64 1)))))) (.const (.int .i32 0))) (.const (.bool false)))))
 .ret)))),
  [(.var 2)]⟩
theorem okx_224 : FnOk Tryz.prog 3 377 224 xf224 := fnOk_of Tryz.func224 (np := 2) (V := [0, 1, 4, 5, 9, 21]) (ks := []) (by kernel_rfl)

/- (*tipstaff/cfg.walk).visit -/
def xf225 : XF := ⟨2, [0, 1, 17, 19, 18, 5, 29, 30, 35],
  (.seq
 (.store 1 (.ixSl 1 (.ld none (.offp 1 (.nn (.var 0)))) (.var 1)) (.const (.int .i64 1)) [])
 (.seq
 (.seq
 (.seq
 (.call (some 2) 284 [(.ld none (.offp 0 (.nn (.var 0)))), (.var 1)] [])
 (.seq
 (.set 4 (.len false (.var 2)))
 (.set 3 (.const (.int .i64 0)))))
 (.block 0
 (.loop [0, 1, 2, 3, 4]
 (.seq
 (.cond (.bin .lss (.var 3) (.var 4))
 .skip
 (.exit 0))
 (.seq
 (.block 1
 (.seq
 (.set 5 (.ld none (.ixSl 1 (.var 2) (.var 3))))
 (.seq
 (.set 6 (.ld none (.ixSl 1 (.ld none (.offp 1 (.nn (.var 0)))) (.var 5))))
 (.block 2
 (.seq
 (.set 7 (.bin .eql (.var 6) (.const (.int .i64 1))))
 (.cond (.var 7)
 (.store 1 (.offp 2 (.nn (.var 0))) (.const (.bool true)) [])
 (.seq
 (.set 8 (.bin .eql (.var 6) (.const (.int .i64 0))))
 (.cond (.var 8)
 (.call none 225 [(.var 0), (.var 5)] [])
 .skip))))))))
 (.set 3 (.bin .add (.var 3) (.const (.int .i64 1)))))))))
 (.store 1 (.ixSl 1 (.ld none (.offp 1 (.nn (.var 0)))) (.var 1)) (.const (.int .i64 2)) []))),
  []⟩
theorem okx_225 : FnOk Tryz.prog 3 377 225 xf225 := fnOk_of Tryz.func225 (np := 2) (V := [0, 1, 17, 19, 18, 5, 29, 30, 35]) (ks := [[0, 1, 2, 3, 4]]) (by kernel_rfl)

/- slices.IndexFunc[[]tipstaff/absreg.State,tipstaff/absreg.State] -/
def xf226 : XF := ⟨2, [0, 1, 4, 8, 7, 5, 16],
  (.seq
 (.set 2 (.const (.int .i64 0)))
 (.seq
 (.seq
 (.seq
 (.set 4 (.len false (.var 0)))
 (.set 3 (.const (.int .i64 0))))
 (.block 0
 (.loop [0, 1, 3, 4]
 (.seq
 (.cond (.bin .lss (.var 3) (.var 4))
 .skip
 (.exit 0))
 (.seq
 (.block 1
 (.seq
 (.set 5 (.var 3))
 (.seq
 (.dyn (some 6) (.var 1) [(.ld (some 273) (.ixSl 273 (.var 0) (.var 5)))] [])
 (.cond (.var 6)
 (.seq
 (.set 2 (.var 5))
 .ret)
 .skip))))
 (.set 3 (.bin .add (.var 3) (.const (.int .i64 1)))))))))
 (.seq
 (.set 2 (.const (.int .i64 (-1))))
 .ret))),
  [(.var 2)]⟩
theorem okx_226 : FnOk Tryz.prog 3 377 226 xf226 := fnOk_of Tryz.func226 (np := 2) (V := [0, 1, 4, 8, 7, 5, 16]) (ks := [[0, 1, 3, 4]]) (by kernel_rfl)

/- tipstaff/verify.known -/
def xf228 : XF := ⟨1, [0, 2, 4],
  (.seq
 (.new (some 1) 124 (.const zA9))
 (.seq
 (.seq
 (.call (some 2) 287 [(.var 0)] [])
 (.seq
 (.chk [(.upd 1 6 (.upd 0 1 (.const zA9) (.const (.int .i64 1))) (.var 2))])
 (.store 11 (.var 1) (.upd 1 6 (.upd 0 1 (.const zA9) (.const (.int .i64 1))) (.var 2)) [])))
 .ret)),
  [(.ld (some 11) (.var 1))]⟩
theorem okx_228 : FnOk Tryz.prog 3 377 228 xf228 := fnOk_of Tryz.func228 (np := 1) (V := [0, 2, 4]) (ks := []) (by kernel_rfl)

/- tipstaff/scalar.Do -/
def xf229 : XF := ⟨4, [0, 1, 2, 3, 8, 6, 7, 10, 13, 21, 22, 27, 30, 31, 32, 33, 34],
  (.seq
 (.seq
 (.new (some 5) 122 (.var 2))
 (.seq
 (.new (some 6) 122 (.var 3))
 (.new (some 4) 122 (.const zA5))))
 (.seq
 (.seq
 (.seq
 (.call (some 7) 288 [(.ld (some 6) (.var 5))] [])
 (.seq
 (.chk [(.pick (.var 7) (.ld (some 6) (.var 6)) (.const (.bool false)))])
 (.cond (.pick (.var 7) (.const (.bool true)) (.const (.bool false)))
 (.call (some 8) 288 [(.ld (some 6) (.var 6))] [])
 (.clr [8]))))
 (.cond (.pick (.var 7) (.var 8) (.const (.bool false)))
 (.seq
 (.seq
 (.call (some 9) 165 [(.var 0), (.var 1), (.ld none (.offp 2 (.var 5))), (.ld none (.offp 2 (.var 6)))] [])
 (.seq
 (.call (some 10) 287 [(.var 9)] [])
 (.store 6 (.var 4) (.var 10) [])))
 .ret)
 .skip))
 (.seq
 (.cond (.var 1)
 (.seq
 (.seq
 (.call (some 11) 289 [(.var 0), (.const (.bool true)), (.ld (some 6) (.var 5)), (.ld (some 6) (.var 6))] [])
 (.store 6 (.var 4) (.var 11) []))
 .ret)
 .skip)
 (.seq
 (.seq
 .skip
 (.seq
 (.chk [(.ld (some 6) (.var 5)), (.var 0)])
 (.seq
 (.set 13 (.ld (some 6) (.var 6)))
 (.seq
 (.call (some 12) 290 [(.ld (some 6) (.var 5)), (.const (.int .i64 4))] [(.ld (some 6) (.var 6))])
 (.seq
 (.call (some 14) 290 [(.var 13), (.const (.int .i64 4))] [])
 (.seq
 (.call (some 15) 289 [(.var 0), (.const (.bool false)), (.var 12), (.var 14)] [])
 (.seq
 (.call (some 16) 290 [(.var 15), (.const (.int .i64 4))] [])
 (.store 6 (.var 4) (.var 16) []))))))))
 .ret)))),
  [(.ld (some 6) (.var 4))]⟩
theorem okx_229 : FnOk Tryz.prog 3 377 229 xf229 := fnOk_of Tryz.func229 (np := 4) (V := [0, 1, 2, 3, 8, 6, 7, 10, 13, 21, 22, 27, 30, 31, 32, 33, 34]) (ks := []) (by kernel_rfl)

/- (tipstaff/verify.way).set -/
def xf230 : XF := ⟨4, [0, 1, 2, 3, 8, 4, 6, 20],
  (.seq
 (.seq
 (.new (some 5) 132 (.var 0))
 (.seq
 (.new (some 6) 124 (.var 2))
 (.set 4 (.const (.slice none 0 0)))))
 (.seq
 (.store 11 (.ixArr 11 11 (.offp 0 (.offp 1 (.var 5))) (.var 1)) (.ld (some 11) (.var 6)) [])
 (.seq
 (.store 1 (.offp 0 (.var 5)) (.bin .add (.ld none (.offp 0 (.var 5))) (.var 3)) [])
 (.seq
 (.seq
 (.row (some 7) 132 1 (.upd 0 274 (.const zA23) (.ld (some 274) (.var 5))))
 (.set 4 (.var 7)))
 .ret)))),
  [(.var 4)]⟩
theorem okx_230 : FnOk Tryz.prog 3 377 230 xf230 := fnOk_of Tryz.func230 (np := 4) (V := [0, 1, 2, 3, 8, 4, 6, 20]) (ks := []) (by kernel_rfl)

/- (*tipstaff/verify.checker).onPlace -/
def xf231 : XF := ⟨4, [0, 1, 2, 3, 8, 9, 6, 7, 10, 16, 22, 17, 33, 41, 36, 52, 60, 55, 71],
  (.seq
 (.seq
 (.new (some 6) 124 (.var 2))
 (.seq
 (.new (some 7) 124 (.var 3))
 (.seq
 (.new (some 4) 124 (.const zA9))
 (.set 5 (.const (.bool false))))))
 (.seq
 (.block 0
 (.seq
 (.set 8 (.bin .eql (.var 1) (.const (.int .i64 11))))
 (.cond (.var 8)
 (.seq
 (.seq
 .skip
 (.seq
 (.chk [(.ld (some 11) (.var 7))])
 (.seq
 (.set 9 (.bin .neq (.ld none (.offp 0 (.var 7))) (.const (.int .i64 0))))
 (.seq
 (.store 11 (.var 4) (.ld (some 11) (.var 7)) [(.ld none (.offp 0 (.var 7)))])
 (.set 5 (.var 9))))))
 .ret)
 (.seq
 (.seq
 (.chk [(.pick (.bin .eql (.var 1) (.const (.int .i64 0))) (.ld (some 11) (.var 6)) (.const (.bool false)))])
 (.seq
 (.cond (.pick (.bin .eql (.var 1) (.const (.int .i64 0))) (.const (.bool true)) (.const (.bool false)))
 (.call (some 10) 291 [(.ld (some 11) (.var 6))] [])
 (.clr [10]))
 (.set 11 (.pick (.pick (.bin .eql (.var 1) (.const (.int .i64 0))) (.var 10) (.const (.bool false))) (.bin .eql (.ld none (.offp 0 (.var 7))) (.const (.int .i64 1))) (.const (.bool false))))))
 (.cond (.var 11)
 (.seq
 (.seq
 (.call (some 12) 292 [(.var 0), (.ld (some 11) (.var 6)), (.ld (some 6) (.offp 1 (.var 7))), (.const (.bool false))] [])
 (.seq
 (.chk [(.proj 1 (.var 12))])
 (.seq
 (.store 11 (.var 4) (.proj 0 (.var 12)) [])
 (.set 5 (.proj 1 (.var 12))))))
 .ret)
 (.seq
 (.seq
 (.chk [(.pick (.bin .eql (.var 1) (.const (.int .i64 1))) (.ld (some 11) (.var 6)) (.const (.bool false)))])
 (.seq
 (.cond (.pick (.bin .eql (.var 1) (.const (.int .i64 1))) (.const (.bool true)) (.const (.bool false)))
 (.call (some 13) 291 [(.ld (some 11) (.var 6))] [])
 (.clr [13]))
 (.set 14 (.pick (.pick (.bin .eql (.var 1) (.const (.int .i64 1))) (.var 13) (.const (.bool false))) (.bin .eql (.ld none (.offp 0 (.var 7))) (.const (.int .i64 1))) (.const (.bool false))))))
 (.cond (.var 14)
 (.seq
 (.seq
 (.call (some 15) 292 [(.var 0), (.ld (some 11) (.var 6)), (.ld (some 6) (.offp 1 (.var 7))), (.const (.bool true))] [])
 (.seq
 (.chk [(.proj 1 (.var 15))])
 (.seq
 (.store 11 (.var 4) (.proj 0 (.var 15)) [])
 (.set 5 (.proj 1 (.var 15))))))
 .ret)
 (.seq
 (.seq
 (.chk [(.pick (.bin .eql (.var 1) (.const (.int .i64 0))) (.ld (some 11) (.var 7)) (.const (.bool false)))])
 (.seq
 (.cond (.pick (.bin .eql (.var 1) (.const (.int .i64 0))) (.const (.bool true)) (.const (.bool false)))
 (.call (some 16) 291 [(.ld (some 11) (.var 7))] [])
 (.clr [16]))
 (.set 17 (.pick (.pick (.bin .eql (.var 1) (.const (.int .i64 0))) (.var 16) (.const (.bool false))) (.bin .eql (.ld none (.offp 0 (.var 6))) (.const (.int .i64 1))) (.const (.bool false))))))
 (.cond (.var 17)
 (.seq
 (.seq
 (.call (some 18) 292 [(.var 0), (.ld (some 11) (.var 7)), (.ld (some 6) (.offp 1 (.var 6))), (.const (.bool false))] [])
 (.seq
 (.chk [(.proj 1 (.var 18))])
 (.seq
 (.store 11 (.var 4) (.proj 0 (.var 18)) [])
 (.set 5 (.proj 1 (.var 18))))))
 .ret)
 .skip)))))))))
 (.seq
 (.seq
 (.store 11 (.var 4) (.const zA9) [])
 (.set 5 (.const (.bool false))))
 .ret))),
  [(.ld (some 11) (.var 4)), (.var 5)]⟩
theorem okx_231 : FnOk Tryz.prog 3 377 231 xf231 := fnOk_of Tryz.func231 (np := 4) (V := [0, 1, 2, 3, 8, 9, 6, 7, 10, 16, 22, 17, 33, 41, 36, 52, 60, 55, 71]) (ks := []) (by kernel_rfl)

/- tipstaff/verify.unknown -/
def xf234 : XF := ⟨1, [0, 2, 3, 5],
  (.seq
 (.new (some 1) 124 (.const zA9))
 (.seq
 (.seq
 (.call (some 2) 295 [] [])
 (.seq
 (.call (some 3) 290 [(.var 2), (.var 0)] [])
 (.seq
 (.chk [(.upd 1 6 (.upd 0 1 (.const zA9) (.const (.int .i64 1))) (.var 3))])
 (.store 11 (.var 1) (.upd 1 6 (.upd 0 1 (.const zA9) (.const (.int .i64 1))) (.var 3)) []))))
 .ret)),
  [(.ld (some 11) (.var 1))]⟩
theorem okx_234 : FnOk Tryz.prog 3 377 234 xf234 := fnOk_of Tryz.func234 (np := 1) (V := [0, 2, 3, 5]) (ks := []) (by kernel_rfl)

/- tipstaff/verify.called -/
def xf235 : XF := ⟨2, [0, 1, 4, 2, 3, 5],
  (.seq
 (.seq
 (.new (some 3) 129 (.var 0))
 (.seq
 (.new (some 4) 124 (.var 1))
 (.new (some 2) 129 (.const zA22))))
 (.seq
 (.seq
 (.set 5 (.const (.int .i64 1)))
 (.block 0
 (.loop [2, 3, 4, 5]
 (.seq
 (.cond (.bin .leq (.var 5) (.const (.int .i64 5)))
 .skip
 (.exit 0))
 (.seq
 (.block 1
 (.store 11 (.ixArr 11 11 (.offp 0 (.var 3)) (.var 5)) (.const zA9) []))
 (.set 5 (.bin .add (.var 5) (.const (.int .i64 1)))))))))
 (.seq
 (.store 11 (.ixArr 11 11 (.offp 0 (.var 3)) (.const (.int .i64 0))) (.ld (some 11) (.var 4)) [])
 (.seq
 (.store 273 (.var 2) (.ld (some 273) (.var 3)) [])
 .ret)))),
  [(.ld (some 273) (.var 2))]⟩
theorem okx_235 : FnOk Tryz.prog 3 377 235 xf235 := fnOk_of Tryz.func235 (np := 2) (V := [0, 1, 4, 2, 3, 5]) (ks := [[2, 3, 4, 5]]) (by kernel_rfl)

/- (*tipstaff/verify.checker).spec -/
def xf236 : XF := ⟨2, [0, 1, 4, 5],
  (.seq
 (.seq
 (.new (some 2) 24 (.const (.agg (Array.replicate 4 (.int .i64 0)))))
 (.set 3 (.const (.bool false))))
 (.seq
 (.cond (.pick (.bin .lss (.var 1) (.const (.int .i64 0))) (.const (.bool true)) (.bin .geq (.var 1) (.len false (.ld none (.offp 0 (.offp 1 (.nn (.var 0))))))))
 (.seq
 (.seq
 (.store 4 (.var 2) (.const (.agg (Array.replicate 4 (.int .i64 0)))) [])
 (.set 3 (.const (.bool false))))
 .ret)
 .skip)
 (.seq
 (.seq
 (.store 4 (.var 2) (.ld (some 4) (.ixSl 4 (.ld none (.offp 0 (.offp 1 (.nn (.var 0))))) (.var 1))) [])
 (.set 3 (.const (.bool true))))
 .ret))),
  [(.ld (some 4) (.var 2)), (.var 3)]⟩
theorem okx_236 : FnOk Tryz.prog 3 377 236 xf236 := fnOk_of Tryz.func236 (np := 2) (V := [0, 1, 4, 5]) (ks := []) (by kernel_rfl)

/- (*tipstaff/verify.checker).arguments -/
def xf237 : XF := ⟨5, [0, 1, 2, 3, 4, 10, 6, 9, 19, 11, 20, 21, 24, 29, 32, 40, 48, 51, 59, 70, 79, 82, 86, 97, 106, 109, 113, 116, 119],
  (.seq
 (.seq
 (.new (some 6) 129 (.var 1))
 (.seq
 (.new (some 7) 24 (.var 4))
 (.set 5 (.const (.bool false)))))
 (.seq
 (.seq
 (.call (some 8) 240 [(.var 0), (.ld (some 273) (.var 6)), (.ld (some 11) (.ixArr 11 11 (.offp 0 (.var 6)) (.const (.int .i64 2)))), (.const (.int .i64 0)), (.ld none (.offp 1 (.var 7)))] [])
 (.set 9 (.var 8)))
 (.seq
 (.seq
 (.set 10 (.var 2))
 (.block 0
 (.seq
 (.set 11 (.bin .eql (.var 10) (.const (.int .i32 1))))
 (.cond (.var 11)
 (.seq
 (.seq
 (.call (some 12) 296 [(.ld (some 4) (.var 7))] [])
 (.set 5 (.pick (.un .not (.var 12)) (.var 9) (.const (.bool false)))))
 .ret)
 (.seq
 (.set 13 (.bin .eql (.var 10) (.const (.int .i32 3))))
 (.cond (.var 13)
 (.seq
 (.seq
 (.call (some 14) 296 [(.ld (some 4) (.var 7))] [])
 (.seq
 (.chk [(.pick (.pick (.un .not (.var 14)) (.var 9) (.const (.bool false))) (.var 3) (.const (.bool false))), (.pick (.pick (.un .not (.var 14)) (.var 9) (.const (.bool false))) (.var 0) (.const (.bool false)))])
 (.seq
 (.cond (.pick (.pick (.un .not (.var 14)) (.var 9) (.const (.bool false))) (.const (.bool true)) (.const (.bool false)))
 (.call (some 15) 297 [(.var 0), (.var 3)] [])
 (.clr [15]))
 (.set 5 (.pick (.pick (.pick (.un .not (.var 14)) (.var 9) (.const (.bool false))) (.un .not (.var 15)) (.const (.bool false))) (.bin .neq (.ld none (.offp 0 (.var 7))) (.const (.int .i64 0))) (.const (.bool false)))))))
 .ret)
 (.seq
 (.set 16 (.bin .eql (.var 10) (.const (.int .i32 2))))
 (.cond (.var 16)
 (.seq
 (.seq
 (.call (some 17) 296 [(.ld (some 4) (.var 7))] [])
 (.seq
 (.chk [(.pick (.pick (.un .not (.var 17)) (.var 9) (.const (.bool false))) (.var 3) (.const (.bool false))), (.pick (.pick (.un .not (.var 17)) (.var 9) (.const (.bool false))) (.var 0) (.const (.bool false)))])
 (.seq
 (.cond (.pick (.pick (.un .not (.var 17)) (.var 9) (.const (.bool false))) (.const (.bool true)) (.const (.bool false)))
 (.call (some 18) 297 [(.var 0), (.var 3)] [])
 (.clr [18]))
 (.seq
 (.chk [(.pick (.pick (.pick (.un .not (.var 17)) (.var 9) (.const (.bool false))) (.un .not (.var 18)) (.const (.bool false))) (.ld none (.offp 2 (.var 7))) (.const (.bool false))), (.pick (.pick (.pick (.un .not (.var 17)) (.var 9) (.const (.bool false))) (.un .not (.var 18)) (.const (.bool false))) (.ld (some 11) (.ixArr 11 11 (.offp 0 (.var 6)) (.const (.int .i64 3)))) (.const (.bool false))), (.pick (.pick (.pick (.un .not (.var 17)) (.var 9) (.const (.bool false))) (.un .not (.var 18)) (.const (.bool false))) (.ld (some 273) (.var 6)) (.const (.bool false))), (.pick (.pick (.pick (.un .not (.var 17)) (.var 9) (.const (.bool false))) (.un .not (.var 18)) (.const (.bool false))) (.var 0) (.const (.bool false)))])
 (.seq
 (.cond (.pick (.pick (.pick (.un .not (.var 17)) (.var 9) (.const (.bool false))) (.un .not (.var 18)) (.const (.bool false))) (.const (.bool true)) (.const (.bool false)))
 (.call (some 19) 240 [(.var 0), (.ld (some 273) (.var 6)), (.ld (some 11) (.ixArr 11 11 (.offp 0 (.var 6)) (.const (.int .i64 3)))), (.const (.int .i64 0)), (.ld none (.offp 2 (.var 7)))] [])
 (.clr [19]))
 (.set 5 (.pick (.pick (.pick (.pick (.un .not (.var 17)) (.var 9) (.const (.bool false))) (.un .not (.var 18)) (.const (.bool false))) (.var 19) (.const (.bool false))) (.bin .eql (.ld none (.offp 0 (.ixArr 11 11 (.offp 0 (.var 6)) (.const (.int .i64 4))))) (.const (.int .i64 1))) (.const (.bool false)))))))))
 .ret)
 (.seq
 (.set 20 (.bin .eql (.var 10) (.const (.int .i32 87))))
 (.cond (.var 20)
 (.seq
 (.seq
 (.call (some 21) 296 [(.ld (some 4) (.var 7))] [])
 (.seq
 (.chk [(.pick (.var 21) (.var 3) (.const (.bool false))), (.pick (.var 21) (.var 0) (.const (.bool false)))])
 (.seq
 (.cond (.pick (.var 21) (.const (.bool true)) (.const (.bool false)))
 (.call (some 22) 297 [(.var 0), (.var 3)] [])
 (.clr [22]))
 (.seq
 (.chk [(.pick (.pick (.var 21) (.un .not (.var 22)) (.const (.bool false))) (.ld none (.offp 2 (.var 7))) (.const (.bool false))), (.pick (.pick (.var 21) (.un .not (.var 22)) (.const (.bool false))) (.ld (some 11) (.ixArr 11 11 (.offp 0 (.var 6)) (.const (.int .i64 2)))) (.const (.bool false))), (.pick (.pick (.var 21) (.un .not (.var 22)) (.const (.bool false))) (.ld (some 273) (.var 6)) (.const (.bool false))), (.pick (.pick (.var 21) (.un .not (.var 22)) (.const (.bool false))) (.var 0) (.const (.bool false)))])
 (.seq
 (.cond (.pick (.pick (.var 21) (.un .not (.var 22)) (.const (.bool false))) (.const (.bool true)) (.const (.bool false)))
 (.call (some 23) 240 [(.var 0), (.ld (some 273) (.var 6)), (.ld (some 11) (.ixArr 11 11 (.offp 0 (.var 6)) (.const (.int .i64 2)))), (.const (.int .i64 0)), (.ld none (.offp 2 (.var 7)))] [])
 (.clr [23]))
 (.set 5 (.pick (.pick (.pick (.var 21) (.un .not (.var 22)) (.const (.bool false))) (.var 23) (.const (.bool false))) (.bin .eql (.ld none (.offp 0 (.ixArr 11 11 (.offp 0 (.var 6)) (.const (.int .i64 3))))) (.const (.int .i64 1))) (.const (.bool false)))))))))
 .ret)
 (.seq
 (.set 24 (.bin .eql (.var 10) (.const (.int .i32 88))))
 (.cond (.var 24)
 (.seq
 (.seq
 (.call (some 25) 296 [(.ld (some 4) (.var 7))] [])
 (.seq
 (.chk [(.pick (.var 25) (.var 3) (.const (.bool false))), (.pick (.var 25) (.var 0) (.const (.bool false)))])
 (.seq
 (.cond (.pick (.var 25) (.const (.bool true)) (.const (.bool false)))
 (.call (some 26) 297 [(.var 0), (.var 3)] [])
 (.clr [26]))
 (.set 5 (.pick (.var 25) (.un .not (.var 26)) (.const (.bool false)))))))
 .ret)
 (.seq
 (.set 27 (.bin .eql (.var 10) (.const (.int .i32 89))))
 (.cond (.var 27)
 (.seq
 (.seq
 (.call (some 28) 296 [(.ld (some 4) (.var 7))] [])
 (.set 5 (.var 28)))
 .ret)
 .skip))))))))))))))
 (.seq
 (.set 5 (.const (.bool false)))
 .ret)))),
  [(.var 5)]⟩
theorem okx_237 : FnOk Tryz.prog 3 377 237 xf237 := fnOk_of Tryz.func237 (np := 5) (V := [0, 1, 2, 3, 4, 10, 6, 9, 19, 11, 20, 21, 24, 29, 32, 40, 48, 51, 59, 70, 79, 82, 86, 97, 106, 109, 113, 116, 119]) (ks := []) (by kernel_rfl)

/- (*tipstaff/verify.checker).reads -/
def xf240 : XF := ⟨5, [0, 1, 2, 3, 4, 10, 6, 7, 14, 15, 20, 21, 29, 30, 36, 11, 12, 46],
  (.seq
 (.seq
 (.new (some 6) 129 (.var 1))
 (.seq
 (.new (some 7) 124 (.var 2))
 (.set 5 (.const (.bool false)))))
 (.seq
 (.seq
 (.set 8 (.ld none (.offp 0 (.var 7))))
 (.block 0
 (.seq
 (.set 9 (.bin .eql (.var 8) (.const (.int .i64 2))))
 (.cond (.var 9)
 (.seq
 (.seq
 (.call (some 10) 301 [(.ld (some 11) (.var 7)), (.var 3), (.var 4), (.const (.int .i64 0)), (.const (.int .i64 32))] [])
 (.set 5 (.var 10)))
 .ret)
 (.seq
 (.set 11 (.bin .eql (.var 8) (.const (.int .i64 3))))
 (.cond (.var 11)
 (.seq
 (.seq
 (.call (some 12) 300 [(.ld (some 273) (.var 6)), (.bin .add (.ld none (.offp 9 (.var 7))) (.var 3)), (.var 4)] [])
 (.set 5 (.var 12)))
 .ret)
 (.seq
 (.set 13 (.bin .eql (.var 8) (.const (.int .i64 5))))
 (.cond (.var 13)
 (.seq
 (.seq
 (.call (some 14) 236 [(.var 0), (.ld none (.offp 7 (.var 7)))] [])
 (.seq
 (.chk [(.proj 1 (.var 14)), (.proj 0 (.var 14))])
 (.seq
 (.new (some 15) 24 (.const (.agg (Array.replicate 4 (.int .i64 0)))))
 (.seq
 (.store 4 (.var 15) (.proj 0 (.var 14)) [])
 (.set 16 (.proj 1 (.var 14)))))))
 (.seq
 (.seq
 (.chk [(.pick (.var 16) (.ld none (.offp 2 (.var 15))) (.const (.bool false))), (.pick (.var 16) (.var 4) (.const (.bool false))), (.pick (.var 16) (.var 3) (.const (.bool false))), (.pick (.var 16) (.ld (some 11) (.var 7)) (.const (.bool false)))])
 (.seq
 (.cond (.pick (.var 16) (.const (.bool true)) (.const (.bool false)))
 (.call (some 17) 301 [(.ld (some 11) (.var 7)), (.var 3), (.var 4), (.const (.int .i64 0)), (.ld none (.offp 2 (.var 15)))] [])
 (.clr [17]))
 (.set 5 (.pick (.var 16) (.var 17) (.const (.bool false))))))
 .ret))
 .skip))))))))
 (.seq
 (.set 5 (.const (.bool false)))
 .ret))),
  [(.var 5)]⟩
theorem okx_240 : FnOk Tryz.prog 3 377 240 xf240 := fnOk_of Tryz.func240 (np := 5) (V := [0, 1, 2, 3, 4, 10, 6, 7, 14, 15, 20, 21, 29, 30, 36, 11, 12, 46]) (ks := []) (by kernel_rfl)

/- (*tipstaff/verify.checker).writes -/
def xf241 : XF := ⟨4, [0, 1, 2, 3, 8, 5, 12, 13, 18, 19, 25, 9, 10, 33, 42],
  (.seq
 (.seq
 (.new (some 5) 124 (.var 1))
 (.set 4 (.const (.bool false))))
 (.seq
 (.seq
 (.set 6 (.ld none (.offp 0 (.var 5))))
 (.block 0
 (.seq
 (.set 7 (.bin .eql (.var 6) (.const (.int .i64 3))))
 (.cond (.var 7)
 (.seq
 (.seq
 (.call (some 8) 301 [(.ld (some 11) (.var 5)), (.var 2), (.var 3), (.const (.int .i64 (-64))), (.const (.int .i64 0))] [])
 (.set 4 (.var 8)))
 .ret)
 (.seq
 (.set 9 (.bin .eql (.var 6) (.const (.int .i64 5))))
 (.cond (.var 9)
 (.seq
 (.seq
 (.call (some 10) 236 [(.var 0), (.ld none (.offp 7 (.var 5)))] [])
 (.seq
 (.chk [(.proj 1 (.var 10)), (.proj 0 (.var 10))])
 (.seq
 (.new (some 11) 24 (.const (.agg (Array.replicate 4 (.int .i64 0)))))
 (.seq
 (.store 4 (.var 11) (.proj 0 (.var 10)) [])
 (.set 12 (.proj 1 (.var 10)))))))
 (.seq
 (.seq
 (.chk [(.pick (.var 12) (.ld none (.offp 7 (.var 5))) (.const (.bool false))), (.pick (.var 12) (.var 0) (.const (.bool false)))])
 (.seq
 (.cond (.pick (.var 12) (.const (.bool true)) (.const (.bool false)))
 (.call (some 13) 297 [(.var 0), (.ld none (.offp 7 (.var 5)))] [])
 (.clr [13]))
 (.seq
 (.chk [(.pick (.pick (.var 12) (.un .not (.var 13)) (.const (.bool false))) (.ld none (.offp 2 (.var 11))) (.const (.bool false))), (.pick (.pick (.var 12) (.un .not (.var 13)) (.const (.bool false))) (.var 3) (.const (.bool false))), (.pick (.pick (.var 12) (.un .not (.var 13)) (.const (.bool false))) (.var 2) (.const (.bool false))), (.pick (.pick (.var 12) (.un .not (.var 13)) (.const (.bool false))) (.ld (some 11) (.var 5)) (.const (.bool false)))])
 (.seq
 (.cond (.pick (.pick (.var 12) (.un .not (.var 13)) (.const (.bool false))) (.const (.bool true)) (.const (.bool false)))
 (.call (some 14) 301 [(.ld (some 11) (.var 5)), (.var 2), (.var 3), (.const (.int .i64 0)), (.ld none (.offp 2 (.var 11)))] [])
 (.clr [14]))
 (.set 4 (.pick (.pick (.var 12) (.un .not (.var 13)) (.const (.bool false))) (.var 14) (.const (.bool false))))))))
 .ret))
 .skip))))))
 (.seq
 (.set 4 (.const (.bool false)))
 .ret))),
  [(.var 4)]⟩
theorem okx_241 : FnOk Tryz.prog 3 377 241 xf241 := fnOk_of Tryz.func241 (np := 4) (V := [0, 1, 2, 3, 8, 5, 12, 13, 18, 19, 25, 9, 10, 33, 42]) (ks := []) (by kernel_rfl)

/- tipstaff/absreg.Save -/
def xf242 : XF := ⟨4, [0, 1, 2, 3, 8, 9, 4, 7, 19, 10, 11, 12, 30, 13, 14, 15],
  (.seq
 (.seq
 (.new (some 6) 129 (.var 0))
 (.seq
 (.new (some 7) 124 (.var 3))
 (.seq
 (.new (some 4) 129 (.const zA22))
 (.set 5 (.const (.bool false))))))
 (.seq
 (.seq
 (.call (some 8) 298 [(.var 1), (.var 2)] [])
 (.seq
 (.chk [(.proj 1 (.var 8))])
 (.seq
 (.set 9 (.proj 0 (.var 8)))
 (.set 10 (.proj 1 (.var 8))))))
 (.seq
 (.set 11 (.pick (.bin .eql (.var 2) (.const (.int .i64 8))) (.bin .eql (.bin .rem (.var 9) (.const (.int .i64 8))) (.const (.int .i64 0))) (.const (.bool false))))
 (.seq
 (.seq
 (.call (some 12) 299 [(.var 2)] [])
 (.cond (.pick (.pick (.pick (.un .not (.var 12)) (.const (.bool true)) (.un .not (.var 10))) (.const (.bool true)) (.bin .eql (.ld none (.offp 0 (.var 7))) (.const (.int .i64 0)))) (.const (.bool true)) (.pick (.bin .neq (.ld none (.offp 0 (.var 7))) (.const (.int .i64 1))) (.un .not (.var 11)) (.const (.bool false))))
 (.seq
 (.seq
 (.store 273 (.var 4) (.ld (some 273) (.var 6)) [])
 (.set 5 (.const (.bool false))))
 .ret)
 .skip))
 (.seq
 (.seq
 (.set 13 (.var 9))
 (.block 0
 (.loop [2, 4, 6, 7, 9, 13]
 (.seq
 (.cond (.bin .lss (.var 13) (.bin .add (.var 9) (.var 2)))
 .skip
 (.exit 0))
 (.seq
 (.block 1
 (.seq
 (.set 14 (.bin .quo (.var 13) (.const (.int .i64 8))))
 (.seq
 (.cond (.bin .eql (.ld none (.offp 0 (.ixArr 8 11 (.offp 185 (.var 6)) (.var 14)))) (.const (.int .i64 0)))
 (.exit 1)
 .skip)
 (.seq
 (.store 11 (.ixArr 8 11 (.offp 185 (.var 6)) (.var 14)) (.const zA9) [])
 (.clear [(.bool false)] (.slArr 64 1 (.offp 121 (.var 6)) (.bin .mul (.var 14) (.const (.int .i64 8))) (.bin .mul (.bin .add (.var 14) (.const (.int .i64 1))) (.const (.int .i64 8)))) [])))))
 (.set 13 (.bin .add (.var 13) (.const (.int .i64 1)))))))))
 (.seq
 (.seq
 (.set 15 (.var 9))
 (.block 2
 (.loop [2, 4, 6, 7, 9, 15]
 (.seq
 (.cond (.bin .lss (.var 15) (.bin .add (.var 9) (.var 2)))
 .skip
 (.exit 2))
 (.seq
 (.block 3
 (.store 1 (.ixArr 64 1 (.offp 121 (.var 6)) (.var 15)) (.bin .eql (.ld none (.offp 0 (.var 7))) (.const (.int .i64 1))) []))
 (.set 15 (.bin .add (.var 15) (.const (.int .i64 1)))))))))
 (.seq
 (.cond (.bin .neq (.ld none (.offp 0 (.var 7))) (.const (.int .i64 1)))
 (.store 11 (.ixArr 8 11 (.offp 185 (.var 6)) (.bin .quo (.var 9) (.const (.int .i64 8)))) (.ld (some 11) (.var 7)) [])
 .skip)
 (.seq
 (.seq
 (.store 273 (.var 4) (.ld (some 273) (.var 6)) [])
 (.set 5 (.const (.bool true))))
 .ret)))))))),
  [(.ld (some 273) (.var 4)), (.var 5)]⟩
theorem okx_242 : FnOk Tryz.prog 3 377 242 xf242 := fnOk_of Tryz.func242 (np := 4) (V := [0, 1, 2, 3, 8, 9, 4, 7, 19, 10, 11, 12, 30, 13, 14, 15]) (ks := [[2, 4, 6, 7, 9, 13], [2, 4, 6, 7, 9, 15]]) (by kernel_rfl)

/- tipstaff/scalar.plain -/
def xf244 : XF := ⟨3, [0, 1, 2, 6, 7, 8, 13, 18, 23, 28, 33, 37, 42, 45, 52],
  (.seq
 (.set 3 (.const (.int .u64 0)))
 (.seq
 (.seq
 (.set 4 (.var 0))
 (.block 0
 (.seq
 (.set 5 (.bin .eql (.var 4) (.const (.int .i64 0))))
 (.cond (.var 5)
 (.seq
 (.set 3 (.bin .add (.var 1) (.var 2)))
 .ret)
 (.seq
 (.set 6 (.bin .eql (.var 4) (.const (.int .i64 1))))
 (.cond (.var 6)
 (.seq
 (.set 3 (.bin .sub (.var 1) (.var 2)))
 .ret)
 (.seq
 (.set 7 (.bin .eql (.var 4) (.const (.int .i64 2))))
 (.cond (.var 7)
 (.seq
 (.set 3 (.bin .mul (.var 1) (.var 2)))
 .ret)
 (.seq
 (.set 8 (.bin .eql (.var 4) (.const (.int .i64 4))))
 (.cond (.var 8)
 (.seq
 (.set 3 (.bin .or (.var 1) (.var 2)))
 .ret)
 (.seq
 (.set 9 (.bin .eql (.var 4) (.const (.int .i64 5))))
 (.cond (.var 9)
 (.seq
 (.set 3 (.bin .and (.var 1) (.var 2)))
 .ret)
 (.seq
 (.set 10 (.bin .eql (.var 4) (.const (.int .i64 8))))
 (.cond (.var 10)
 (.seq
 (.set 3 (.un .neg (.var 1)))
 .ret)
 (.seq
 (.set 11 (.bin .eql (.var 4) (.const (.int .i64 10))))
 (.cond (.var 11)
 (.seq
 (.set 3 (.bin .xor (.var 1) (.var 2)))
 .ret)
 (.seq
 (.set 12 (.bin .eql (.var 4) (.const (.int .i64 11))))
 (.cond (.var 12)
 (.seq
 (.set 3 (.var 2))
 .ret)
 (.seq
 (.set 13 (.bin .eql (.var 4) (.const (.int .i64 3))))
 (.cond (.var 13)
 (.cond (.bin .neq (.var 2) (.const (.int .u64 0)))
 (.seq
 (.set 3 (.bin .quo (.var 1) (.var 2)))
 .ret)
 .skip)
 (.seq
 (.set 14 (.bin .eql (.var 4) (.const (.int .i64 9))))
 (.cond (.var 14)
 (.seq
 (.cond (.bin .neq (.var 2) (.const (.int .u64 0)))
 (.seq
 (.set 3 (.bin .rem (.var 1) (.var 2)))
 .ret)
 .skip)
 (.seq
 (.set 3 (.var 1))
 .ret))
 .skip))))))))))))))))))))))
 (.seq
 (.set 3 (.const (.int .u64 0)))
 .ret))),
  [(.var 3)]⟩
theorem okx_244 : FnOk Tryz.prog 3 377 244 xf244 := fnOk_of Tryz.func244 (np := 3) (V := [0, 1, 2, 6, 7, 8, 13, 18, 23, 28, 33, 37, 42, 45, 52]) (ks := []) (by kernel_rfl)

/- slices.stableCmpFunc[*tipstaff/bmap.entry] -/
def xf263 : XF := ⟨3, [0, 1, 2, 6, 7, 8, 9],
  (.seq
 (.set 3 (.const (.int .i64 20)))
 (.seq
 (.seq
 (.chk [(.var 3)])
 (.seq
 (.set 4 (.const (.int .i64 0)))
 (.set 5 (.var 3))))
 (.seq
 (.block 0
 (.loop [0, 1, 2, 3, 4, 5]
 (.seq
 (.cond (.bin .leq (.var 5) (.var 1))
 .skip
 (.exit 0))
 (.block 1
 (.seq
 (.call none 312 [(.var 0), (.var 4), (.var 5), (.var 2)] [])
 (.seq
 (.set 4 (.var 5))
 (.set 5 (.bin .add (.var 5) (.var 3)))))))))
 (.seq
 (.call none 312 [(.var 0), (.var 4), (.var 1), (.var 2)] [])
 (.block 2
 (.loop [0, 1, 2, 3]
 (.seq
 (.cond (.bin .lss (.var 3) (.var 1))
 .skip
 (.exit 2))
 (.block 3
 (.seq
 (.seq
 (.chk [(.bin .mul (.const (.int .i64 2)) (.var 3))])
 (.seq
 (.set 4 (.const (.int .i64 0)))
 (.set 5 (.bin .mul (.const (.int .i64 2)) (.var 3)))))
 (.seq
 (.block 4
 (.loop [0, 1, 2, 3, 4, 5]
 (.seq
 (.cond (.bin .leq (.var 5) (.var 1))
 .skip
 (.exit 4))
 (.block 5
 (.seq
 (.call none 313 [(.var 0), (.var 4), (.bin .add (.var 4) (.var 3)), (.var 5), (.var 2)] [])
 (.seq
 (.set 4 (.var 5))
 (.set 5 (.bin .add (.var 5) (.bin .mul (.const (.int .i64 2)) (.var 3))))))))))
 (.seq
 (.seq
 (.set 6 (.bin .add (.var 4) (.var 3)))
 (.cond (.bin .lss (.var 6) (.var 1))
 (.call none 313 [(.var 0), (.var 4), (.var 6), (.var 1), (.var 2)] [])
 .skip))
 (.set 3 (.bin .mul (.var 3) (.const (.int .i64 2))))))))))))))),
  []⟩
theorem okx_263 : FnOk Tryz.prog 3 377 263 xf263 := fnOk_of Tryz.func263 (np := 3) (V := [0, 1, 2, 6, 7, 8, 9]) (ks := [[0, 1, 2, 3, 4, 5], [0, 1, 2, 3], [0, 1, 2, 3, 4, 5]]) (by kernel_rfl)

/- slices.pdqsortOrdered[int32] -/
def xf265 : XF := ⟨4, [0, 1, 2, 3, 8, 9, 10, 46, 11, 12, 72, 85, 92, 13, 99, 14, 15, 16, 17, 18],
  (.seq
 (.set 4 (.const (.bool true)))
 (.seq
 (.set 5 (.const (.bool true)))
 (.block 0
 (.loop [0, 1, 2, 3, 4, 5]
 (.block 1
 (.seq
 (.set 6 (.bin .sub (.var 2) (.var 1)))
 (.seq
 (.cond (.bin .leq (.var 6) (.const (.int .i64 12)))
 (.seq
 (.call none 314 [(.var 0), (.var 1), (.var 2)] [])
 .ret)
 .skip)
 (.seq
 (.cond (.bin .eql (.var 3) (.const (.int .i64 0)))
 (.seq
 (.call none 315 [(.var 0), (.var 1), (.var 2)] [])
 .ret)
 .skip)
 (.seq
 (.cond (.un .not (.var 4))
 (.seq
 (.call none 316 [(.var 0), (.var 1), (.var 2)] [])
 (.set 3 (.bin .sub (.var 3) (.const (.int .i64 1)))))
 .skip)
 (.seq
 (.seq
 (.call (some 7) 317 [(.var 0), (.var 1), (.var 2)] [])
 (.seq
 (.chk [(.proj 1 (.var 7))])
 (.seq
 (.set 8 (.proj 0 (.var 7)))
 (.set 9 (.proj 1 (.var 7))))))
 (.seq
 (.cond (.bin .eql (.var 9) (.const (.int .i64 2)))
 (.seq
 (.call none 318 [(.var 0), (.var 1), (.var 2)] [])
 (.seq
 (.set 8 (.bin .sub (.bin .sub (.var 2) (.const (.int .i64 1))) (.bin .sub (.var 8) (.var 1))))
 (.set 9 (.const (.int .i64 1)))))
 .skip)
 (.seq
 (.cond (.pick (.pick (.var 4) (.var 5) (.const (.bool false))) (.bin .eql (.var 9) (.const (.int .i64 1))) (.const (.bool false)))
 (.seq
 (.call (some 10) 319 [(.var 0), (.var 1), (.var 2)] [])
 (.cond (.var 10)
 .ret
 .skip))
 .skip)
 (.seq
 (.seq
 (.seq
 .skip
 (.seq
 (.chk [(.pick (.bin .gtr (.var 1) (.const (.int .i64 0))) (.ld none (.ixSl 1 (.var 0) (.var 8))) (.const (.bool false))), (.pick (.bin .gtr (.var 1) (.const (.int .i64 0))) (.ld none (.ixSl 1 (.var 0) (.bin .sub (.var 1) (.const (.int .i64 1))))) (.const (.bool false)))])
 (.cond (.pick (.bin .gtr (.var 1) (.const (.int .i64 0))) (.const (.bool true)) (.const (.bool false)))
 (.call (some 11) 320 [(.ld none (.ixSl 1 (.var 0) (.bin .sub (.var 1) (.const (.int .i64 1))))), (.ld none (.ixSl 1 (.var 0) (.var 8)))] [])
 (.clr [11]))))
 (.cond (.pick (.bin .gtr (.var 1) (.const (.int .i64 0))) (.un .not (.var 11)) (.const (.bool false)))
 (.seq
 (.seq
 (.call (some 12) 321 [(.var 0), (.var 1), (.var 2), (.var 8)] [])
 (.set 13 (.var 12)))
 (.seq
 (.set 1 (.var 13))
 (.exit 1)))
 .skip))
 (.seq
 (.seq
 (.call (some 14) 322 [(.var 0), (.var 1), (.var 2), (.var 8)] [])
 (.seq
 (.chk [(.proj 1 (.var 14))])
 (.seq
 (.set 15 (.proj 0 (.var 14)))
 (.set 16 (.proj 1 (.var 14))))))
 (.seq
 (.set 5 (.var 16))
 (.seq
 (.seq
 (.chk [(.bin .sub (.var 2) (.var 15))])
 (.seq
 (.set 17 (.bin .sub (.var 15) (.var 1)))
 (.set 18 (.bin .sub (.var 2) (.var 15)))))
 (.seq
 (.set 19 (.bin .quo (.var 6) (.const (.int .i64 8))))
 (.cond (.bin .lss (.var 17) (.var 18))
 (.seq
 (.set 4 (.bin .geq (.var 17) (.var 19)))
 (.seq
 (.call none 265 [(.var 0), (.var 1), (.var 15), (.var 3)] [])
 (.set 1 (.bin .add (.var 15) (.const (.int .i64 1))))))
 (.seq
 (.set 4 (.bin .geq (.var 18) (.var 19)))
 (.seq
 (.call none 265 [(.var 0), (.bin .add (.var 15) (.const (.int .i64 1))), (.var 2), (.var 3)] [])
 (.set 2 (.var 15)))))))))))))))))))))),
  []⟩
theorem okx_265 : FnOk Tryz.prog 3 377 265 xf265 := fnOk_of Tryz.func265 (np := 4) (V := [0, 1, 2, 3, 8, 9, 10, 46, 11, 12, 72, 85, 92, 13, 99, 14, 15, 16, 17, 18]) (ks := [[0, 1, 2, 3, 4, 5]]) (by kernel_rfl)

/- math/bits.Len -/
def xf266 : XF := ⟨1, [0, 2, 5, 7],
  (.seq
 (.set 1 (.const (.int .i64 0)))
 (.seq
 (.cond (.const (.bool false))
 (.seq
 (.seq
 (.call (some 2) 323 [(.conv .u32 (.var 0))] [])
 (.set 1 (.var 2)))
 .ret)
 .skip)
 (.seq
 (.seq
 (.call (some 3) 324 [(.var 0)] [])
 (.set 1 (.var 3)))
 .ret))),
  [(.var 1)]⟩
theorem okx_266 : FnOk Tryz.prog 3 377 266 xf266 := fnOk_of Tryz.func266 (np := 1) (V := [0, 2, 5, 7]) (ks := []) (by kernel_rfl)

/- tipstaff/cfg.Next -/
def xf284 : XF := ⟨2, [0, 1, 4, 2, 18, 20],
  (.seq
 (.seq
 (.new (some 3) 35 (.var 0))
 (.set 2 (.const (.slice none 0 0))))
 (.seq
 (.cond (.pick (.bin .lss (.var 1) (.const (.int .i64 0))) (.const (.bool true)) (.bin .geq (.var 1) (.len false (.ld none (.var 3)))))
 (.seq
 (.set 2 (.const (.slice none 0 0)))
 .ret)
 .skip)
 (.seq
 (.seq
 (.call (some 4) 342 [(.var 1), (.ld (some 5) (.ixSl 5 (.ld none (.var 3)) (.var 1)))] [])
 (.seq
 (.chk [(.cap1 (.const (.func (.func 343) #[] #[])) (.var 3))])
 (.seq
 (.call (some 5) 341 [(.var 4), (.cap1 (.const (.func (.func 343) #[] #[])) (.var 3))] [])
 (.set 2 (.var 5)))))
 .ret))),
  [(.var 2)]⟩
theorem okx_284 : FnOk Tryz.prog 3 377 284 xf284 := fnOk_of Tryz.func284 (np := 2) (V := [0, 1, 4, 2, 18, 20]) (ks := []) (by kernel_rfl)

/- tipstaff/scalar.Const -/
def xf287 : XF := ⟨1, [0, 2, 4],
  (.seq
 (.new (some 1) 122 (.const zA5))
 (.seq
 (.seq
 (.call (some 2) 345 [(.var 0)] [])
 (.seq
 (.chk [(.upd 5 1 (.upd 4 1 (.upd 3 1 (.upd 2 1 (.upd 0 2 (.const zA5) (.var 2)) (.var 0)) (.var 0)) (.conv .i64 (.var 0))) (.conv .i64 (.var 0)))])
 (.store 6 (.var 1) (.upd 5 1 (.upd 4 1 (.upd 3 1 (.upd 2 1 (.upd 0 2 (.const zA5) (.var 2)) (.var 0)) (.var 0)) (.conv .i64 (.var 0))) (.conv .i64 (.var 0))) [])))
 .ret)),
  [(.ld (some 6) (.var 1))]⟩
theorem okx_287 : FnOk Tryz.prog 3 377 287 xf287 := fnOk_of Tryz.func287 (np := 1) (V := [0, 2, 4]) (ks := []) (by kernel_rfl)

/- tipstaff/scalar.alone -/
def xf288 : XF := ⟨1, [0, 2, 1, 25, 21],
  (.seq
 (.seq
 (.new (some 2) 122 (.var 0))
 (.set 1 (.const (.bool false))))
 (.seq
 (.seq
 (.set 4 (.pick (.pick (.bin .eql (.ld none (.offp 1 (.offp 0 (.var 2)))) (.const (.int .u64 0))) (.bin .eql (.ld none (.offp 2 (.var 2))) (.ld none (.offp 3 (.var 2)))) (.const (.bool false))) (.bin .eql (.ld none (.offp 4 (.var 2))) (.ld none (.offp 5 (.var 2)))) (.const (.bool false))))
 (.seq
 (.chk [(.pick (.var 4) (.ld none (.offp 2 (.var 2))) (.const (.bool false))), (.pick (.var 4) (.ld (some 6) (.var 2)) (.const (.bool false)))])
 (.seq
 (.cond (.pick (.var 4) (.const (.bool true)) (.const (.bool false)))
 (.call (some 3) 346 [(.ld (some 6) (.var 2)), (.ld none (.offp 2 (.var 2)))] [])
 (.clr [3]))
 (.set 1 (.pick (.var 4) (.var 3) (.const (.bool false)))))))
 .ret)),
  [(.var 1)]⟩
theorem okx_288 : FnOk Tryz.prog 3 377 288 xf288 := fnOk_of Tryz.func288 (np := 1) (V := [0, 2, 1, 25, 21]) (ks := []) (by kernel_rfl)

/- tipstaff/scalar.Low -/
def xf290 : XF := ⟨2, [0, 1, 4, 2, 8, 10, 17, 5, 6, 30, 7, 34, 36],
  (.seq
 (.seq
 (.new (some 3) 122 (.var 0))
 (.new (some 2) 122 (.const zA5)))
 (.seq
 (.seq
 (.set 4 (.var 1))
 (.block 0
 (.seq
 (.seq
 (.set 5 (.bin .eql (.var 4) (.const (.int .i64 1))))
 (.cond (.var 5)
 .skip
 (.seq
 (.set 5 (.bin .eql (.var 4) (.const (.int .i64 2))))
 (.cond (.var 5)
 .skip
 (.set 5 (.bin .eql (.var 4) (.const (.int .i64 4))))))))
 (.cond (.var 5)
 .skip
 (.seq
 (.store 6 (.var 2) (.ld (some 6) (.var 3)) [])
 .ret)))))
 (.seq
 (.seq
 (.call (some 6) 353 [(.ld (some 2) (.offp 0 (.var 3))), (.var 1)] [])
 (.seq
 (.new (some 7) 120 (.const (.agg #[(.int .u64 0), (.int .u64 0)])))
 (.store 2 (.var 7) (.var 6) [])))
 (.seq
 (.set 8 (.bin .sub (.bin .shl (.const (.int .u64 1)) (.bin .mul (.const (.int .i64 8)) (.var 1))) (.const (.int .u64 1))))
 (.seq
 (.cond (.bin .leq (.ld none (.offp 3 (.var 3))) (.var 8))
 (.seq
 (.seq
 (.call (some 9) 354 [(.ld none (.offp 2 (.var 3))), (.ld none (.offp 3 (.var 3)))] [])
 (.seq
 (.new (some 10) 122 (.const zA5))
 (.store 6 (.var 10) (.var 9) [])))
 (.seq
 (.store 2 (.offp 0 (.var 10)) (.ld (some 2) (.var 7)) [])
 (.seq
 (.seq
 (.call (some 11) 355 [(.ld (some 6) (.var 10))] [])
 (.store 6 (.var 2) (.var 11) []))
 .ret)))
 .skip)
 (.seq
 (.seq
 (.call (some 12) 356 [(.ld (some 2) (.var 7))] [])
 (.store 6 (.var 2) (.var 12) []))
 .ret)))))),
  [(.ld (some 6) (.var 2))]⟩
theorem okx_290 : FnOk Tryz.prog 3 377 290 xf290 := fnOk_of Tryz.func290 (np := 2) (V := [0, 1, 4, 2, 8, 10, 17, 5, 6, 30, 7, 34, 36]) (ks := []) (by kernel_rfl)

/- tipstaff/verify.place -/
def xf291 : XF := ⟨1, [0, 2, 1],
  (.seq
 (.seq
 (.new (some 2) 124 (.var 0))
 (.set 1 (.const (.bool false))))
 (.seq
 (.set 1 (.pick (.pick (.bin .eql (.ld none (.offp 0 (.var 2))) (.const (.int .i64 2))) (.const (.bool true)) (.bin .eql (.ld none (.offp 0 (.var 2))) (.const (.int .i64 3)))) (.const (.bool true)) (.bin .eql (.ld none (.offp 0 (.var 2))) (.const (.int .i64 5)))))
 .ret)),
  [(.var 1)]⟩
theorem okx_291 : FnOk Tryz.prog 3 377 291 xf291 := fnOk_of Tryz.func291 (np := 1) (V := [0, 2, 1]) (ks := []) (by kernel_rfl)

/- (*tipstaff/verify.checker).moved -/
def xf292 : XF := ⟨4, [0, 1, 2, 3, 8, 9, 5, 6, 28, 54, 66, 10, 80],
  (.seq
 (.seq
 (.new (some 6) 124 (.var 1))
 (.seq
 (.new (some 7) 122 (.var 2))
 (.seq
 (.new (some 4) 124 (.const zA9))
 (.set 5 (.const (.bool false))))))
 (.seq
 (.cond (.pick (.pick (.bin .lss (.ld none (.offp 4 (.var 7))) (.const (.int .i64 (-64)))) (.const (.bool true)) (.bin .gtr (.ld none (.offp 5 (.var 7))) (.const (.int .i64 64)))) (.const (.bool true)) (.bin .gtr (.ld none (.offp 4 (.var 7))) (.ld none (.offp 5 (.var 7)))))
 (.seq
 (.seq
 (.store 11 (.var 4) (.ld (some 11) (.var 6)) [])
 (.set 5 (.const (.bool false))))
 .ret)
 .skip)
 (.seq
 (.seq
 (.call (some 8) 357 [(.ld (some 6) (.var 7))] [])
 (.cond (.pick (.un .not (.var 8)) (.pick (.bin .neq (.ld none (.offp 0 (.var 6))) (.const (.int .i64 5))) (.const (.bool true)) (.un .not (.ld none (.offp 2 (.offp 1 (.nn (.var 0))))))) (.const (.bool false)))
 (.seq
 (.seq
 (.store 11 (.var 4) (.ld (some 11) (.var 6)) [])
 (.set 5 (.const (.bool false))))
 .ret)
 .skip))
 (.seq
 (.cond (.var 3)
 (.seq
 .skip
 (.seq
 (.chk [(.bin .sub (.ld none (.offp 9 (.var 6))) (.ld none (.offp 5 (.var 7))))])
 (.seq
 (.set 9 (.bin .sub (.ld none (.offp 10 (.var 6))) (.ld none (.offp 4 (.var 7)))))
 (.seq
 (.store 1 (.offp 9 (.var 6)) (.bin .sub (.ld none (.offp 9 (.var 6))) (.ld none (.offp 5 (.var 7)))) [(.ld none (.offp 4 (.var 7)))])
 (.store 1 (.offp 10 (.var 6)) (.var 9) [])))))
 (.seq
 .skip
 (.seq
 (.chk [(.bin .add (.ld none (.offp 9 (.var 6))) (.ld none (.offp 4 (.var 7))))])
 (.seq
 (.set 10 (.bin .add (.ld none (.offp 10 (.var 6))) (.ld none (.offp 5 (.var 7)))))
 (.seq
 (.store 1 (.offp 9 (.var 6)) (.bin .add (.ld none (.offp 9 (.var 6))) (.ld none (.offp 4 (.var 7)))) [(.ld none (.offp 5 (.var 7)))])
 (.store 1 (.offp 10 (.var 6)) (.var 10) []))))))
 (.seq
 (.set 11 (.const (.int .i64 131072)))
 (.seq
 (.seq
 .skip
 (.seq
 (.chk [(.ld (some 11) (.var 6))])
 (.seq
 (.set 12 (.pick (.bin .geq (.ld none (.offp 9 (.var 6))) (.un .neg (.var 11))) (.bin .leq (.ld none (.offp 10 (.var 6))) (.var 11)) (.const (.bool false))))
 (.seq
 (.store 11 (.var 4) (.ld (some 11) (.var 6)) [(.ld none (.offp 10 (.var 6)))])
 (.set 5 (.var 12))))))
 .ret)))))),
  [(.ld (some 11) (.var 4)), (.var 5)]⟩
theorem okx_292 : FnOk Tryz.prog 3 377 292 xf292 := fnOk_of Tryz.func292 (np := 4) (V := [0, 1, 2, 3, 8, 9, 5, 6, 28, 54, 66, 10, 80]) (ks := []) (by kernel_rfl)

/- tipstaff/scalar.Any -/
def xf295 : XF := ⟨0, [0, 1],
  (.seq
 (.new (some 0) 122 (.const zA5))
 (.seq
 (.seq
 (.call (some 1) 359 [] [])
 (.seq
 (.chk [(.upd 5 1 (.upd 4 1 (.upd 3 1 (.upd 2 1 (.upd 0 2 (.const zA5) (.var 1)) (.const (.int .u64 0))) (.const (.int .u64 18446744073709551615))) (.const (.int .i64 (-9223372036854775808)))) (.const (.int .i64 9223372036854775807)))])
 (.store 6 (.var 0) (.upd 5 1 (.upd 4 1 (.upd 3 1 (.upd 2 1 (.upd 0 2 (.const zA5) (.var 1)) (.const (.int .u64 0))) (.const (.int .u64 18446744073709551615))) (.const (.int .i64 (-9223372036854775808)))) (.const (.int .i64 9223372036854775807))) [])))
 .ret)),
  [(.ld (some 6) (.var 0))]⟩
theorem okx_295 : FnOk Tryz.prog 3 377 295 xf295 := fnOk_of Tryz.func295 (np := 0) (V := [0, 1]) (ks := []) (by kernel_rfl)

/- tipstaff/verify.lined -/
def xf296 : XF := ⟨1, [0, 2, 1],
  (.seq
 (.seq
 (.new (some 2) 24 (.var 0))
 (.set 1 (.const (.bool false))))
 (.seq
 (.set 1 (.pick (.bin .eql (.ld none (.offp 0 (.var 2))) (.const (.int .i64 3))) (.const (.bool true)) (.bin .eql (.ld none (.offp 0 (.var 2))) (.const (.int .i64 4)))))
 .ret)),
  [(.var 1)]⟩
theorem okx_296 : FnOk Tryz.prog 3 377 296 xf296 := fnOk_of Tryz.func296 (np := 1) (V := [0, 2, 1]) (ks := []) (by kernel_rfl)

/- tipstaff/absreg.first -/
def xf298 : XF := ⟨2, [0, 1, 4, 5],
  (.seq
 (.seq
 (.set 2 (.const (.int .i64 0)))
 (.set 3 (.const (.bool false))))
 (.seq
 (.cond (.pick (.pick (.pick (.bin .lss (.var 0) (.const (.int .i64 (-64)))) (.const (.bool true)) (.bin .gtr (.var 0) (.const (.int .i64 0)))) (.const (.bool true)) (.bin .lss (.var 1) (.const (.int .i64 0)))) (.const (.bool true)) (.bin .gtr (.var 1) (.un .neg (.var 0))))
 (.seq
 (.seq
 (.set 2 (.const (.int .i64 0)))
 (.set 3 (.const (.bool false))))
 .ret)
 .skip)
 (.seq
 (.seq
 (.set 2 (.bin .add (.var 0) (.const (.int .i64 64))))
 (.set 3 (.const (.bool true))))
 .ret))),
  [(.var 2), (.var 3)]⟩
theorem okx_298 : FnOk Tryz.prog 3 377 298 xf298 := fnOk_of Tryz.func298 (np := 2) (V := [0, 1, 4, 5]) (ks := []) (by kernel_rfl)

/- tipstaff/absreg.sized -/
def xf299 : XF := ⟨1, [0, 2],
  (.seq
 (.set 1 (.const (.bool false)))
 (.seq
 (.set 1 (.pick (.pick (.pick (.bin .eql (.var 0) (.const (.int .i64 1))) (.const (.bool true)) (.bin .eql (.var 0) (.const (.int .i64 2)))) (.const (.bool true)) (.bin .eql (.var 0) (.const (.int .i64 4)))) (.const (.bool true)) (.bin .eql (.var 0) (.const (.int .i64 8)))))
 .ret)),
  [(.var 1)]⟩
theorem okx_299 : FnOk Tryz.prog 3 377 299 xf299 := fnOk_of Tryz.func299 (np := 1) (V := [0, 2]) (ks := []) (by kernel_rfl)

/- tipstaff/absreg.Ready -/
def xf300 : XF := ⟨3, [0, 1, 2, 6, 3, 13, 7, 8, 9],
  (.seq
 (.seq
 (.new (some 4) 129 (.var 0))
 (.set 3 (.const (.bool false))))
 (.seq
 (.seq
 (.call (some 5) 298 [(.var 1), (.var 2)] [])
 (.seq
 (.chk [(.proj 1 (.var 5))])
 (.seq
 (.set 6 (.proj 0 (.var 5)))
 (.set 7 (.proj 1 (.var 5))))))
 (.seq
 (.cond (.un .not (.var 7))
 (.seq
 (.set 3 (.const (.bool false)))
 .ret)
 .skip)
 (.seq
 (.seq
 (.set 8 (.var 6))
 (.block 0
 (.loop [2, 4, 6, 8]
 (.seq
 (.cond (.bin .lss (.var 8) (.bin .add (.var 6) (.var 2)))
 .skip
 (.exit 0))
 (.seq
 (.block 1
 (.cond (.un .not (.ld none (.ixArr 64 1 (.offp 121 (.var 4)) (.var 8))))
 (.seq
 (.set 3 (.const (.bool false)))
 .ret)
 .skip))
 (.set 8 (.bin .add (.var 8) (.const (.int .i64 1)))))))))
 (.seq
 (.set 3 (.const (.bool true)))
 .ret))))),
  [(.var 3)]⟩
theorem okx_300 : FnOk Tryz.prog 3 377 300 xf300 := fnOk_of Tryz.func300 (np := 3) (V := [0, 1, 2, 6, 3, 13, 7, 8, 9]) (ks := [[2, 4, 6, 8]]) (by kernel_rfl)

/- tipstaff/verify.inside -/
def xf301 : XF := ⟨5, [0, 1, 2, 3, 4, 10, 5],
  (.seq
 (.seq
 (.new (some 6) 124 (.var 0))
 (.set 5 (.const (.bool false))))
 (.seq
 (.set 5 (.pick (.bin .geq (.bin .add (.ld none (.offp 9 (.var 6))) (.var 1)) (.var 3)) (.bin .leq (.bin .add (.bin .add (.ld none (.offp 10 (.var 6))) (.var 1)) (.var 2)) (.var 4)) (.const (.bool false))))
 .ret)),
  [(.var 5)]⟩
theorem okx_301 : FnOk Tryz.prog 3 377 301 xf301 := fnOk_of Tryz.func301 (np := 5) (V := [0, 1, 2, 3, 4, 10, 5]) (ks := []) (by kernel_rfl)

/- slices.insertionSortCmpFunc[*tipstaff/bmap.entry] -/
def xf312 : XF := ⟨4, [0, 1, 2, 3, 8, 9, 32, 50],
  (.seq
 (.set 4 (.bin .add (.var 1) (.const (.int .i64 1))))
 (.block 0
 (.loop [0, 1, 2, 3, 4]
 (.seq
 (.cond (.bin .lss (.var 4) (.var 2))
 .skip
 (.exit 0))
 (.seq
 (.block 1
 (.seq
 (.set 5 (.var 4))
 (.block 2
 (.loop [0, 1, 2, 3, 4, 5]
 (.seq
 (.seq
 (.seq
 .skip
 (.seq
 (.chk [(.pick (.bin .gtr (.var 5) (.var 1)) (.ld none (.ixSl 1 (.var 0) (.bin .sub (.var 5) (.const (.int .i64 1))))) (.const (.bool false))), (.pick (.bin .gtr (.var 5) (.var 1)) (.ld none (.ixSl 1 (.var 0) (.var 5))) (.const (.bool false))), (.pick (.bin .gtr (.var 5) (.var 1)) (.var 3) (.const (.bool false)))])
 (.cond (.pick (.bin .gtr (.var 5) (.var 1)) (.const (.bool true)) (.const (.bool false)))
 (.dyn (some 6) (.var 3) [(.ld none (.ixSl 1 (.var 0) (.var 5))), (.ld none (.ixSl 1 (.var 0) (.bin .sub (.var 5) (.const (.int .i64 1)))))] [])
 (.clr [6]))))
 (.cond (.pick (.bin .gtr (.var 5) (.var 1)) (.bin .lss (.var 6) (.const (.int .i64 0))) (.const (.bool false)))
 .skip
 (.exit 2)))
 (.seq
 (.block 3
 (.seq
 .skip
 (.seq
 (.chk [(.ld none (.ixSl 1 (.var 0) (.bin .sub (.var 5) (.const (.int .i64 1)))))])
 (.seq
 (.set 7 (.ld none (.ixSl 1 (.var 0) (.var 5))))
 (.seq
 (.store 1 (.ixSl 1 (.var 0) (.var 5)) (.ld none (.ixSl 1 (.var 0) (.bin .sub (.var 5) (.const (.int .i64 1))))) [])
 (.store 1 (.ixSl 1 (.var 0) (.bin .sub (.var 5) (.const (.int .i64 1)))) (.var 7) []))))))
 (.set 5 (.bin .sub (.var 5) (.const (.int .i64 1))))))))))
 (.set 4 (.bin .add (.var 4) (.const (.int .i64 1))))))))),
  []⟩
theorem okx_312 : FnOk Tryz.prog 3 377 312 xf312 := fnOk_of Tryz.func312 (np := 4) (V := [0, 1, 2, 3, 8, 9, 32, 50]) (ks := [[0, 1, 2, 3, 4], [0, 1, 2, 3, 4, 5]]) (by kernel_rfl)

/- slices.insertionSortOrdered[int32] -/
def xf314 : XF := ⟨3, [0, 1, 2, 6, 7, 29, 46],
  (.seq
 (.set 3 (.bin .add (.var 1) (.const (.int .i64 1))))
 (.block 0
 (.loop [0, 1, 2, 3]
 (.seq
 (.cond (.bin .lss (.var 3) (.var 2))
 .skip
 (.exit 0))
 (.seq
 (.block 1
 (.seq
 (.set 4 (.var 3))
 (.block 2
 (.loop [0, 1, 2, 3, 4]
 (.seq
 (.seq
 (.seq
 .skip
 (.seq
 (.chk [(.pick (.bin .gtr (.var 4) (.var 1)) (.ld none (.ixSl 1 (.var 0) (.bin .sub (.var 4) (.const (.int .i64 1))))) (.const (.bool false))), (.pick (.bin .gtr (.var 4) (.var 1)) (.ld none (.ixSl 1 (.var 0) (.var 4))) (.const (.bool false)))])
 (.cond (.pick (.bin .gtr (.var 4) (.var 1)) (.const (.bool true)) (.const (.bool false)))
 (.call (some 5) 320 [(.ld none (.ixSl 1 (.var 0) (.var 4))), (.ld none (.ixSl 1 (.var 0) (.bin .sub (.var 4) (.const (.int .i64 1)))))] [])
 (.clr [5]))))
 (.cond (.pick (.bin .gtr (.var 4) (.var 1)) (.var 5) (.const (.bool false)))
 .skip
 (.exit 2)))
 (.seq
 (.block 3
 (.seq
 .skip
 (.seq
 (.chk [(.ld none (.ixSl 1 (.var 0) (.bin .sub (.var 4) (.const (.int .i64 1)))))])
 (.seq
 (.set 6 (.ld none (.ixSl 1 (.var 0) (.var 4))))
 (.seq
 (.store 1 (.ixSl 1 (.var 0) (.var 4)) (.ld none (.ixSl 1 (.var 0) (.bin .sub (.var 4) (.const (.int .i64 1))))) [])
 (.store 1 (.ixSl 1 (.var 0) (.bin .sub (.var 4) (.const (.int .i64 1)))) (.var 6) []))))))
 (.set 4 (.bin .sub (.var 4) (.const (.int .i64 1))))))))))
 (.set 3 (.bin .add (.var 3) (.const (.int .i64 1))))))))),
  []⟩
theorem okx_314 : FnOk Tryz.prog 3 377 314 xf314 := fnOk_of Tryz.func314 (np := 3) (V := [0, 1, 2, 6, 7, 29, 46]) (ks := [[0, 1, 2, 3], [0, 1, 2, 3, 4]]) (by kernel_rfl)

/- math/bits.Len64 -/
def xf324 : XF := ⟨1, [0, 2],
  (.seq
 (.set 1 (.const (.int .i64 0)))
 (.seq
 (.cond (.bin .geq (.var 0) (.const (.int .u64 4294967296)))
 (.seq
 (.set 0 (.bin .shr (.var 0) (.const (.int .u64 32))))
 (.set 1 (.const (.int .i64 32))))
 .skip)
 (.seq
 (.cond (.bin .geq (.var 0) (.const (.int .u64 65536)))
 (.seq
 (.set 0 (.bin .shr (.var 0) (.const (.int .u64 16))))
 (.set 1 (.bin .add (.var 1) (.const (.int .i64 16)))))
 .skip)
 (.seq
 (.cond (.bin .geq (.var 0) (.const (.int .u64 256)))
 (.seq
 (.set 0 (.bin .shr (.var 0) (.const (.int .u64 8))))
 (.set 1 (.bin .add (.var 1) (.const (.int .i64 8)))))
 .skip)
 (.seq
 (.seq
 (.chk [(.bin .add (.var 1) (.conv .i64 (.idxStr (.const (.string ⟨#[0, 1, 2, 2, 3, 3, 3, 3, 4, 4, 4, 4, 4, 4, 4, 4, 5, 5, 5, 5, 5, 5, 5, 5, 5, 5, 5, 5, 5, 5, 5, 5, 6, 6, 6, 6, 6, 6, 6, 6, 6, 6, 6, 6, 6, 6, 6, 6, 6, 6, 6, 6, 6, 6, 6, 6, 6, 6, 6, 6, 6, 6, 6, 6, 7, 7, 7, 7, 7, 7, 7, 7, 7, 7, 7, 7, 7, 7, 7, 7, 7, 7, 7, 7, 7, 7, 7, 7, 7, 7, 7, 7, 7, 7, 7, 7, 7, 7, 7, 7, 7, 7, 7, 7, 7, 7, 7, 7, 7, 7, 7, 7, 7, 7, 7, 7, 7, 7, 7, 7, 7, 7, 7, 7, 7, 7, 7, 7, 8, 8, 8, 8, 8, 8, 8, 8, 8, 8, 8, 8, 8, 8, 8, 8, 8, 8, 8, 8, 8, 8, 8, 8, 8, 8, 8, 8, 8, 8, 8, 8, 8, 8, 8, 8, 8, 8, 8, 8, 8, 8, 8, 8, 8, 8, 8, 8, 8, 8, 8, 8, 8, 8, 8, 8, 8, 8, 8, 8, 8, 8, 8, 8, 8, 8, 8, 8, 8, 8, 8, 8, 8, 8, 8, 8, 8, 8, 8, 8, 8, 8, 8, 8, 8, 8, 8, 8, 8, 8, 8, 8, 8, 8, 8, 8, 8, 8, 8, 8, 8, 8, 8, 8, 8, 8, 8, 8, 8, 8, 8, 8, 8, 8, 8, 8, 8, 8, 8, 8, 8, 8, 8, 8, 8, 8, 8, 8]⟩)) (.conv .u8 (.var 0))))), (.conv .i64 (.idxStr (.const (.string ⟨#[0, 1, 2, 2, 3, 3, 3, 3, 4, 4, 4, 4, 4, 4, 4, 4, 5, 5, 5, 5, 5, 5, 5, 5, 5, 5, 5, 5, 5, 5, 5, 5, 6, 6, 6, 6, 6, 6, 6, 6, 6, 6, 6, 6, 6, 6, 6, 6, 6, 6, 6, 6, 6, 6, 6, 6, 6, 6, 6, 6, 6, 6, 6, 6, 7, 7, 7, 7, 7, 7, 7, 7, 7, 7, 7, 7, 7, 7, 7, 7, 7, 7, 7, 7, 7, 7, 7, 7, 7, 7, 7, 7, 7, 7, 7, 7, 7, 7, 7, 7, 7, 7, 7, 7, 7, 7, 7, 7, 7, 7, 7, 7, 7, 7, 7, 7, 7, 7, 7, 7, 7, 7, 7, 7, 7, 7, 7, 7, 8, 8, 8, 8, 8, 8, 8, 8, 8, 8, 8, 8, 8, 8, 8, 8, 8, 8, 8, 8, 8, 8, 8, 8, 8, 8, 8, 8, 8, 8, 8, 8, 8, 8, 8, 8, 8, 8, 8, 8, 8, 8, 8, 8, 8, 8, 8, 8, 8, 8, 8, 8, 8, 8, 8, 8, 8, 8, 8, 8, 8, 8, 8, 8, 8, 8, 8, 8, 8, 8, 8, 8, 8, 8, 8, 8, 8, 8, 8, 8, 8, 8, 8, 8, 8, 8, 8, 8, 8, 8, 8, 8, 8, 8, 8, 8, 8, 8, 8, 8, 8, 8, 8, 8, 8, 8, 8, 8, 8, 8, 8, 8, 8, 8, 8, 8, 8, 8, 8, 8, 8, 8, 8, 8, 8, 8, 8, 8]⟩)) (.conv .u8 (.var 0)))), (.idxStr (.const (.string ⟨#[0, 1, 2, 2, 3, 3, 3, 3, 4, 4, 4, 4, 4, 4, 4, 4, 5, 5, 5, 5, 5, 5, 5, 5, 5, 5, 5, 5, 5, 5, 5, 5, 6, 6, 6, 6, 6, 6, 6, 6, 6, 6, 6, 6, 6, 6, 6, 6, 6, 6, 6, 6, 6, 6, 6, 6, 6, 6, 6, 6, 6, 6, 6, 6, 7, 7, 7, 7, 7, 7, 7, 7, 7, 7, 7, 7, 7, 7, 7, 7, 7, 7, 7, 7, 7, 7, 7, 7, 7, 7, 7, 7, 7, 7, 7, 7, 7, 7, 7, 7, 7, 7, 7, 7, 7, 7, 7, 7, 7, 7, 7, 7, 7, 7, 7, 7, 7, 7, 7, 7, 7, 7, 7, 7, 7, 7, 7, 7, 8, 8, 8, 8, 8, 8, 8, 8, 8, 8, 8, 8, 8, 8, 8, 8, 8, 8, 8, 8, 8, 8, 8, 8, 8, 8, 8, 8, 8, 8, 8, 8, 8, 8, 8, 8, 8, 8, 8, 8, 8, 8, 8, 8, 8, 8, 8, 8, 8, 8, 8, 8, 8, 8, 8, 8, 8, 8, 8, 8, 8, 8, 8, 8, 8, 8, 8, 8, 8, 8, 8, 8, 8, 8, 8, 8, 8, 8, 8, 8, 8, 8, 8, 8, 8, 8, 8, 8, 8, 8, 8, 8, 8, 8, 8, 8, 8, 8, 8, 8, 8, 8, 8, 8, 8, 8, 8, 8, 8, 8, 8, 8, 8, 8, 8, 8, 8, 8, 8, 8, 8, 8, 8, 8, 8, 8, 8, 8]⟩)) (.conv .u8 (.var 0)))])
 (.set 1 (.bin .add (.var 1) (.conv .i64 (.idxStr (.const (.string ⟨#[0, 1, 2, 2, 3, 3, 3, 3, 4, 4, 4, 4, 4, 4, 4, 4, 5, 5, 5, 5, 5, 5, 5, 5, 5, 5, 5, 5, 5, 5, 5, 5, 6, 6, 6, 6, 6, 6, 6, 6, 6, 6, 6, 6, 6, 6, 6, 6, 6, 6, 6, 6, 6, 6, 6, 6, 6, 6, 6, 6, 6, 6, 6, 6, 7, 7, 7, 7, 7, 7, 7, 7, 7, 7, 7, 7, 7, 7, 7, 7, 7, 7, 7, 7, 7, 7, 7, 7, 7, 7, 7, 7, 7, 7, 7, 7, 7, 7, 7, 7, 7, 7, 7, 7, 7, 7, 7, 7, 7, 7, 7, 7, 7, 7, 7, 7, 7, 7, 7, 7, 7, 7, 7, 7, 7, 7, 7, 7, 8, 8, 8, 8, 8, 8, 8, 8, 8, 8, 8, 8, 8, 8, 8, 8, 8, 8, 8, 8, 8, 8, 8, 8, 8, 8, 8, 8, 8, 8, 8, 8, 8, 8, 8, 8, 8, 8, 8, 8, 8, 8, 8, 8, 8, 8, 8, 8, 8, 8, 8, 8, 8, 8, 8, 8, 8, 8, 8, 8, 8, 8, 8, 8, 8, 8, 8, 8, 8, 8, 8, 8, 8, 8, 8, 8, 8, 8, 8, 8, 8, 8, 8, 8, 8, 8, 8, 8, 8, 8, 8, 8, 8, 8, 8, 8, 8, 8, 8, 8, 8, 8, 8, 8, 8, 8, 8, 8, 8, 8, 8, 8, 8, 8, 8, 8, 8, 8, 8, 8, 8, 8, 8, 8, 8, 8, 8, 8]⟩)) (.conv .u8 (.var 0)))))))
 .ret))))),
  [(.var 1)]⟩
theorem okx_324 : FnOk Tryz.prog 3 377 324 xf324 := fnOk_of Tryz.func324 (np := 1) (V := [0, 2]) (ks := []) (by kernel_rfl)

/- slices.DeleteFunc[[]int,int] -/
def xf341 : XF := ⟨2, [0, 1, 4, 10, 5, 6, 7, 28],
  (.seq
 (.set 2 (.const (.slice none 0 0)))
 (.seq
 (.seq
 (.call (some 3) 373 [(.var 0), (.var 1)] [])
 (.set 4 (.var 3)))
 (.seq
 (.cond (.bin .eql (.var 4) (.const (.int .i64 (-1))))
 (.seq
 (.set 2 (.var 0))
 .ret)
 .skip)
 (.seq
 (.seq
 (.set 5 (.bin .add (.var 4) (.const (.int .i64 1))))
 (.block 0
 (.loop [0, 1, 4, 5]
 (.seq
 (.cond (.bin .lss (.var 5) (.len false (.var 0)))
 .skip
 (.exit 0))
 (.seq
 (.block 1
 (.seq
 (.set 6 (.ld none (.ixSl 1 (.var 0) (.var 5))))
 (.seq
 (.dyn (some 7) (.var 1) [(.var 6)] [])
 (.cond (.un .not (.var 7))
 (.seq
 (.store 1 (.ixSl 1 (.var 0) (.var 4)) (.var 6) [])
 (.set 4 (.bin .add (.var 4) (.const (.int .i64 1)))))
 .skip))))
 (.set 5 (.bin .add (.var 5) (.const (.int .i64 1)))))))))
 (.seq
 (.clear [(.int .i64 0)] (.slSl 1 (.var 0) (.var 4) (.len false (.var 0))) [])
 (.seq
 (.set 2 (.slSl 1 (.var 0) (.const (.int .i64 0)) (.var 4)))
 .ret)))))),
  [(.var 2)]⟩
theorem okx_341 : FnOk Tryz.prog 3 377 341 xf341 := fnOk_of Tryz.func341 (np := 2) (V := [0, 1, 4, 10, 5, 6, 7, 28]) (ks := [[0, 1, 4, 5]]) (by kernel_rfl)

/- tipstaff/cfg.behind -/
def xf342 : XF := ⟨2, [0, 1, 4, 3, 7, 8, 12, 16, 17, 18, 24, 25, 5, 29, 30, 34, 37],
  (.seq
 (.seq
 (.new (some 3) 32 (.var 1))
 (.set 2 (.const (.slice none 0 0))))
 (.seq
 (.seq
 (.call (some 4) 147 [(.ld (some 5) (.var 3))] [])
 (.block 0
 (.seq
 (.seq
 (.set 5 (.bin .eql (.var 4) (.const (.int .i64 0))))
 (.cond (.var 5)
 .skip
 (.seq
 (.set 5 (.bin .eql (.var 4) (.const (.int .i64 5))))
 (.cond (.var 5)
 .skip
 (.set 5 (.bin .eql (.var 4) (.const (.int .i64 10))))))))
 (.cond (.var 5)
 (.seq
 (.set 2 (.const (.slice none 0 0)))
 .ret)
 (.seq
 (.set 6 (.bin .eql (.var 4) (.const (.int .i64 3))))
 (.cond (.var 6)
 (.seq
 (.seq
 (.call (some 7) 93 [(.var 0), (.ld (some 5) (.var 3))] [])
 (.seq
 (.row (some 8) 3 1 (.upd 0 1 (.const (.agg #[(.int .i64 0)])) (.var 7)))
 (.set 2 (.var 8))))
 .ret)
 (.seq
 (.set 9 (.bin .eql (.var 4) (.const (.int .i64 2))))
 (.cond (.var 9)
 (.seq
 (.seq
 (.chk [(.bin .add (.var 0) (.const (.int .i64 1)))])
 (.seq
 (.call (some 10) 93 [(.var 0), (.ld (some 5) (.var 3))] [])
 (.seq
 (.row (some 11) 3 2 (.upd 1 1 (.upd 0 1 (.const (.agg #[(.int .i64 0), (.int .i64 0)])) (.bin .add (.var 0) (.const (.int .i64 1)))) (.var 10)))
 (.set 12 (.var 11)))))
 (.seq
 (.call none 214 [(.var 12)] [])
 (.seq
 (.seq
 (.call (some 13) 374 [(.var 12)] [])
 (.set 2 (.var 13)))
 .ret)))
 (.seq
 (.set 14 (.bin .eql (.var 4) (.const (.int .i64 9))))
 (.cond (.var 14)
 (.seq
 (.seq
 (.row (some 15) 3 1 (.upd 0 1 (.const (.agg #[(.int .i64 0)])) (.bin .add (.var 0) (.const (.int .i64 2)))))
 (.set 2 (.var 15)))
 .ret)
 .skip))))))))))
 (.seq
 (.seq
 (.row (some 16) 3 1 (.upd 0 1 (.const (.agg #[(.int .i64 0)])) (.bin .add (.var 0) (.const (.int .i64 1)))))
 (.set 2 (.var 16)))
 .ret))),
  [(.var 2)]⟩
theorem okx_342 : FnOk Tryz.prog 3 377 342 xf342 := fnOk_of Tryz.func342 (np := 2) (V := [0, 1, 4, 3, 7, 8, 12, 16, 17, 18, 24, 25, 5, 29, 30, 34, 37]) (ks := []) (by kernel_rfl)

/- tipstaff/cfg.Next$1 -/
def xf343 : XF := ⟨2, [0, 1, 3],
  (.seq
 (.set 2 (.const (.bool false)))
 (.seq
 (.set 2 (.pick (.bin .lss (.var 0) (.const (.int .i64 0))) (.const (.bool true)) (.bin .geq (.var 0) (.len false (.ld none (.var 1))))))
 .ret)),
  [(.var 2)]⟩
theorem okx_343 : FnOk Tryz.prog 3 377 343 xf343 := fnOk_of Tryz.func343 (np := 2) (V := [0, 1, 3]) (ks := []) (by kernel_rfl)

/- tipstaff/tnum.Const -/
def xf345 : XF := ⟨1, [0, 2],
  (.seq
 (.new (some 1) 120 (.const (.agg #[(.int .u64 0), (.int .u64 0)])))
 (.seq
 (.seq
 (.chk [(.upd 0 1 (.const (.agg #[(.int .u64 0), (.int .u64 0)])) (.var 0))])
 (.store 2 (.var 1) (.upd 0 1 (.const (.agg #[(.int .u64 0), (.int .u64 0)])) (.var 0)) []))
 .ret)),
  [(.ld (some 2) (.var 1))]⟩
theorem okx_345 : FnOk Tryz.prog 3 377 345 xf345 := fnOk_of Tryz.func345 (np := 1) (V := [0, 2]) (ks := []) (by kernel_rfl)

/- tipstaff/scalar.Has -/
def xf346 : XF := ⟨2, [0, 1, 4, 2, 8],
  (.seq
 (.seq
 (.new (some 3) 122 (.var 0))
 (.set 2 (.const (.bool false))))
 (.seq
 (.seq
 (.call (some 4) 375 [(.ld (some 2) (.offp 0 (.var 3))), (.var 1)] [])
 (.set 2 (.pick (.pick (.pick (.pick (.var 4) (.bin .leq (.ld none (.offp 2 (.var 3))) (.var 1)) (.const (.bool false))) (.bin .leq (.var 1) (.ld none (.offp 3 (.var 3)))) (.const (.bool false))) (.bin .leq (.ld none (.offp 4 (.var 3))) (.conv .i64 (.var 1))) (.const (.bool false))) (.bin .leq (.conv .i64 (.var 1)) (.ld none (.offp 5 (.var 3)))) (.const (.bool false)))))
 .ret)),
  [(.var 2)]⟩
theorem okx_346 : FnOk Tryz.prog 3 377 346 xf346 := fnOk_of Tryz.func346 (np := 2) (V := [0, 1, 4, 2, 8]) (ks := []) (by kernel_rfl)

/- tipstaff/verify.alone -/
def xf357 : XF := ⟨1, [0, 2, 1],
  (.seq
 (.seq
 (.new (some 2) 122 (.var 0))
 (.set 1 (.const (.bool false))))
 (.seq
 (.set 1 (.bin .eql (.ld none (.offp 4 (.var 2))) (.ld none (.offp 5 (.var 2)))))
 .ret)),
  [(.var 1)]⟩
theorem okx_357 : FnOk Tryz.prog 3 377 357 xf357 := fnOk_of Tryz.func357 (np := 1) (V := [0, 2, 1]) (ks := []) (by kernel_rfl)

/- tipstaff/tnum.Any -/
def xf359 : XF := ⟨0, [0],
  (.seq
 (.new (some 0) 120 (.const (.agg #[(.int .u64 0), (.int .u64 0)])))
 (.seq
 (.seq
 (.chk [(.upd 1 1 (.const (.agg #[(.int .u64 0), (.int .u64 0)])) (.const (.int .u64 18446744073709551615)))])
 (.store 2 (.var 0) (.upd 1 1 (.const (.agg #[(.int .u64 0), (.int .u64 0)])) (.const (.int .u64 18446744073709551615))) []))
 .ret)),
  [(.ld (some 2) (.var 0))]⟩
theorem okx_359 : FnOk Tryz.prog 3 377 359 xf359 := fnOk_of Tryz.func359 (np := 0) (V := [0]) (ks := []) (by kernel_rfl)

/- slices.IndexFunc[[]int,int] -/
def xf373 : XF := ⟨2, [0, 1, 4, 8, 7, 5, 16],
  (.seq
 (.set 2 (.const (.int .i64 0)))
 (.seq
 (.seq
 (.seq
 (.set 4 (.len false (.var 0)))
 (.set 3 (.const (.int .i64 0))))
 (.block 0
 (.loop [0, 1, 3, 4]
 (.seq
 (.cond (.bin .lss (.var 3) (.var 4))
 .skip
 (.exit 0))
 (.seq
 (.block 1
 (.seq
 (.set 5 (.var 3))
 (.seq
 (.dyn (some 6) (.var 1) [(.ld none (.ixSl 1 (.var 0) (.var 5)))] [])
 (.cond (.var 6)
 (.seq
 (.set 2 (.var 5))
 .ret)
 .skip))))
 (.set 3 (.bin .add (.var 3) (.const (.int .i64 1)))))))))
 (.seq
 (.set 2 (.const (.int .i64 (-1))))
 .ret))),
  [(.var 2)]⟩
theorem okx_373 : FnOk Tryz.prog 3 377 373 xf373 := fnOk_of Tryz.func373 (np := 2) (V := [0, 1, 4, 8, 7, 5, 16]) (ks := [[0, 1, 3, 4]]) (by kernel_rfl)

/- tipstaff/tnum.Has -/
def xf375 : XF := ⟨2, [0, 1, 4, 2],
  (.seq
 (.seq
 (.new (some 3) 120 (.var 0))
 (.set 2 (.const (.bool false))))
 (.seq
 (.set 2 (.bin .eql (.bin .andNot (.var 1) (.ld none (.offp 1 (.var 3)))) (.ld none (.offp 0 (.var 3)))))
 .ret)),
  [(.var 2)]⟩
theorem okx_375 : FnOk Tryz.prog 3 377 375 xf375 := fnOk_of Tryz.func375 (np := 2) (V := [0, 1, 4, 2]) (ks := []) (by kernel_rfl)
end Go.Proofs.YtmpgfgemnhbkhaaGreatDoor
