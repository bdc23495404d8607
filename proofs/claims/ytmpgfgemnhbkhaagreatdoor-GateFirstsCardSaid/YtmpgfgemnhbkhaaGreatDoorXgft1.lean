/- The interpreter's functions, part 1: made by program (geny.py). -/
import Derived.Test.YtmpgfgemnhbkhaaGreatDoorXgfz
import Derived.Test.YtmpgfgemnhbkhaaGreatDoorProg
set_option maxRecDepth 100000
set_option linter.unusedVariables false
namespace Go.Proofs.YtmpgfgemnhbkhaaGreatDoor
open Go.Eng
/- tipstaff/token.Root -/
def xf59 : XF := ⟨3, [0, 1, 2, 6, 7, 5, 13, 8, 9, 20, 19, 21, 26],
  (.seq
 (.seq
 (.new (some 5) 69 (.var 2))
 (.seq
 (.set 3 (.const (.pointer none)))
 (.set 4 (.const (.int .i64 0)))))
 (.seq
 (.seq
 (.seq
 (.call (some 6) 118 [(.var 0), (.var 1)] [])
 (.seq
 (.chk [(.proj 1 (.var 6))])
 (.seq
 (.set 7 (.proj 0 (.var 6)))
 (.set 8 (.proj 1 (.var 6))))))
 (.cond (.bin .neq (.var 8) (.const (.int .i64 0)))
 (.seq
 (.seq
 (.chk [(.var 8)])
 (.seq
 (.set 3 (.const (.pointer none)))
 (.set 4 (.var 8))))
 .ret)
 .skip))
 (.seq
 (.seq
 (.seq
 .skip
 (.seq
 (.set 10 (.ld (some 6) (.var 5)))
 (.seq
 (.call (some 9) 24 [] [(.ld (some 6) (.var 5))])
 (.call (some 11) 119 [(.var 10), (.var 9)] []))))
 (.cond (.un .not (.var 11))
 (.seq
 (.seq
 (.set 3 (.const (.pointer none)))
 (.set 4 (.const (.int .i64 1))))
 .ret)
 .skip))
 (.seq
 (.seq
 (.chk [(.upd 1 6 (.upd 0 1 (.const zA7) (.var 1)) (.ld (some 6) (.var 5)))])
 (.seq
 (.new (some 12) 152 (.upd 1 6 (.upd 0 1 (.const zA7) (.var 1)) (.ld (some 6) (.var 5))))
 (.seq
 (.set 3 (.var 12))
 (.set 4 (.const (.int .i64 0))))))
 .ret)))),
  [(.var 3), (.var 4)]⟩
theorem okx_59 : FnOk Tryz.prog 3 377 59 xf59 := fnOk_of Tryz.func59 (np := 3) (V := [0, 1, 2, 6, 7, 5, 13, 8, 9, 20, 19, 21, 26]) (ks := []) (by kernel_rfl)

/- tipstaff/space.New -/
def xf60 : XF := ⟨0, [0, 1, 3],
  (.seq
 (.set 0 (.const (.pointer none)))
 (.seq
 (.seq
 (.mk (some 1) 312 [(.int .i64 0), (.int .i64 0)] (.const (.int .i64 1)) (.const (.int .i64 1)) [])
 (.seq
 (.chk [(.upd 0 1 (.const (.agg #[(.slice none 0 0)])) (.var 1))])
 (.seq
 (.new (some 2) 230 (.upd 0 1 (.const (.agg #[(.slice none 0 0)])) (.var 1)))
 (.set 0 (.var 2)))))
 .ret)),
  [(.var 0)]⟩
theorem okx_60 : FnOk Tryz.prog 3 377 60 xf60 := fnOk_of Tryz.func60 (np := 0) (V := [0, 1, 3]) (ks := []) (by kernel_rfl)

/- tipstaff/registry.New -/
def xf62 : XF := ⟨0, [0, 2],
  (.seq
 (.set 0 (.const (.pointer none)))
 (.seq
 (.seq
 (.new (some 1) 234 (.const (.agg #[(.slice none 0 0)])))
 (.set 0 (.var 1)))
 .ret)),
  [(.var 0)]⟩
theorem okx_62 : FnOk Tryz.prog 3 377 62 xf62 := fnOk_of Tryz.func62 (np := 0) (V := [0, 2]) (ks := []) (by kernel_rfl)

/- tipstaff/objtab.New[tipstaff/gate.Object] -/
def xf63 : XF := ⟨1, [0, 2, 3, 11, 13],
  (.seq
 (.seq
 (.set 1 (.const (.pointer none)))
 (.set 2 (.const (.int .i64 0))))
 (.seq
 (.cond (.pick (.bin .lss (.var 0) (.const (.int .i64 1))) (.const (.bool true)) (.bin .gtr (.var 0) (.const (.int .i64 64))))
 (.seq
 (.seq
 (.set 1 (.const (.pointer none)))
 (.set 2 (.const (.int .i64 22))))
 .ret)
 .skip)
 (.seq
 (.seq
 (.chk [(.var 0)])
 (.seq
 (.mkmap (some 3) .i64 [])
 (.seq
 (.chk [(.upd 2 1 (.upd 0 1 (.const (.agg #[(.int .i64 0), (.int .i64 0), (.map none)])) (.var 0)) (.var 3))])
 (.seq
 (.new (some 4) 237 (.upd 2 1 (.upd 0 1 (.const (.agg #[(.int .i64 0), (.int .i64 0), (.map none)])) (.var 0)) (.var 3)))
 (.seq
 (.set 1 (.var 4))
 (.set 2 (.const (.int .i64 0))))))))
 .ret))),
  [(.var 1), (.var 2)]⟩
theorem okx_63 : FnOk Tryz.prog 3 377 63 xf63 := fnOk_of Tryz.func63 (np := 1) (V := [0, 2, 3, 11, 13]) (ks := []) (by kernel_rfl)

/- tipstaff/gate.failed -/
def xf64 : XF := ⟨1, [0, 2],
  (.seq
 (.new (some 1) 80 (.const zA0))
 (.seq
 (.seq
 (.chk [(.upd 0 1 (.const zA0) (.var 0))])
 (.store 4 (.var 1) (.upd 0 1 (.const zA0) (.var 0)) []))
 .ret)),
  [(.ld (some 4) (.var 1))]⟩
theorem okx_64 : FnOk Tryz.prog 3 377 64 xf64 := fnOk_of Tryz.func64 (np := 1) (V := [0, 2]) (ks := []) (by kernel_rfl)

/- (*tipstaff/gate.Kernel).byToken -/
def xf65 : XF := ⟨2, [0, 1, 4, 3, 15, 6, 5, 7, 22, 27, 8, 31, 33, 34, 40, 41, 48, 54],
  (.seq
 (.seq
 (.new (some 3) 78 (.var 1))
 (.new (some 2) 80 (.const zA0)))
 (.seq
 (.seq
 (.call (some 4) 121 [(.var 0), (.ld none (.offp 0 (.var 3))), (.ld none (.offp 2 (.var 3))), (.const (.int .i64 3))] [])
 (.seq
 (.chk [(.proj 2 (.var 4)), (.proj 1 (.var 4)), (.proj 0 (.var 4))])
 (.seq
 (.new (some 5) 168 (.const zA6))
 (.seq
 (.set 6 (.proj 0 (.var 4)))
 (.seq
 (.store 7 (.var 5) (.proj 1 (.var 4)) [])
 (.set 7 (.proj 2 (.var 4))))))))
 (.seq
 (.cond (.bin .neq (.var 7) (.const (.int .i64 0)))
 (.seq
 (.seq
 (.call (some 8) 64 [(.var 7)] [])
 (.store 4 (.var 2) (.var 8) []))
 .ret)
 .skip)
 (.seq
 (.seq
 (.seq
 (.call (some 9) 122 [(.ld none (.offp 6 (.var 5))), (.ld none (.offp 1 (.var 3)))] [])
 (.set 10 (.var 9)))
 (.cond (.bin .neq (.var 10) (.const (.int .i64 0)))
 (.seq
 (.seq
 (.call (some 11) 64 [(.var 10)] [])
 (.store 4 (.var 2) (.var 11) []))
 .ret)
 .skip))
 (.seq
 (.seq
 (.set 12 (.ld none (.offp 1 (.var 3))))
 (.block 0
 (.seq
 (.set 13 (.bin .eql (.var 12) (.const (.int .i64 0))))
 (.cond (.var 13)
 (.seq
 (.seq
 (.call (some 14) 123 [(.var 0), (.ld (some 55) (.var 3)), (.ld none (.offp 6 (.var 5)))] [])
 (.store 4 (.var 2) (.var 14) []))
 .ret)
 (.seq
 (.set 15 (.bin .eql (.var 12) (.const (.int .i64 1))))
 (.cond (.var 15)
 (.seq
 (.seq
 (.call (some 16) 124 [(.var 0), (.ld (some 55) (.var 3)), (.var 6), (.ld none (.offp 6 (.var 5)))] [])
 (.store 4 (.var 2) (.var 16) []))
 .ret)
 .skip))))))
 (.seq
 (.seq
 (.call (some 17) 125 [(.var 0), (.ld (some 55) (.var 3)), (.var 6), (.ld none (.offp 6 (.var 5)))] [])
 (.store 4 (.var 2) (.var 17) []))
 .ret)))))),
  [(.ld (some 4) (.var 2))]⟩
theorem okx_65 : FnOk Tryz.prog 3 377 65 xf65 := fnOk_of Tryz.func65 (np := 2) (V := [0, 1, 4, 3, 15, 6, 5, 7, 22, 27, 8, 31, 33, 34, 40, 41, 48, 54]) (ks := []) (by kernel_rfl)

/- (*tipstaff/gate.Kernel).byAny -/
def xf68 : XF := ⟨2, [0, 1, 4, 3, 14, 6, 5, 7, 21, 23, 24, 40, 46, 55, 60, 62],
  (.seq
 (.seq
 (.new (some 3) 78 (.var 1))
 (.new (some 2) 80 (.const zA0)))
 (.seq
 (.seq
 (.call (some 4) 121 [(.var 0), (.ld none (.offp 0 (.var 3))), (.ld none (.offp 2 (.var 3))), (.const (.int .i64 0))] [])
 (.seq
 (.chk [(.proj 2 (.var 4)), (.proj 1 (.var 4)), (.proj 0 (.var 4))])
 (.seq
 (.new (some 5) 168 (.const zA6))
 (.seq
 (.set 6 (.proj 0 (.var 4)))
 (.seq
 (.store 7 (.var 5) (.proj 1 (.var 4)) [])
 (.set 7 (.proj 2 (.var 4))))))))
 (.seq
 (.cond (.bin .neq (.var 7) (.const (.int .i64 0)))
 (.seq
 (.seq
 (.call (some 8) 64 [(.var 7)] [])
 (.store 4 (.var 2) (.var 8) []))
 .ret)
 .skip)
 (.seq
 (.seq
 (.set 9 (.ld none (.offp 1 (.var 3))))
 (.block 0
 (.seq
 (.set 10 (.bin .eql (.var 9) (.const (.int .i64 8))))
 (.cond (.var 10)
 (.seq
 (.seq
 .skip
 (.call none 130 [(.ld none (.ixArr 4 1 (.offp 3 (.nn (.var 0))) (.ld none (.offp 0 (.var 3))))), (.ld none (.offp 2 (.var 3)))] []))
 (.seq
 (.call none 131 [(.var 0), (.var 6)] [])
 (.seq
 (.store 4 (.var 2) (.const zA0) [])
 .ret)))
 (.seq
 (.set 11 (.bin .eql (.var 9) (.const (.int .i64 9))))
 (.cond (.var 11)
 (.seq
 (.seq
 (.call (some 12) 132 [(.var 0), (.ld none (.offp 0 (.var 3))), (.var 6)] [])
 (.store 4 (.var 2) (.var 12) []))
 .ret)
 .skip))))))
 (.seq
 (.cond (.pick (.bin .lss (.ld none (.offp 3 (.var 3))) (.const (.int .i64 0))) (.const (.bool true)) (.bin .geq (.ld none (.offp 3 (.var 3))) (.const (.int .i64 4))))
 (.seq
 (.seq
 (.call (some 13) 64 [(.const (.int .i64 22))] [])
 (.store 4 (.var 2) (.var 13) []))
 .ret)
 .skip)
 (.seq
 (.seq
 (.call (some 14) 132 [(.var 0), (.ld none (.offp 3 (.var 3))), (.var 6)] [])
 (.seq
 (.call (some 15) 64 [(.part none 0 (.var 14))] [])
 (.store 4 (.var 2) (.var 15) [])))
 .ret)))))),
  [(.ld (some 4) (.var 2))]⟩
theorem okx_68 : FnOk Tryz.prog 3 377 68 xf68 := fnOk_of Tryz.func68 (np := 2) (V := [0, 1, 4, 3, 14, 6, 5, 7, 21, 23, 24, 40, 46, 55, 60, 62]) (ks := []) (by kernel_rfl)

/- (*tipstaff/gate.Kernel).byFirst -/
def xf69 : XF := ⟨2, [0, 1, 4, 3, 13, 15, 16, 20, 21, 30, 5, 6, 46, 7, 8, 52, 56, 9, 60, 66],
  (.seq
 (.seq
 (.new (some 3) 78 (.var 1))
 (.new (some 2) 80 (.const zA0)))
 (.seq
 (.cond (.bin .neq (.ld none (.offp 0 (.var 3))) (.const (.int .i64 0)))
 (.seq
 (.seq
 (.call (some 4) 64 [(.const (.int .i64 1))] [])
 (.store 4 (.var 2) (.var 4) []))
 .ret)
 .skip)
 (.seq
 (.seq
 (.set 5 (.ld none (.offp 1 (.var 3))))
 (.block 0
 (.seq
 (.set 6 (.bin .eql (.var 5) (.const (.int .i64 11))))
 (.cond (.var 6)
 (.seq
 (.seq
 (.call (some 7) 133 [(.var 0), (.ld (some 55) (.var 3))] [])
 (.store 4 (.var 2) (.var 7) []))
 .ret)
 (.seq
 (.set 8 (.bin .eql (.var 5) (.const (.int .i64 13))))
 (.cond (.var 8)
 (.seq
 (.seq
 .skip
 (.seq
 (.call (some 9) 134 [(.ld none (.offp 0 (.nn (.var 0)))), (.ld none (.offp 3 (.var 3)))] [])
 (.seq
 (.chk [(.proj 1 (.var 9))])
 (.seq
 (.set 10 (.proj 0 (.var 9)))
 (.set 11 (.proj 1 (.var 9)))))))
 (.seq
 (.seq
 (.chk [(.upd 2 1 (.upd 0 1 (.const zA0) (.var 11)) (.conv .u64 (.var 10)))])
 (.store 4 (.var 2) (.upd 2 1 (.upd 0 1 (.const zA0) (.var 11)) (.conv .u64 (.var 10))) []))
 .ret))
 .skip))))))
 (.seq
 (.seq
 .skip
 (.seq
 (.call (some 12) 59 [(.ld none (.offp 0 (.nn (.var 0)))), (.ld none (.offp 3 (.var 3))), (.ld (some 6) (.offp 8 (.var 3)))] [])
 (.seq
 (.chk [(.proj 1 (.var 12))])
 (.seq
 (.set 13 (.proj 0 (.var 12)))
 (.set 14 (.proj 1 (.var 12)))))))
 (.seq
 (.cond (.bin .neq (.var 14) (.const (.int .i64 0)))
 (.seq
 (.seq
 (.call (some 15) 64 [(.var 14)] [])
 (.store 4 (.var 2) (.var 15) []))
 .ret)
 .skip)
 (.seq
 (.seq
 (.seq
 (.call (some 16) 135 [(.var 0), (.ld none (.offp 0 (.var 3)))] [])
 (.set 17 (.var 16)))
 (.cond (.bin .neq (.var 17) (.const (.int .i64 0)))
 (.seq
 (.seq
 (.call (some 18) 64 [(.var 17)] [])
 (.store 4 (.var 2) (.var 18) []))
 .ret)
 .skip))
 (.seq
 (.seq
 (.chk [(.upd 6 1 (.upd 1 1 (.const zA6) (.const (.int .i64 3))) (.var 13))])
 (.seq
 (.call (some 19) 136 [(.var 0), (.ld none (.offp 0 (.var 3))), (.upd 6 1 (.upd 1 1 (.const zA6) (.const (.int .i64 3))) (.var 13))] [])
 (.store 4 (.var 2) (.var 19) [])))
 .ret))))))),
  [(.ld (some 4) (.var 2))]⟩
theorem okx_69 : FnOk Tryz.prog 3 377 69 xf69 := fnOk_of Tryz.func69 (np := 2) (V := [0, 1, 4, 3, 13, 15, 16, 20, 21, 30, 5, 6, 46, 7, 8, 52, 56, 9, 60, 66]) (ks := []) (by kernel_rfl)

/- (*tipstaff/objtab.Table[tipstaff/gate.Object]).Get -/
def xf71 : XF := ⟨2, [0, 1, 4, 5, 12, 6, 7, 8],
  (.seq
 (.seq
 (.new (some 2) 168 (.const zA6))
 (.set 3 (.const (.int .i64 0))))
 (.seq
 (.seq
 (.call (some 4) 139 [(.var 0), (.var 1)] [])
 (.seq
 (.chk [(.proj 1 (.var 4))])
 (.seq
 (.set 5 (.proj 0 (.var 4)))
 (.set 6 (.proj 1 (.var 4))))))
 (.seq
 (.cond (.bin .neq (.var 6) (.const (.int .i64 0)))
 (.seq
 (.new (some 7) 168 (.const zA6))
 (.seq
 (.seq
 (.chk [(.var 6)])
 (.seq
 (.store 7 (.var 2) (.ld (some 7) (.var 7)) [])
 (.set 3 (.var 6))))
 .ret))
 .skip)
 (.seq
 (.seq
 (.store 7 (.var 2) (.ld (some 7) (.offp 0 (.nn (.var 5)))) [])
 (.set 3 (.const (.int .i64 0))))
 .ret)))),
  [(.ld (some 7) (.var 2)), (.var 3)]⟩
theorem okx_71 : FnOk Tryz.prog 3 377 71 xf71 := fnOk_of Tryz.func71 (np := 2) (V := [0, 1, 4, 5, 12, 6, 7, 8]) (ks := []) (by kernel_rfl)

/- (*tipstaff/objtab.Table[tipstaff/gate.Object]).Held -/
def xf72 : XF := ⟨2, [0, 1, 4, 10, 5, 6],
  (.seq
 (.set 2 (.const (.int .i64 0)))
 (.seq
 (.seq
 (.call (some 3) 139 [(.var 0), (.var 1)] [])
 (.seq
 (.chk [(.proj 1 (.var 3))])
 (.seq
 (.set 4 (.proj 0 (.var 3)))
 (.set 5 (.proj 1 (.var 3))))))
 (.seq
 (.cond (.bin .neq (.var 5) (.const (.int .i64 0)))
 (.seq
 (.set 2 (.const (.int .i64 0)))
 .ret)
 .skip)
 (.seq
 (.set 2 (.ld none (.offp 7 (.nn (.var 4)))))
 .ret)))),
  [(.var 2)]⟩
theorem okx_72 : FnOk Tryz.prog 3 377 72 xf72 := fnOk_of Tryz.func72 (np := 2) (V := [0, 1, 4, 10, 5, 6]) (ks := []) (by kernel_rfl)

/- slices.Clone[[]int,int] -/
def xf73 : XF := ⟨1, [0, 2, 5, 7],
  (.seq
 (.set 1 (.const (.slice none 0 0)))
 (.seq
 (.cond (.isnil 1 false (.var 0))
 (.seq
 (.set 1 (.const (.slice none 0 0)))
 .ret)
 .skip)
 (.seq
 (.seq
 (.row (some 2) 3 0 (.const (.agg #[])))
 (.seq
 (.app (some 3) 3 1 (.var 2) (.var 0) [])
 (.set 1 (.var 3))))
 .ret))),
  [(.var 1)]⟩
theorem okx_73 : FnOk Tryz.prog 3 377 73 xf73 := fnOk_of Tryz.func73 (np := 1) (V := [0, 2, 5, 7]) (ks := []) (by kernel_rfl)

/- (*tipstaff/gate.Kernel).named -/
def xf74 : XF := ⟨1, [0, 2, 11, 3, 12, 4, 17, 19, 18, 6, 22, 26, 25, 31, 33, 32, 8, 36, 40, 39, 38, 10, 46],
  (.seq
 (.set 1 (.const (.map none)))
 (.seq
 (.seq
 (.mkmap (some 2) .i64 [])
 (.set 3 (.var 2)))
 (.seq
 (.seq
 (.set 4 (.const (.int .i64 0)))
 (.block 0
 (.loop [0, 3, 4]
 (.seq
 (.cond (.bin .lss (.var 4) (.const (.int .i64 4)))
 .skip
 (.exit 0))
 (.seq
 (.block 1
 (.seq
 (.set 5 (.var 4))
 (.seq
 (.seq
 (.call (some 6) 34 [(.var 0), (.var 5)] [])
 (.seq
 (.set 8 (.len false (.var 6)))
 (.set 7 (.const (.int .i64 0)))))
 (.block 2
 (.loop [0, 3, 4, 6, 7, 8]
 (.seq
 (.cond (.bin .lss (.var 7) (.var 8))
 .skip
 (.exit 2))
 (.seq
 (.block 3
 (.seq
 (.seq
 (.set 10 (.ld (some 2) (.ixSl 2 (.var 6) (.var 7))))
 (.seq
 (.new (some 9) 178 (.const (.agg #[(.int .i64 0), (.int .i64 0)])))
 (.store 2 (.var 9) (.var 10) [])))
 (.seq
 (.chk [(.var 3)])
 (.seq
 (.set 12 (.ld none (.ixArr 2 1 (.var 9) (.const (.int .i64 1)))))
 (.seq
 (.look (some 11) (.int .i64 0) false .i64 (.var 3) (.var 12) [])
 (.upd .i64 (.var 3) (.var 12) (.bin .add (.var 11) (.const (.int .i64 1))) []))))))
 (.set 7 (.bin .add (.var 7) (.const (.int .i64 1)))))))))))
 (.set 4 (.bin .add (.var 4) (.const (.int .i64 1)))))))))
 (.seq
 (.seq
 (.seq
 (.call (some 13) 30 [(.var 0)] [])
 (.seq
 (.set 15 (.len false (.var 13)))
 (.set 14 (.const (.int .i64 0)))))
 (.block 4
 (.loop [3, 13, 14, 15]
 (.seq
 (.cond (.bin .lss (.var 14) (.var 15))
 .skip
 (.exit 4))
 (.seq
 (.block 5
 (.seq
 (.seq
 (.set 17 (.ld (some 7) (.ixSl 7 (.var 13) (.var 14))))
 (.seq
 (.new (some 16) 168 (.const zA6))
 (.store 7 (.var 16) (.var 17) [])))
 (.seq
 (.seq
 (.set 20 (.ld none (.offp 3 (.var 16))))
 (.seq
 (.set 19 (.len false (.var 20)))
 (.set 18 (.const (.int .i64 0)))))
 (.block 6
 (.loop [3, 13, 14, 15, 18, 19, 20]
 (.seq
 (.cond (.bin .lss (.var 18) (.var 19))
 .skip
 (.exit 6))
 (.seq
 (.block 7
 (.seq
 (.set 21 (.ld none (.ixSl 1 (.var 20) (.var 18))))
 (.seq
 (.look (some 22) (.int .i64 0) false .i64 (.var 3) (.var 21) [])
 (.upd .i64 (.var 3) (.var 21) (.bin .add (.var 22) (.const (.int .i64 1))) []))))
 (.set 18 (.bin .add (.var 18) (.const (.int .i64 1)))))))))))
 (.set 14 (.bin .add (.var 14) (.const (.int .i64 1)))))))))
 (.seq
 (.set 1 (.var 3))
 .ret))))),
  [(.var 1)]⟩
theorem okx_74 : FnOk Tryz.prog 3 377 74 xf74 := fnOk_of Tryz.func74 (np := 1) (V := [0, 2, 11, 3, 12, 4, 17, 19, 18, 6, 22, 26, 25, 31, 33, 32, 8, 36, 40, 39, 38, 10, 46]) (ks := [[0, 3, 4], [0, 3, 4, 6, 7, 8], [3, 13, 14, 15], [3, 13, 14, 15, 18, 19, 20]]) (by kernel_rfl)

/- (*tipstaff/fdtab.Table).Used -/
def xf76 : XF := ⟨1, [0, 2, 3, 13, 12, 11, 4, 5, 22, 23],
  (.seq
 (.set 1 (.const (.slice none 0 0)))
 (.seq
 (.cond (.isnil 0 false (.var 0))
 (.seq
 (.set 1 (.const (.slice none 0 0)))
 .ret)
 .skip)
 (.seq
 (.set 2 (.const (.slice none 0 0)))
 (.seq
 (.seq
 (.seq
 (.set 5 (.ld none (.offp 0 (.nn (.var 0)))))
 (.seq
 (.set 4 (.len false (.var 5)))
 (.set 3 (.const (.int .i64 0)))))
 (.block 0
 (.loop [2, 3, 4, 5]
 (.seq
 (.cond (.bin .lss (.var 3) (.var 4))
 .skip
 (.exit 0))
 (.seq
 (.block 1
 (.seq
 (.seq
 (.chk [(.ld none (.ixSl 1 (.var 5) (.var 3)))])
 (.seq
 (.set 6 (.var 3))
 (.set 7 (.ld none (.ixSl 1 (.var 5) (.var 3))))))
 (.cond (.bin .neq (.var 7) (.const (.int .i64 0)))
 (.seq
 (.chk [(.var 2)])
 (.seq
 (.row (some 8) 3 1 (.upd 0 1 (.const (.agg #[(.int .i64 0)])) (.var 6)))
 (.seq
 (.app (some 9) 3 1 (.var 2) (.var 8) [])
 (.set 2 (.var 9)))))
 .skip)))
 (.set 3 (.bin .add (.var 3) (.const (.int .i64 1)))))))))
 (.seq
 (.set 1 (.var 2))
 .ret))))),
  [(.var 1)]⟩
theorem okx_76 : FnOk Tryz.prog 3 377 76 xf76 := fnOk_of Tryz.func76 (np := 1) (V := [0, 2, 3, 13, 12, 11, 4, 5, 22, 23]) (ks := [[2, 3, 4, 5]]) (by kernel_rfl)

/- (*tipstaff/registry.Registry).Len -/
def xf77 : XF := ⟨1, [0, 2],
  (.seq
 (.set 1 (.const (.int .i64 0)))
 (.seq
 (.cond (.isnil 0 false (.var 0))
 (.seq
 (.set 1 (.const (.int .i64 0)))
 .ret)
 .skip)
 (.seq
 (.set 1 (.len false (.ld none (.offp 0 (.nn (.var 0))))))
 .ret))),
  [(.var 1)]⟩
theorem okx_77 : FnOk Tryz.prog 3 377 77 xf77 := fnOk_of Tryz.func77 (np := 1) (V := [0, 2]) (ks := []) (by kernel_rfl)

/- (*tipstaff/space.Tree).Len -/
def xf78 : XF := ⟨1, [0, 2],
  (.seq
 (.set 1 (.const (.int .i64 0)))
 (.seq
 (.cond (.isnil 0 false (.var 0))
 (.seq
 (.set 1 (.const (.int .i64 0)))
 .ret)
 .skip)
 (.seq
 (.set 1 (.len false (.ld none (.offp 0 (.nn (.var 0))))))
 .ret))),
  [(.var 1)]⟩
theorem okx_78 : FnOk Tryz.prog 3 377 78 xf78 := fnOk_of Tryz.func78 (np := 1) (V := [0, 2]) (ks := []) (by kernel_rfl)

/- tipstaff/bmap.within -/
def xf79 : XF := ⟨3, [0, 1, 2, 6],
  (.seq
 (.set 3 (.const (.bool false)))
 (.seq
 (.set 3 (.pick (.bin .geq (.var 0) (.var 1)) (.bin .leq (.var 0) (.var 2)) (.const (.bool false))))
 .ret)),
  [(.var 3)]⟩
theorem okx_79 : FnOk Tryz.prog 3 377 79 xf79 := fnOk_of Tryz.func79 (np := 3) (V := [0, 1, 2, 6]) (ks := []) (by kernel_rfl)

/- slices.Index[[]int,int] -/
def xf82 : XF := ⟨2, [0, 1, 4, 8, 7, 5],
  (.seq
 (.set 2 (.const (.int .i64 0)))
 (.seq
 (.seq
 (.seq
 (.set 4 (.len false (.var 0)))
 (.set 3 (.const (.int .i64 0))))
 (.block 0
 (.loop [0, 1, 3, 4]
 (.seq
 (.cond (.bin .lss (.var 3) (.var 4))
 .skip
 (.exit 0))
 (.seq
 (.block 1
 (.seq
 (.set 5 (.var 3))
 (.cond (.bin .eql (.var 1) (.ld none (.ixSl 1 (.var 0) (.var 5))))
 (.seq
 (.set 2 (.var 5))
 .ret)
 .skip)))
 (.set 3 (.bin .add (.var 3) (.const (.int .i64 1)))))))))
 (.seq
 (.set 2 (.const (.int .i64 (-1))))
 .ret))),
  [(.var 2)]⟩
theorem okx_82 : FnOk Tryz.prog 3 377 82 xf82 := fnOk_of Tryz.func82 (np := 2) (V := [0, 1, 4, 8, 7, 5]) (ks := [[0, 1, 3, 4]]) (by kernel_rfl)

/- tipstaff/token.has -/
def xf104 : XF := ⟨2, [0, 1, 4, 5, 12],
  (.seq
 (.set 2 (.const (.int .i64 0)))
 (.seq
 (.block 0
 (.seq
 (.set 3 (.pick (.bin .lss (.var 1) (.const (.int .i64 0))) (.const (.bool true)) (.bin .geq (.var 1) (.const (.int .i64 16)))))
 (.cond (.var 3)
 (.seq
 (.set 2 (.const (.int .i64 22)))
 .ret)
 (.seq
 (.set 4 (.bin .eql (.bin .and (.bin .shr (.var 0) (.var 1)) (.const (.int .u16 1))) (.const (.int .u16 0))))
 (.cond (.var 4)
 (.seq
 (.set 2 (.const (.int .i64 1)))
 .ret)
 .skip)))))
 (.seq
 (.set 2 (.const (.int .i64 0)))
 .ret))),
  [(.var 2)]⟩
theorem okx_104 : FnOk Tryz.prog 3 377 104 xf104 := fnOk_of Tryz.func104 (np := 2) (V := [0, 1, 4, 5, 12]) (ks := []) (by kernel_rfl)

/- tipstaff/token.of -/
def xf105 : XF := ⟨1, [0, 2],
  (.seq
 (.new (some 1) 69 (.const zA4))
 (.seq
 (.cond (.isnil 0 false (.var 0))
 (.seq
 (.store 6 (.var 1) (.const zA4) [])
 .ret)
 .skip)
 (.seq
 (.store 6 (.var 1) (.ld (some 6) (.offp 1 (.nn (.var 0)))) [])
 .ret))),
  [(.ld (some 6) (.var 1))]⟩
theorem okx_105 : FnOk Tryz.prog 3 377 105 xf105 := fnOk_of Tryz.func105 (np := 1) (V := [0, 2]) (ks := []) (by kernel_rfl)

/- tipstaff/token.Map -/
def xf111 : XF := ⟨2, [0, 1, 4, 6, 9],
  (.seq
 (.set 2 (.const (.int .i64 0)))
 (.seq
 (.seq
 (.call (some 3) 105 [(.var 0)] [])
 (.seq
 (.call (some 4) 104 [(.part none 2 (.var 3)), (.var 1)] [])
 (.set 2 (.var 4))))
 .ret)),
  [(.var 2)]⟩
theorem okx_111 : FnOk Tryz.prog 3 377 111 xf111 := fnOk_of Tryz.func111 (np := 2) (V := [0, 1, 4, 6, 9]) (ks := []) (by kernel_rfl)

/- (*tipstaff/space.Tree).Depth -/
def xf118 : XF := ⟨2, [0, 1, 4, 5, 11, 6, 7],
  (.seq
 (.seq
 (.set 2 (.const (.int .i64 0)))
 (.set 3 (.const (.int .i64 0))))
 (.seq
 (.seq
 (.call (some 4) 193 [(.var 0), (.var 1)] [])
 (.seq
 (.chk [(.proj 1 (.var 4)), (.proj 0 (.var 4))])
 (.seq
 (.new (some 5) 312 (.const (.agg #[(.int .i64 0), (.int .i64 0)])))
 (.seq
 (.store 2 (.var 5) (.proj 0 (.var 4)) [])
 (.set 6 (.proj 1 (.var 4)))))))
 (.seq
 (.seq
 (.chk [(.var 6)])
 (.seq
 (.set 2 (.ld none (.offp 1 (.var 5))))
 (.set 3 (.var 6))))
 .ret))),
  [(.var 2), (.var 3)]⟩
theorem okx_118 : FnOk Tryz.prog 3 377 118 xf118 := fnOk_of Tryz.func118 (np := 2) (V := [0, 1, 4, 5, 11, 6, 7]) (ks := []) (by kernel_rfl)

/- tipstaff/rights.Within -/
def xf119 : XF := ⟨2, [0, 1, 4, 2, 3, 7, 8],
  (.seq
 (.seq
 (.new (some 3) 69 (.var 0))
 (.seq
 (.new (some 4) 69 (.var 1))
 (.set 2 (.const (.bool false)))))
 (.seq
 (.seq
 .skip
 (.seq
 (.chk [(.ld (some 6) (.var 4))])
 (.seq
 (.set 6 (.ld (some 6) (.var 3)))
 (.seq
 (.call (some 5) 194 [(.ld (some 6) (.var 3)), (.ld (some 6) (.var 4))] [(.ld (some 6) (.var 3))])
 (.set 2 (.eqx false (.cons 0 none .int (.cons 1 none .int (.cons 2 none .int (.cons 3 none .int (.cons 4 none .bool (.cons 5 none .bool .nil)))))) (.var 5) (.var 6)))))))
 .ret)),
  [(.var 2)]⟩
theorem okx_119 : FnOk Tryz.prog 3 377 119 xf119 := fnOk_of Tryz.func119 (np := 2) (V := [0, 1, 4, 2, 3, 7, 8]) (ks := []) (by kernel_rfl)

/- (*tipstaff/gate.Kernel).object -/
def xf121 : XF := ⟨4, [0, 1, 2, 3, 8, 9, 10, 22, 11, 12, 34, 13],
  (.seq
 (.seq
 (.set 4 (.const (.int .i64 0)))
 (.seq
 (.new (some 5) 168 (.const zA6))
 (.set 6 (.const (.int .i64 0)))))
 (.seq
 (.seq
 (.call (some 7) 43 [(.ld none (.ixArr 4 1 (.offp 3 (.nn (.var 0))) (.var 1))), (.var 2)] [])
 (.seq
 (.chk [(.proj 1 (.var 7))])
 (.seq
 (.set 8 (.proj 0 (.var 7)))
 (.set 9 (.proj 1 (.var 7))))))
 (.seq
 (.cond (.bin .neq (.var 9) (.const (.int .i64 0)))
 (.seq
 (.seq
 (.set 4 (.const (.int .i64 0)))
 (.seq
 (.store 7 (.var 5) (.const zA6) [])
 (.set 6 (.const (.int .i64 9)))))
 .ret)
 .skip)
 (.seq
 (.seq
 (.call (some 10) 71 [(.ld none (.offp 2 (.nn (.var 0)))), (.var 8)] [])
 (.seq
 (.chk [(.proj 1 (.var 10)), (.proj 0 (.var 10))])
 (.seq
 (.new (some 11) 168 (.const zA6))
 (.seq
 (.store 7 (.var 11) (.proj 0 (.var 10)) [])
 (.set 9 (.proj 1 (.var 10)))))))
 (.seq
 (.cond (.pick (.bin .neq (.var 9) (.const (.int .i64 0))) (.const (.bool true)) (.pick (.bin .neq (.var 3) (.const (.int .i64 0))) (.bin .neq (.ld none (.offp 1 (.var 11))) (.var 3)) (.const (.bool false))))
 (.seq
 (.seq
 (.set 4 (.const (.int .i64 0)))
 (.seq
 (.store 7 (.var 5) (.const zA6) [])
 (.set 6 (.const (.int .i64 9)))))
 .ret)
 .skip)
 (.seq
 (.seq
 .skip
 (.seq
 (.chk [(.ld (some 7) (.var 11))])
 (.seq
 (.set 4 (.var 8))
 (.seq
 (.store 7 (.var 5) (.ld (some 7) (.var 11)) [])
 (.set 6 (.const (.int .i64 0)))))))
 .ret)))))),
  [(.var 4), (.ld (some 7) (.var 5)), (.var 6)]⟩
theorem okx_121 : FnOk Tryz.prog 3 377 121 xf121 := fnOk_of Tryz.func121 (np := 4) (V := [0, 1, 2, 3, 8, 9, 10, 22, 11, 12, 34, 13]) (ks := []) (by kernel_rfl)

/- tipstaff/token.Command -/
def xf122 : XF := ⟨2, [0, 1, 4, 6, 9],
  (.seq
 (.set 2 (.const (.int .i64 0)))
 (.seq
 (.seq
 (.call (some 3) 105 [(.var 0)] [])
 (.seq
 (.call (some 4) 104 [(.part none 0 (.var 3)), (.var 1)] [])
 (.set 2 (.var 4))))
 .ret)),
  [(.var 2)]⟩
theorem okx_122 : FnOk Tryz.prog 3 377 122 xf122 := fnOk_of Tryz.func122 (np := 2) (V := [0, 1, 4, 6, 9]) (ks := []) (by kernel_rfl)

/- (*tipstaff/gate.Kernel).mapCreate -/
def xf123 : XF := ⟨3, [0, 1, 2, 6, 4, 15, 7, 19, 23, 8, 9, 29, 33, 10, 37, 43],
  (.seq
 (.seq
 (.new (some 4) 78 (.var 1))
 (.new (some 3) 80 (.const zA0)))
 (.seq
 (.seq
 (.seq
 (.call (some 5) 111 [(.var 2), (.ld none (.offp 0 (.offp 4 (.var 4))))] [])
 (.set 6 (.var 5)))
 (.cond (.bin .neq (.var 6) (.const (.int .i64 0)))
 (.seq
 (.seq
 (.call (some 7) 64 [(.var 6)] [])
 (.store 4 (.var 3) (.var 7) []))
 .ret)
 .skip))
 (.seq
 (.seq
 (.call (some 8) 12 [(.ld (some 4) (.offp 4 (.var 4)))] [])
 (.seq
 (.chk [(.proj 1 (.var 8))])
 (.seq
 (.set 9 (.proj 0 (.var 8)))
 (.set 10 (.proj 1 (.var 8))))))
 (.seq
 (.cond (.bin .neq (.var 10) (.const (.int .i64 0)))
 (.seq
 (.seq
 (.call (some 11) 64 [(.var 10)] [])
 (.store 4 (.var 3) (.var 11) []))
 .ret)
 .skip)
 (.seq
 (.seq
 (.seq
 (.call (some 12) 135 [(.var 0), (.ld none (.offp 0 (.var 4)))] [])
 (.set 13 (.var 12)))
 (.cond (.bin .neq (.var 13) (.const (.int .i64 0)))
 (.seq
 (.seq
 (.call (some 14) 64 [(.var 13)] [])
 (.store 4 (.var 3) (.var 14) []))
 .ret)
 .skip))
 (.seq
 (.seq
 (.chk [(.upd 4 1 (.upd 1 1 (.const zA6) (.const (.int .i64 1))) (.var 9))])
 (.seq
 (.call (some 15) 136 [(.var 0), (.ld none (.offp 0 (.var 4))), (.upd 4 1 (.upd 1 1 (.const zA6) (.const (.int .i64 1))) (.var 9))] [])
 (.store 4 (.var 3) (.var 15) [])))
 .ret)))))),
  [(.ld (some 4) (.var 3))]⟩
theorem okx_123 : FnOk Tryz.prog 3 377 123 xf123 := fnOk_of Tryz.func123 (np := 3) (V := [0, 1, 2, 6, 4, 15, 7, 19, 23, 8, 9, 29, 33, 10, 37, 43]) (ks := []) (by kernel_rfl)

/- (*tipstaff/fdtab.Table).Close -/
def xf130 : XF := ⟨2, [0, 1, 4, 5, 11, 6, 7],
  (.seq
 (.seq
 (.set 2 (.const (.int .i64 0)))
 (.set 3 (.const (.int .i64 0))))
 (.seq
 (.seq
 (.call (some 4) 43 [(.var 0), (.var 1)] [])
 (.seq
 (.chk [(.proj 1 (.var 4))])
 (.seq
 (.set 5 (.proj 0 (.var 4)))
 (.set 6 (.proj 1 (.var 4))))))
 (.seq
 (.cond (.bin .eql (.var 6) (.const (.int .i64 0)))
 (.store 1 (.ixSl 1 (.ld none (.offp 0 (.nn (.var 0)))) (.var 1)) (.const (.int .i64 0)) [])
 .skip)
 (.seq
 (.seq
 (.chk [(.var 6)])
 (.seq
 (.set 2 (.var 5))
 (.set 3 (.var 6))))
 .ret)))),
  [(.var 2), (.var 3)]⟩
theorem okx_130 : FnOk Tryz.prog 3 377 130 xf130 := fnOk_of Tryz.func130 (np := 2) (V := [0, 1, 4, 5, 11, 6, 7]) (ks := []) (by kernel_rfl)

/- (*tipstaff/gate.Kernel).drop -/
def xf131 : XF := ⟨2, [0, 1, 16, 4, 5, 27, 6, 7, 34, 33, 32, 9],
  (.seq
 (.seq
 (.call (some 2) 71 [(.ld none (.offp 2 (.nn (.var 0)))), (.var 1)] [])
 (.seq
 (.chk [(.proj 1 (.var 2)), (.proj 0 (.var 2))])
 (.seq
 (.new (some 3) 168 (.const zA6))
 (.seq
 (.store 7 (.var 3) (.proj 0 (.var 2)) [])
 (.set 4 (.proj 1 (.var 2)))))))
 (.seq
 (.cond (.bin .neq (.var 4) (.const (.int .i64 0)))
 .ret
 .skip)
 (.seq
 (.seq
 (.call (some 5) 208 [(.ld none (.offp 2 (.nn (.var 0)))), (.var 1)] [])
 (.seq
 (.chk [(.proj 1 (.var 5))])
 (.seq
 (.set 6 (.proj 0 (.var 5)))
 (.set 7 (.proj 1 (.var 5))))))
 (.cond (.var 6)
 (.seq
 (.seq
 (.set 10 (.ld none (.offp 3 (.var 3))))
 (.seq
 (.set 9 (.len false (.var 10)))
 (.set 8 (.const (.int .i64 0)))))
 (.block 0
 (.loop [0, 8, 9, 10]
 (.seq
 (.cond (.bin .lss (.var 8) (.var 9))
 .skip
 (.exit 0))
 (.seq
 (.block 1
 (.seq
 (.set 11 (.ld none (.ixSl 1 (.var 10) (.var 8))))
 (.call none 131 [(.var 0), (.var 11)] [])))
 (.set 8 (.bin .add (.var 8) (.const (.int .i64 1)))))))))
 .skip)))),
  []⟩
theorem okx_131 : FnOk Tryz.prog 3 377 131 xf131 := fnOk_of Tryz.func131 (np := 2) (V := [0, 1, 16, 4, 5, 27, 6, 7, 34, 33, 32, 9]) (ks := [[0, 8, 9, 10]]) (by kernel_rfl)

/- (*tipstaff/gate.Kernel).addKey -/
def xf133 : XF := ⟨2, [0, 1, 4, 3, 9, 18, 19],
  (.seq
 (.seq
 (.new (some 3) 78 (.var 1))
 (.new (some 2) 80 (.const zA0)))
 (.seq
 (.cond (.bin .neq (.len false (.ld none (.offp 18 (.var 3)))) (.const (.int .i64 32)))
 (.seq
 (.seq
 (.call (some 4) 64 [(.const (.int .i64 22))] [])
 (.store 4 (.var 2) (.var 4) []))
 .ret)
 .skip)
 (.seq
 (.seq
 .skip
 (.seq
 (.call (some 5) 211 [(.ld none (.offp 1 (.nn (.var 0)))), (.ld (some 32) (.s2a 32 (.ld none (.offp 18 (.var 3)))))] [])
 (.seq
 (.call (some 6) 64 [(.var 5)] [])
 (.store 4 (.var 2) (.var 6) []))))
 .ret))),
  [(.ld (some 4) (.var 2))]⟩
theorem okx_133 : FnOk Tryz.prog 3 377 133 xf133 := fnOk_of Tryz.func133 (np := 2) (V := [0, 1, 4, 3, 9, 18, 19]) (ks := []) (by kernel_rfl)

/- (*tipstaff/space.Tree).Make -/
def xf134 : XF := ⟨2, [0, 1, 4, 5, 11, 6, 7, 14, 18, 22, 39, 33, 40],
  (.seq
 (.seq
 (.set 2 (.const (.int .i64 0)))
 (.set 3 (.const (.int .i64 0))))
 (.seq
 (.seq
 (.call (some 4) 193 [(.var 0), (.var 1)] [])
 (.seq
 (.chk [(.proj 1 (.var 4)), (.proj 0 (.var 4))])
 (.seq
 (.new (some 5) 312 (.const (.agg #[(.int .i64 0), (.int .i64 0)])))
 (.seq
 (.store 2 (.var 5) (.proj 0 (.var 4)) [])
 (.set 6 (.proj 1 (.var 4)))))))
 (.seq
 (.block 0
 (.seq
 (.set 7 (.bin .neq (.var 6) (.const (.int .i64 0))))
 (.cond (.var 7)
 (.seq
 (.seq
 (.chk [(.var 6)])
 (.seq
 (.set 2 (.const (.int .i64 0)))
 (.set 3 (.var 6))))
 .ret)
 (.seq
 (.set 8 (.bin .eql (.ld none (.offp 1 (.var 5))) (.const (.int .i64 4))))
 (.cond (.var 8)
 (.seq
 (.seq
 (.set 2 (.const (.int .i64 0)))
 (.set 3 (.const (.int .i64 7))))
 .ret)
 (.seq
 (.set 9 (.bin .eql (.len false (.ld none (.offp 0 (.nn (.var 0))))) (.const (.int .i64 8))))
 (.cond (.var 9)
 (.seq
 (.seq
 (.set 2 (.const (.int .i64 0)))
 (.set 3 (.const (.int .i64 28))))
 .ret)
 .skip)))))))
 (.seq
 (.seq
 .skip
 (.seq
 (.set 11 (.ld none (.offp 0 (.nn (.var 0)))))
 (.seq
 (.chk [(.upd 1 1 (.upd 0 1 (.const (.agg #[(.int .i64 0), (.int .i64 0)])) (.var 1)) (.bin .add (.ld none (.offp 1 (.var 5))) (.const (.int .i64 1))))])
 (.seq
 (.row (some 10) 312 1 (.upd 0 2 (.const (.agg #[(.int .i64 0), (.int .i64 0)])) (.upd 1 1 (.upd 0 1 (.const (.agg #[(.int .i64 0), (.int .i64 0)])) (.var 1)) (.bin .add (.ld none (.offp 1 (.var 5))) (.const (.int .i64 1))))))
 (.seq
 (.app (some 12) 312 2 (.var 11) (.var 10) [])
 (.store 1 (.offp 0 (.nn (.var 0))) (.var 12) []))))))
 (.seq
 (.seq
 (.set 2 (.bin .sub (.len false (.ld none (.offp 0 (.nn (.var 0))))) (.const (.int .i64 1))))
 (.set 3 (.const (.int .i64 0))))
 .ret))))),
  [(.var 2), (.var 3)]⟩
theorem okx_134 : FnOk Tryz.prog 3 377 134 xf134 := fnOk_of Tryz.func134 (np := 2) (V := [0, 1, 4, 5, 11, 6, 7, 14, 18, 22, 39, 33, 40]) (ks := []) (by kernel_rfl)

/- (*tipstaff/gate.Kernel).room -/
def xf135 : XF := ⟨2, [0, 1, 4, 12, 5, 19, 14],
  (.seq
 (.set 2 (.const (.int .i64 0)))
 (.seq
 (.block 0
 (.seq
 (.seq
 (.call (some 3) 209 [(.ld none (.ixArr 4 1 (.offp 3 (.nn (.var 0))) (.var 1)))] [])
 (.set 4 (.bin .eql (.var 3) (.const (.int .i64 0)))))
 (.cond (.var 4)
 (.seq
 (.set 2 (.const (.int .i64 24)))
 .ret)
 (.seq
 (.seq
 (.call (some 5) 70 [(.ld none (.offp 2 (.nn (.var 0))))] [])
 (.set 6 (.bin .eql (.len false (.var 5)) (.const (.int .i64 64)))))
 (.cond (.var 6)
 (.seq
 (.set 2 (.const (.int .i64 12)))
 .ret)
 .skip)))))
 (.seq
 (.set 2 (.const (.int .i64 0)))
 .ret))),
  [(.var 2)]⟩
theorem okx_135 : FnOk Tryz.prog 3 377 135 xf135 := fnOk_of Tryz.func135 (np := 2) (V := [0, 1, 4, 12, 5, 19, 14]) (ks := []) (by kernel_rfl)

/- (*tipstaff/gate.Kernel).made -/
def xf136 : XF := ⟨3, [0, 1, 2, 6, 5, 15, 14, 13, 8, 32, 9, 10, 38, 47, 11],
  (.seq
 (.seq
 (.new (some 4) 168 (.var 2))
 (.new (some 3) 80 (.const zA0)))
 (.seq
 (.seq
 (.seq
 (.set 7 (.ld none (.offp 3 (.var 4))))
 (.seq
 (.set 6 (.len false (.var 7)))
 (.set 5 (.const (.int .i64 0)))))
 (.block 0
 (.loop [0, 1, 3, 4, 5, 6, 7]
 (.seq
 (.cond (.bin .lss (.var 5) (.var 6))
 .skip
 (.exit 0))
 (.seq
 (.block 1
 (.seq
 (.set 8 (.ld none (.ixSl 1 (.var 7) (.var 5))))
 (.call none 210 [(.ld none (.offp 2 (.nn (.var 0)))), (.var 8)] [])))
 (.set 5 (.bin .add (.var 5) (.const (.int .i64 1)))))))))
 (.seq
 (.seq
 .skip
 (.seq
 (.call (some 9) 212 [(.ld none (.offp 2 (.nn (.var 0)))), (.ld (some 7) (.var 4))] [])
 (.seq
 (.chk [(.proj 1 (.var 9))])
 (.seq
 (.set 10 (.proj 0 (.var 9)))
 (.set 11 (.proj 1 (.var 9)))))))
 (.seq
 (.cond (.bin .neq (.var 11) (.const (.int .i64 0)))
 (.seq
 (.seq
 (.call (some 12) 64 [(.var 11)] [])
 (.store 4 (.var 3) (.var 12) []))
 .ret)
 .skip)
 (.seq
 (.seq
 (.call (some 13) 42 [(.ld none (.ixArr 4 1 (.offp 3 (.nn (.var 0))) (.var 1))), (.var 10)] [])
 (.seq
 (.chk [(.proj 1 (.var 13))])
 (.seq
 (.set 14 (.proj 0 (.var 13)))
 (.set 11 (.proj 1 (.var 13))))))
 (.seq
 (.seq
 (.chk [(.upd 1 1 (.upd 0 1 (.const zA0) (.var 11)) (.var 14))])
 (.store 4 (.var 3) (.upd 1 1 (.upd 0 1 (.const zA0) (.var 11)) (.var 14)) []))
 .ret)))))),
  [(.ld (some 4) (.var 3))]⟩
theorem okx_136 : FnOk Tryz.prog 3 377 136 xf136 := fnOk_of Tryz.func136 (np := 3) (V := [0, 1, 2, 6, 5, 15, 14, 13, 8, 32, 9, 10, 38, 47, 11]) (ks := [[0, 1, 3, 4, 5, 6, 7]]) (by kernel_rfl)

/- (*tipstaff/objtab.Table[tipstaff/gate.Object]).find -/
def xf139 : XF := ⟨2, [0, 1, 4, 5, 16, 6, 7],
  (.seq
 (.seq
 (.set 2 (.const (.pointer none)))
 (.set 3 (.const (.int .i64 0))))
 (.seq
 (.cond (.isnil 0 false (.var 0))
 (.seq
 (.seq
 (.set 2 (.const (.pointer none)))
 (.set 3 (.const (.int .i64 22))))
 .ret)
 .skip)
 (.seq
 (.seq
 (.look (some 4) (.pointer none) true .i64 (.ld none (.offp 2 (.nn (.var 0)))) (.var 1) [])
 (.seq
 (.chk [(.proj 1 (.var 4))])
 (.seq
 (.set 5 (.proj 0 (.var 4)))
 (.set 6 (.proj 1 (.var 4))))))
 (.seq
 (.cond (.un .not (.var 6))
 (.seq
 (.seq
 (.set 2 (.const (.pointer none)))
 (.set 3 (.const (.int .i64 2))))
 .ret)
 .skip)
 (.seq
 (.seq
 (.set 2 (.var 5))
 (.set 3 (.const (.int .i64 0))))
 .ret))))),
  [(.var 2), (.var 3)]⟩
theorem okx_139 : FnOk Tryz.prog 3 377 139 xf139 := fnOk_of Tryz.func139 (np := 2) (V := [0, 1, 4, 5, 16, 6, 7]) (ks := []) (by kernel_rfl)

/- (*tipstaff/space.Tree).find -/
def xf193 : XF := ⟨2, [0, 1, 4, 5, 6, 10],
  (.seq
 (.seq
 (.new (some 2) 312 (.const (.agg #[(.int .i64 0), (.int .i64 0)])))
 (.set 3 (.const (.int .i64 0))))
 (.seq
 (.block 0
 (.seq
 (.set 4 (.isnil 0 false (.var 0)))
 (.cond (.var 4)
 (.seq
 (.seq
 (.store 2 (.var 2) (.const (.agg #[(.int .i64 0), (.int .i64 0)])) [])
 (.set 3 (.const (.int .i64 22))))
 .ret)
 (.seq
 (.set 5 (.pick (.bin .lss (.var 1) (.const (.int .i64 0))) (.const (.bool true)) (.bin .geq (.var 1) (.len false (.ld none (.offp 0 (.nn (.var 0))))))))
 (.cond (.var 5)
 (.seq
 (.seq
 (.store 2 (.var 2) (.const (.agg #[(.int .i64 0), (.int .i64 0)])) [])
 (.set 3 (.const (.int .i64 2))))
 .ret)
 .skip)))))
 (.seq
 (.seq
 (.store 2 (.var 2) (.ld (some 2) (.ixSl 2 (.ld none (.offp 0 (.nn (.var 0)))) (.var 1))) [])
 (.set 3 (.const (.int .i64 0))))
 .ret))),
  [(.ld (some 2) (.var 2)), (.var 3)]⟩
theorem okx_193 : FnOk Tryz.prog 3 377 193 xf193 := fnOk_of Tryz.func193 (np := 2) (V := [0, 1, 4, 5, 6, 10]) (ks := []) (by kernel_rfl)

/- tipstaff/rights.Common -/
def xf194 : XF := ⟨2, [0, 1, 4, 2, 3],
  (.seq
 (.seq
 (.new (some 3) 69 (.var 0))
 (.seq
 (.new (some 4) 69 (.var 1))
 (.new (some 2) 69 (.const zA4))))
 (.seq
 (.seq
 (.chk [(.upd 5 1 (.upd 4 1 (.upd 3 1 (.upd 2 1 (.upd 1 1 (.upd 0 1 (.const zA4) (.bin .and (.ld none (.offp 0 (.var 3))) (.ld none (.offp 0 (.var 4))))) (.bin .and (.ld none (.offp 1 (.var 3))) (.ld none (.offp 1 (.var 4))))) (.bin .and (.ld none (.offp 2 (.var 3))) (.ld none (.offp 2 (.var 4))))) (.bin .and (.ld none (.offp 3 (.var 3))) (.ld none (.offp 3 (.var 4))))) (.pick (.ld none (.offp 4 (.var 3))) (.ld none (.offp 4 (.var 4))) (.const (.bool false)))) (.pick (.ld none (.offp 5 (.var 3))) (.const (.bool true)) (.ld none (.offp 5 (.var 4)))))])
 (.store 6 (.var 2) (.upd 5 1 (.upd 4 1 (.upd 3 1 (.upd 2 1 (.upd 1 1 (.upd 0 1 (.const zA4) (.bin .and (.ld none (.offp 0 (.var 3))) (.ld none (.offp 0 (.var 4))))) (.bin .and (.ld none (.offp 1 (.var 3))) (.ld none (.offp 1 (.var 4))))) (.bin .and (.ld none (.offp 2 (.var 3))) (.ld none (.offp 2 (.var 4))))) (.bin .and (.ld none (.offp 3 (.var 3))) (.ld none (.offp 3 (.var 4))))) (.pick (.ld none (.offp 4 (.var 3))) (.ld none (.offp 4 (.var 4))) (.const (.bool false)))) (.pick (.ld none (.offp 5 (.var 3))) (.const (.bool true)) (.ld none (.offp 5 (.var 4))))) []))
 .ret)),
  [(.ld (some 6) (.var 2))]⟩
theorem okx_194 : FnOk Tryz.prog 3 377 194 xf194 := fnOk_of Tryz.func194 (np := 2) (V := [0, 1, 4, 2, 3]) (ks := []) (by kernel_rfl)

/- (*tipstaff/objtab.Table[tipstaff/gate.Object]).Drop -/
def xf208 : XF := ⟨2, [0, 1, 4, 5, 11, 6, 7],
  (.seq
 (.seq
 (.set 2 (.const (.bool false)))
 (.set 3 (.const (.int .i64 0))))
 (.seq
 (.seq
 (.call (some 4) 139 [(.var 0), (.var 1)] [])
 (.seq
 (.chk [(.proj 1 (.var 4))])
 (.seq
 (.set 5 (.proj 0 (.var 4)))
 (.set 6 (.proj 1 (.var 4))))))
 (.seq
 (.cond (.bin .neq (.var 6) (.const (.int .i64 0)))
 (.seq
 (.seq
 (.chk [(.var 6)])
 (.seq
 (.set 2 (.const (.bool false)))
 (.set 3 (.var 6))))
 .ret)
 .skip)
 (.seq
 (.store 1 (.offp 7 (.nn (.var 5))) (.bin .sub (.ld none (.offp 7 (.nn (.var 5)))) (.const (.int .i64 1))) [])
 (.seq
 (.cond (.bin .eql (.ld none (.offp 7 (.nn (.var 5)))) (.const (.int .i64 0)))
 (.mdel .i64 (.ld none (.offp 2 (.nn (.var 0)))) (.var 1) [])
 .skip)
 (.seq
 (.seq
 (.set 2 (.bin .eql (.ld none (.offp 7 (.nn (.var 5)))) (.const (.int .i64 0))))
 (.set 3 (.const (.int .i64 0))))
 .ret)))))),
  [(.var 2), (.var 3)]⟩
theorem okx_208 : FnOk Tryz.prog 3 377 208 xf208 := fnOk_of Tryz.func208 (np := 2) (V := [0, 1, 4, 5, 11, 6, 7]) (ks := []) (by kernel_rfl)

/- (*tipstaff/fdtab.Table).Free -/
def xf209 : XF := ⟨1, [0, 2, 11, 9],
  (.seq
 (.set 1 (.const (.int .i64 0)))
 (.seq
 (.cond (.isnil 0 false (.var 0))
 (.seq
 (.set 1 (.const (.int .i64 0)))
 .ret)
 .skip)
 (.seq
 (.seq
 .skip
 (.seq
 (.set 3 (.len false (.ld none (.offp 0 (.nn (.var 0))))))
 (.seq
 (.call (some 2) 76 [(.var 0)] [(.ld none (.offp 0 (.nn (.var 0))))])
 (.set 1 (.bin .sub (.var 3) (.len false (.var 2)))))))
 .ret))),
  [(.var 1)]⟩
theorem okx_209 : FnOk Tryz.prog 3 377 209 xf209 := fnOk_of Tryz.func209 (np := 1) (V := [0, 2, 11, 9]) (ks := []) (by kernel_rfl)

/- (*tipstaff/registry.Registry).Add -/
def xf211 : XF := ⟨2, [0, 1, 4, 3, 5, 11, 8, 13, 27, 24, 28],
  (.seq
 (.seq
 (.new (some 3) 49 (.var 1))
 (.set 2 (.const (.int .i64 0))))
 (.seq
 (.block 0
 (.seq
 (.set 4 (.isnil 0 false (.var 0)))
 (.cond (.var 4)
 (.seq
 (.set 2 (.const (.int .i64 22)))
 .ret)
 (.seq
 (.seq
 (.call (some 5) 280 [(.var 0), (.ld (some 32) (.var 3))] [])
 (.set 6 (.bin .geq (.var 5) (.const (.int .i64 0)))))
 (.cond (.var 6)
 (.seq
 (.set 2 (.const (.int .i64 17)))
 .ret)
 (.seq
 (.set 7 (.bin .eql (.len false (.ld none (.offp 0 (.nn (.var 0))))) (.const (.int .i64 32))))
 (.cond (.var 7)
 (.seq
 (.set 2 (.const (.int .i64 28)))
 .ret)
 .skip)))))))
 (.seq
 (.seq
 .skip
 (.seq
 (.set 9 (.ld none (.offp 0 (.nn (.var 0)))))
 (.seq
 (.chk [(.upd 0 32 (.const zA13) (.ld (some 32) (.var 3)))])
 (.seq
 (.row (some 8) 309 1 (.upd 0 33 (.const zA13) (.upd 0 32 (.const zA13) (.ld (some 32) (.var 3)))))
 (.seq
 (.app (some 10) 309 33 (.var 9) (.var 8) [])
 (.store 1 (.offp 0 (.nn (.var 0))) (.var 10) []))))))
 (.seq
 (.set 2 (.const (.int .i64 0)))
 .ret)))),
  [(.var 2)]⟩
theorem okx_211 : FnOk Tryz.prog 3 377 211 xf211 := fnOk_of Tryz.func211 (np := 2) (V := [0, 1, 4, 3, 5, 11, 8, 13, 27, 24, 28]) (ks := []) (by kernel_rfl)

/- (*tipstaff/objtab.Table[tipstaff/gate.Object]).Make -/
def xf212 : XF := ⟨2, [0, 1, 4, 5, 3, 6, 14, 18, 9, 37, 30, 34],
  (.seq
 (.seq
 (.new (some 4) 168 (.var 1))
 (.seq
 (.set 2 (.const (.int .i64 0)))
 (.set 3 (.const (.int .i64 0)))))
 (.seq
 (.block 0
 (.seq
 (.set 5 (.isnil 0 false (.var 0)))
 (.cond (.var 5)
 (.seq
 (.seq
 (.set 2 (.const (.int .i64 0)))
 (.set 3 (.const (.int .i64 22))))
 .ret)
 (.seq
 (.seq
 .skip
 (.seq
 (.chk [(.ld none (.offp 2 (.nn (.var 0))))])
 (.seq
 (.set 7 (.ld none (.offp 0 (.nn (.var 0)))))
 (.seq
 (.mlen (some 6) (.ld none (.offp 2 (.nn (.var 0)))) [(.ld none (.offp 0 (.nn (.var 0))))])
 (.set 8 (.bin .eql (.var 6) (.var 7)))))))
 (.cond (.var 8)
 (.seq
 (.seq
 (.set 2 (.const (.int .i64 0)))
 (.set 3 (.const (.int .i64 12))))
 .ret)
 .skip)))))
 (.seq
 (.store 1 (.offp 1 (.nn (.var 0))) (.bin .add (.ld none (.offp 1 (.nn (.var 0)))) (.const (.int .i64 1))) [])
 (.seq
 (.seq
 .skip
 (.seq
 (.set 10 (.ld none (.offp 2 (.nn (.var 0)))))
 (.seq
 (.set 11 (.ld none (.offp 1 (.nn (.var 0)))))
 (.seq
 (.chk [(.upd 7 1 (.upd 0 7 (.const (.agg #[(.int .i64 0), (.int .i64 0), (.int .i64 0), (.slice none 0 0), (.pointer none), (.pointer none), (.pointer none), (.int .i64 0)])) (.ld (some 7) (.var 4))) (.const (.int .i64 1)))])
 (.seq
 (.new (some 9) 256 (.upd 7 1 (.upd 0 7 (.const (.agg #[(.int .i64 0), (.int .i64 0), (.int .i64 0), (.slice none 0 0), (.pointer none), (.pointer none), (.pointer none), (.int .i64 0)])) (.ld (some 7) (.var 4))) (.const (.int .i64 1))))
 (.upd .i64 (.var 10) (.var 11) (.var 9) []))))))
 (.seq
 (.seq
 (.set 2 (.ld none (.offp 1 (.nn (.var 0)))))
 (.set 3 (.const (.int .i64 0))))
 .ret))))),
  [(.var 2), (.var 3)]⟩
theorem okx_212 : FnOk Tryz.prog 3 377 212 xf212 := fnOk_of Tryz.func212 (np := 2) (V := [0, 1, 4, 5, 3, 6, 14, 18, 9, 37, 30, 34]) (ks := []) (by kernel_rfl)

/- (*tipstaff/registry.Registry).find -/
def xf280 : XF := ⟨2, [0, 1, 4, 3, 10],
  (.seq
 (.seq
 (.new (some 3) 49 (.var 1))
 (.set 2 (.const (.int .i64 0))))
 (.seq
 (.seq
 (.chk [(.cap1 (.const (.func (.func 330) #[] #[])) (.var 3))])
 (.seq
 (.call (some 4) 329 [(.ld none (.offp 0 (.nn (.var 0)))), (.cap1 (.const (.func (.func 330) #[] #[])) (.var 3))] [])
 (.set 2 (.var 4))))
 .ret)),
  [(.var 2)]⟩
theorem okx_280 : FnOk Tryz.prog 3 377 280 xf280 := fnOk_of Tryz.func280 (np := 2) (V := [0, 1, 4, 3, 10]) (ks := []) (by kernel_rfl)

/- slices.IndexFunc[[]tipstaff/registry.entry,tipstaff/registry.entry] -/
def xf329 : XF := ⟨2, [0, 1, 4, 8, 7, 5, 16],
  (.seq
 (.set 2 (.const (.int .i64 0)))
 (.seq
 (.seq
 (.seq
 (.set 4 (.len false (.var 0)))
 (.set 3 (.const (.int .i64 0))))
 (.block 0
 (.loop [0, 1, 3, 4]
 (.seq
 (.cond (.bin .lss (.var 3) (.var 4))
 .skip
 (.exit 0))
 (.seq
 (.block 1
 (.seq
 (.set 5 (.var 3))
 (.seq
 (.dyn (some 6) (.var 1) [(.ld (some 33) (.ixSl 33 (.var 0) (.var 5)))] [])
 (.cond (.var 6)
 (.seq
 (.set 2 (.var 5))
 .ret)
 .skip))))
 (.set 3 (.bin .add (.var 3) (.const (.int .i64 1)))))))))
 (.seq
 (.set 2 (.const (.int .i64 (-1))))
 .ret))),
  [(.var 2)]⟩
theorem okx_329 : FnOk Tryz.prog 3 377 329 xf329 := fnOk_of Tryz.func329 (np := 2) (V := [0, 1, 4, 8, 7, 5, 16]) (ks := [[0, 1, 3, 4]]) (by kernel_rfl)
end Go.Proofs.YtmpgfgemnhbkhaaGreatDoor
