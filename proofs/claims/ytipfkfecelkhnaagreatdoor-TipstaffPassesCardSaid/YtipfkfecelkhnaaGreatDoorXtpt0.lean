/- The interpreter's functions, part 0: made by program (geny.py). -/
import Derived.Test.YtipfkfecelkhnaaGreatDoorXtpz
import Derived.Test.YtipfkfecelkhnaaGreatDoorProg
set_option maxRecDepth 100000
set_option linter.unusedVariables false
namespace Go.Proofs.YtipfkfecelkhnaaGreatDoor
open Go.Eng
/- tipstaff/gate.New -/
def xf5 : XF := ⟨0, [0, 3, 4, 6, 1, 9, 14, 2, 20],
  (.seq
 (.set 0 (.const (.pointer none)))
 (.seq
 (.seq
 (.call (some 1) 21 [] [])
 (.seq
 (.call (some 2) 22 [] [])
 (.seq
 (.chk [(.upd 1 1 (.upd 0 1 (.const (.agg (Array.replicate 7 (.pointer none)))) (.var 1)) (.var 2))])
 (.seq
 (.new (some 3) 74 (.upd 1 1 (.upd 0 1 (.const (.agg (Array.replicate 7 (.pointer none)))) (.var 1)) (.var 2)))
 (.set 4 (.var 3))))))
 (.seq
 (.seq
 (.chk [(.var 4)])
 (.seq
 (.call (some 5) 23 [(.const (.int .i64 64))] [])
 (.seq
 (.chk [(.proj 1 (.var 5))])
 (.store 1 (.offp 2 (.nn (.var 4))) (.proj 0 (.var 5)) []))))
 (.seq
 (.seq
 (.set 6 (.const (.int .i64 0)))
 (.block 0
 (.loop [4, 6]
 (.seq
 (.cond (.bin .lss (.var 6) (.const (.int .i64 4)))
 .skip
 (.exit 0))
 (.seq
 (.block 1
 (.seq
 (.set 7 (.var 6))
 (.seq
 .skip
 (.seq
 (.chk [(.offp 3 (.nn (.var 4))), (.var 7)])
 (.seq
 (.call (some 8) 24 [(.const (.int .i64 16))] [])
 (.seq
 (.chk [(.proj 1 (.var 8))])
 (.store 1 (.ixArr 4 1 (.offp 3 (.nn (.var 4))) (.var 7)) (.proj 0 (.var 8)) [])))))))
 (.set 6 (.bin .add (.var 6) (.const (.int .i64 1)))))))))
 (.seq
 (.set 0 (.var 4))
 .ret))))),
  [(.var 0)]⟩
theorem okx_5 : FnOk Tryz.prog 3 365 5 xf5 := fnOk_of Tryz.func5 (np := 0) (V := [0, 3, 4, 6, 1, 9, 14, 2, 20]) (ks := [[4, 6]]) (by kernel_rfl)

/- (*tipstaff/gate.Kernel).Do -/
def xf6 : XF := ⟨2, [0, 1, 4, 3, 17, 19, 20, 26, 27, 34, 35, 39, 40, 46, 47, 53, 54],
  (.seq
 (.seq
 (.new (some 3) 43 (.var 1))
 (.new (some 2) 29 (.const zA0)))
 (.seq
 (.cond (.pick (.pick (.isnil 0 false (.var 0)) (.const (.bool true)) (.bin .lss (.ld none (.offp 0 (.var 3))) (.const (.int .i64 0)))) (.const (.bool true)) (.bin .geq (.ld none (.offp 0 (.var 3))) (.const (.int .i64 4))))
 (.seq
 (.seq
 (.call (some 4) 25 [(.const (.int .i64 22))] [])
 (.store 4 (.var 2) (.var 4) []))
 .ret)
 .skip)
 (.seq
 (.seq
 (.set 5 (.ld none (.offp 1 (.var 3))))
 (.block 0
 (.seq
 (.seq
 (.set 6 (.bin .eql (.var 5) (.const (.int .i64 0))))
 (.cond (.var 6)
 .skip
 (.seq
 (.set 6 (.bin .eql (.var 5) (.const (.int .i64 1))))
 (.cond (.var 6)
 .skip
 (.set 6 (.bin .eql (.var 5) (.const (.int .i64 2))))))))
 (.cond (.var 6)
 (.seq
 (.seq
 (.call (some 7) 26 [(.var 0), (.ld (some 55) (.var 3))] [])
 (.store 4 (.var 2) (.var 7) []))
 .ret)
 (.seq
 (.seq
 (.set 8 (.bin .eql (.var 5) (.const (.int .i64 3))))
 (.cond (.var 8)
 .skip
 (.seq
 (.set 8 (.bin .eql (.var 5) (.const (.int .i64 4))))
 (.cond (.var 8)
 .skip
 (.seq
 (.set 8 (.bin .eql (.var 5) (.const (.int .i64 5))))
 (.cond (.var 8)
 .skip
 (.set 8 (.bin .eql (.var 5) (.const (.int .i64 6))))))))))
 (.cond (.var 8)
 (.seq
 (.seq
 (.call (some 9) 27 [(.var 0), (.ld (some 55) (.var 3))] [])
 (.store 4 (.var 2) (.var 9) []))
 .ret)
 (.seq
 (.set 10 (.bin .eql (.var 5) (.const (.int .i64 7))))
 (.cond (.var 10)
 (.seq
 (.seq
 (.call (some 11) 28 [(.var 0), (.ld (some 55) (.var 3))] [])
 (.store 4 (.var 2) (.var 11) []))
 .ret)
 (.seq
 (.seq
 (.set 12 (.bin .eql (.var 5) (.const (.int .i64 8))))
 (.cond (.var 12)
 .skip
 (.seq
 (.set 12 (.bin .eql (.var 5) (.const (.int .i64 9))))
 (.cond (.var 12)
 .skip
 (.set 12 (.bin .eql (.var 5) (.const (.int .i64 10))))))))
 (.cond (.var 12)
 (.seq
 (.seq
 (.call (some 13) 29 [(.var 0), (.ld (some 55) (.var 3))] [])
 (.store 4 (.var 2) (.var 13) []))
 .ret)
 (.seq
 (.seq
 (.set 14 (.bin .eql (.var 5) (.const (.int .i64 11))))
 (.cond (.var 14)
 .skip
 (.seq
 (.set 14 (.bin .eql (.var 5) (.const (.int .i64 12))))
 (.cond (.var 14)
 .skip
 (.set 14 (.bin .eql (.var 5) (.const (.int .i64 13))))))))
 (.cond (.var 14)
 (.seq
 (.seq
 (.call (some 15) 30 [(.var 0), (.ld (some 55) (.var 3))] [])
 (.store 4 (.var 2) (.var 15) []))
 .ret)
 .skip))))))))))))
 (.seq
 (.seq
 (.call (some 16) 25 [(.const (.int .i64 22))] [])
 (.store 4 (.var 2) (.var 16) []))
 .ret)))),
  [(.ld (some 4) (.var 2))]⟩
theorem okx_6 : FnOk Tryz.prog 3 365 6 xf6 := fnOk_of Tryz.func6 (np := 2) (V := [0, 1, 4, 3, 17, 19, 20, 26, 27, 34, 35, 39, 40, 46, 47, 53, 54]) (ks := []) (by kernel_rfl)

/- tipstaff/rights.All -/
def xf7 : XF := ⟨0, [0],
  (.seq
 (.new (some 0) 33 (.const zA4))
 (.seq
 (.seq
 (.chk [(.upd 5 1 (.upd 4 1 (.upd 3 1 (.upd 2 1 (.upd 1 1 (.upd 0 1 (.const zA4) (.const (.int .u16 255))) (.const (.int .u16 15))) (.const (.int .u16 63))) (.const (.int .u16 255))) (.const (.bool true))) (.const (.bool false)))])
 (.store 6 (.var 0) (.upd 5 1 (.upd 4 1 (.upd 3 1 (.upd 2 1 (.upd 1 1 (.upd 0 1 (.const zA4) (.const (.int .u16 255))) (.const (.int .u16 15))) (.const (.int .u16 63))) (.const (.int .u16 255))) (.const (.bool true))) (.const (.bool false))) []))
 .ret)),
  [(.ld (some 6) (.var 0))]⟩
theorem okx_7 : FnOk Tryz.prog 3 365 7 xf7 := fnOk_of Tryz.func7 (np := 0) (V := [0]) (ks := []) (by kernel_rfl)

/- tipstaff/tipstafftop.mov -/
def xf8 : XF := ⟨2, [0, 1, 4],
  (.seq
 (.new (some 2) 46 (.const zA2))
 (.seq
 (.seq
 (.chk [(.upd 4 1 (.upd 1 1 (.upd 0 1 (.const zA2) (.const (.int .u8 183))) (.var 0)) (.var 1))])
 (.store 5 (.var 2) (.upd 4 1 (.upd 1 1 (.upd 0 1 (.const zA2) (.const (.int .u8 183))) (.var 0)) (.var 1)) []))
 .ret)),
  [(.ld (some 5) (.var 2))]⟩
theorem okx_8 : FnOk Tryz.prog 3 365 8 xf8 := fnOk_of Tryz.func8 (np := 2) (V := [0, 1, 4]) (ks := []) (by kernel_rfl)

/- tipstaff/tipstafftop.end -/
def xf9 : XF := ⟨0, [0],
  (.seq
 (.new (some 0) 46 (.const zA2))
 (.seq
 (.seq
 (.chk [(.upd 0 1 (.const zA2) (.const (.int .u8 149)))])
 (.store 5 (.var 0) (.upd 0 1 (.const zA2) (.const (.int .u8 149))) []))
 .ret)),
  [(.ld (some 5) (.var 0))]⟩
theorem okx_9 : FnOk Tryz.prog 3 365 9 xf9 := fnOk_of Tryz.func9 (np := 0) (V := [0]) (ks := []) (by kernel_rfl)

/- tipstaff/tipstafftop.stands -/
def xf10 : XF := ⟨0, [0, 1, 2, 3, 4],
  (.seq
 (.set 0 (.const (.bool false)))
 (.seq
 (.seq
 (.row (some 1) 5 3 (.upd 2 1 (.upd 1 1 (.upd 0 1 (.const (.agg #[(.int .u8 0), (.int .u8 0), (.int .u8 0)])) (.const (.int .u8 97))) (.const (.int .u8 98))) (.const (.int .u8 99))))
 (.seq
 badX
 (.seq
 (.call (some 3) 32 [(.var 2)] [])
 (.seq
 (.call (some 4) 31 [(.var 3)] [])
 (.seq
 (.chk [(.bin .eql (.var 4) (.const (.string ⟨#[98, 97, 55, 56, 49, 54, 98, 102, 56, 102, 48, 49, 99, 102, 101, 97, 52, 49, 52, 49, 52, 48, 100, 101, 53, 100, 97, 101, 50, 50, 50, 51, 98, 48, 48, 51, 54, 49, 97, 51, 57, 54, 49, 55, 55, 97, 57, 99, 98, 52, 49, 48, 102, 102, 54, 49, 102, 50, 48, 48, 49, 53, 97, 100]⟩)))])
 (.set 0 (.bin .eql (.var 4) (.const (.string ⟨#[98, 97, 55, 56, 49, 54, 98, 102, 56, 102, 48, 49, 99, 102, 101, 97, 52, 49, 52, 49, 52, 48, 100, 101, 53, 100, 97, 101, 50, 50, 50, 51, 98, 48, 48, 51, 54, 49, 97, 51, 57, 54, 49, 55, 55, 97, 57, 99, 98, 52, 49, 48, 102, 102, 54, 49, 102, 50, 48, 48, 49, 53, 97, 100]⟩)))))))))
 .ret)),
  [(.var 0)]⟩
theorem okx_10 : FnOk Tryz.prog 3 365 10 xf10 := fnOk_of Tryz.func10 (np := 0) (V := [0, 1, 2, 3, 4]) (ks := []) (by kernel_rfl)

/- tipstaff/tipstafftop.opens -/
def xf11 : XF := ⟨0, [0, 8, 1, 2, 13, 3, 4, 18, 5, 6],
  (.seq
 (.set 0 (.const (.bool false)))
 (.seq
 (.seq
 (.call (some 1) 24 [(.const (.int .i64 2))] [])
 (.seq
 (.chk [(.proj 1 (.var 1))])
 (.seq
 (.set 2 (.proj 0 (.var 1)))
 (.set 3 (.proj 1 (.var 1))))))
 (.seq
 (.seq
 (.call (some 4) 33 [(.var 2), (.const (.int .i64 5))] [])
 (.seq
 (.chk [(.proj 1 (.var 4))])
 (.seq
 (.set 5 (.proj 0 (.var 4)))
 (.set 6 (.proj 1 (.var 4))))))
 (.seq
 (.seq
 (.call (some 7) 34 [(.var 2), (.const (.int .i64 0))] [])
 (.seq
 (.chk [(.proj 1 (.var 7))])
 (.seq
 (.set 8 (.proj 0 (.var 7)))
 (.set 9 (.proj 1 (.var 7))))))
 (.seq
 (.set 0 (.pick (.pick (.pick (.pick (.bin .eql (.var 3) (.const (.int .i64 0))) (.bin .eql (.var 6) (.const (.int .i64 0))) (.const (.bool false))) (.bin .eql (.var 9) (.const (.int .i64 0))) (.const (.bool false))) (.bin .eql (.var 5) (.const (.int .i64 0))) (.const (.bool false))) (.bin .eql (.var 8) (.const (.int .i64 5))) (.const (.bool false))))
 .ret))))),
  [(.var 0)]⟩
theorem okx_11 : FnOk Tryz.prog 3 365 11 xf11 := fnOk_of Tryz.func11 (np := 0) (V := [0, 8, 1, 2, 13, 3, 4, 18, 5, 6]) (ks := []) (by kernel_rfl)

/- (*tipstaff/gate.Kernel).Fds -/
def xf12 : XF := ⟨2, [0, 1, 4, 5, 26, 28, 27, 7, 40, 8, 9, 49, 50],
  (.seq
 (.set 2 (.const (.slice none 0 0)))
 (.seq
 (.cond (.pick (.pick (.isnil 0 false (.var 0)) (.const (.bool true)) (.bin .lss (.var 1) (.const (.int .i64 0)))) (.const (.bool true)) (.bin .geq (.var 1) (.const (.int .i64 4))))
 (.seq
 (.set 2 (.const (.slice none 0 0)))
 .ret)
 .skip)
 (.seq
 (.set 3 (.const (.slice none 0 0)))
 (.seq
 (.seq
 (.seq
 (.call (some 4) 35 [(.ld none (.ixArr 4 1 (.offp 3 (.nn (.var 0))) (.var 1)))] [])
 (.seq
 (.set 6 (.len false (.var 4)))
 (.set 5 (.const (.int .i64 0)))))
 (.block 0
 (.loop [0, 1, 3, 4, 5, 6]
 (.seq
 (.cond (.bin .lss (.var 5) (.var 6))
 .skip
 (.exit 0))
 (.seq
 (.block 1
 (.seq
 (.set 7 (.ld none (.ixSl 1 (.var 4) (.var 5))))
 (.seq
 (.seq
 (.call (some 8) 34 [(.ld none (.ixArr 4 1 (.offp 3 (.nn (.var 0))) (.var 1))), (.var 7)] [])
 (.seq
 (.chk [(.proj 1 (.var 8))])
 (.seq
 (.set 9 (.proj 0 (.var 8)))
 (.set 10 (.proj 1 (.var 8))))))
 (.cond (.bin .eql (.var 10) (.const (.int .i64 0)))
 (.seq
 (.chk [(.upd 1 1 (.upd 0 1 (.const (.agg #[(.int .i64 0), (.int .i64 0)])) (.var 7)) (.var 9)), (.var 3)])
 (.seq
 (.row (some 11) 54 1 (.upd 0 2 (.const (.agg #[(.int .i64 0), (.int .i64 0)])) (.upd 1 1 (.upd 0 1 (.const (.agg #[(.int .i64 0), (.int .i64 0)])) (.var 7)) (.var 9))))
 (.seq
 (.app (some 12) 54 2 (.var 3) (.var 11) [])
 (.set 3 (.var 12)))))
 .skip))))
 (.set 5 (.bin .add (.var 5) (.const (.int .i64 1)))))))))
 (.seq
 (.set 2 (.var 3))
 .ret))))),
  [(.var 2)]⟩
theorem okx_12 : FnOk Tryz.prog 3 365 12 xf12 := fnOk_of Tryz.func12 (np := 2) (V := [0, 1, 4, 5, 26, 28, 27, 7, 40, 8, 9, 49, 50]) (ks := [[0, 1, 3, 4, 5, 6]]) (by kernel_rfl)

/- (*tipstaff/gate.Kernel).Objects -/
def xf13 : XF := ⟨1, [0, 2, 3, 14, 16, 15, 5, 26, 6, 7, 37, 39, 40, 46, 47],
  (.seq
 (.set 1 (.const (.slice none 0 0)))
 (.seq
 (.cond (.isnil 0 false (.var 0))
 (.seq
 (.set 1 (.const (.slice none 0 0)))
 .ret)
 .skip)
 (.seq
 (.set 2 (.const (.slice none 0 0)))
 (.seq
 (.seq
 (.seq
 (.call (some 3) 36 [(.ld none (.offp 2 (.nn (.var 0))))] [])
 (.seq
 (.set 5 (.len false (.var 3)))
 (.set 4 (.const (.int .i64 0)))))
 (.block 0
 (.loop [0, 2, 3, 4, 5]
 (.seq
 (.cond (.bin .lss (.var 4) (.var 5))
 .skip
 (.exit 0))
 (.seq
 (.block 1
 (.seq
 (.set 6 (.ld none (.ixSl 1 (.var 3) (.var 4))))
 (.seq
 (.seq
 (.call (some 7) 37 [(.ld none (.offp 2 (.nn (.var 0)))), (.var 6)] [])
 (.seq
 (.chk [(.proj 1 (.var 7)), (.proj 0 (.var 7))])
 (.seq
 (.new (some 8) 80 (.const zA6))
 (.seq
 (.store 7 (.var 8) (.proj 0 (.var 7)) [])
 (.set 9 (.proj 1 (.var 7)))))))
 (.seq
 (.cond (.bin .neq (.var 9) (.const (.int .i64 0)))
 (.exit 1)
 .skip)
 (.seq
 (.seq
 .skip
 (.seq
 (.chk [(.var 6), (.ld none (.offp 2 (.nn (.var 0))))])
 (.seq
 (.set 11 (.ld none (.offp 3 (.var 8))))
 (.seq
 (.chk [(.offp 0 (.var 8))])
 (.seq
 (.call (some 10) 38 [(.ld none (.offp 2 (.nn (.var 0)))), (.var 6)] [(.ld none (.offp 3 (.var 8)))])
 (.seq
 (.call (some 12) 39 [(.var 11)] [])
 (.seq
 (.store 1 (.offp 0 (.var 8)) (.var 6) [])
 (.seq
 (.store 1 (.offp 2 (.var 8)) (.var 10) [])
 (.store 1 (.offp 3 (.var 8)) (.var 12) [])))))))))
 (.seq
 (.chk [(.var 2)])
 (.seq
 (.row (some 13) 80 1 (.upd 0 7 (.const zA6) (.ld (some 7) (.var 8))))
 (.seq
 (.app (some 14) 80 7 (.var 2) (.var 13) [])
 (.set 2 (.var 14))))))))))
 (.set 4 (.bin .add (.var 4) (.const (.int .i64 1)))))))))
 (.seq
 (.set 1 (.var 2))
 .ret))))),
  [(.var 1)]⟩
theorem okx_13 : FnOk Tryz.prog 3 365 13 xf13 := fnOk_of Tryz.func13 (np := 1) (V := [0, 2, 3, 14, 16, 15, 5, 26, 6, 7, 37, 39, 40, 46, 47]) (ks := [[0, 2, 3, 4, 5]]) (by kernel_rfl)

/- (*tipstaff/gate.Kernel).Sound -/
def xf14 : XF := ⟨1, [0, 2, 9, 3, 11, 13, 12, 5, 16, 21, 17, 32, 29, 25, 46, 39, 35],
  (.seq
 (.set 1 (.const (.bool false)))
 (.seq
 (.cond (.isnil 0 false (.var 0))
 (.seq
 (.set 1 (.const (.bool false)))
 .ret)
 .skip)
 (.seq
 (.seq
 (.call (some 2) 40 [(.var 0)] [])
 (.set 3 (.var 2)))
 (.seq
 (.seq
 (.seq
 (.call (some 4) 13 [(.var 0)] [])
 (.seq
 (.set 6 (.len false (.var 4)))
 (.set 5 (.const (.int .i64 0)))))
 (.block 0
 (.loop [0, 3, 4, 5, 6]
 (.seq
 (.cond (.bin .lss (.var 5) (.var 6))
 .skip
 (.exit 0))
 (.seq
 (.block 1
 (.seq
 (.seq
 (.set 8 (.ld (some 7) (.ixSl 7 (.var 4) (.var 5))))
 (.seq
 (.new (some 7) 80 (.const zA6))
 (.store 7 (.var 7) (.var 8) [])))
 (.block 2
 (.seq
 (.seq
 (.look (some 9) (.int .i64 0) false .i64 (.var 3) (.ld none (.offp 0 (.var 7))) [])
 (.set 10 (.bin .neq (.var 9) (.ld none (.offp 2 (.var 7))))))
 (.cond (.var 10)
 (.seq
 (.set 1 (.const (.bool false)))
 .ret)
 (.seq
 (.seq
 (.set 12 (.bin .eql (.ld none (.offp 1 (.var 7))) (.const (.int .i64 2))))
 (.seq
 (.chk [(.pick (.var 12) (.ld none (.offp 5 (.var 7))) (.const (.bool false)))])
 (.seq
 (.cond (.pick (.var 12) (.const (.bool true)) (.const (.bool false)))
 (.call (some 11) 41 [(.ld none (.offp 5 (.var 7)))] [])
 (.clr [11]))
 (.set 13 (.pick (.var 12) (.un .not (.var 11)) (.const (.bool false)))))))
 (.cond (.var 13)
 (.seq
 (.set 1 (.const (.bool false)))
 .ret)
 (.seq
 (.seq
 .skip
 (.seq
 (.set 15 (.bin .eql (.ld none (.offp 1 (.var 7))) (.const (.int .i64 3))))
 (.seq
 (.chk [(.pick (.var 15) (.ld none (.offp 6 (.var 7))) (.const (.bool false))), (.pick (.var 15) (.ld none (.offp 0 (.nn (.var 0)))) (.const (.bool false)))])
 (.seq
 (.cond (.pick (.var 15) (.const (.bool true)) (.const (.bool false)))
 (.call (some 14) 42 [(.ld none (.offp 0 (.nn (.var 0)))), (.ld none (.offp 6 (.var 7)))] [])
 (.clr [14]))
 (.set 16 (.pick (.var 15) (.un .not (.var 14)) (.const (.bool false))))))))
 (.cond (.var 16)
 (.seq
 (.set 1 (.const (.bool false)))
 .ret)
 .skip)))))))))
 (.set 5 (.bin .add (.var 5) (.const (.int .i64 1)))))))))
 (.seq
 (.set 1 (.const (.bool true)))
 .ret))))),
  [(.var 1)]⟩
theorem okx_14 : FnOk Tryz.prog 3 365 14 xf14 := fnOk_of Tryz.func14 (np := 1) (V := [0, 2, 9, 3, 11, 13, 12, 5, 16, 21, 17, 32, 29, 25, 46, 39, 35]) (ks := [[0, 3, 4, 5, 6]]) (by kernel_rfl)

/- tipstaff/space.New -/
def xf21 : XF := ⟨0, [0, 1, 3],
  (.seq
 (.set 0 (.const (.pointer none)))
 (.seq
 (.seq
 (.mk (some 1) 227 [(.int .i64 0), (.int .i64 0)] (.const (.int .i64 1)) (.const (.int .i64 1)) [])
 (.seq
 (.chk [(.upd 0 1 (.const (.agg #[(.slice none 0 0)])) (.var 1))])
 (.seq
 (.new (some 2) 122 (.upd 0 1 (.const (.agg #[(.slice none 0 0)])) (.var 1)))
 (.set 0 (.var 2)))))
 .ret)),
  [(.var 0)]⟩
theorem okx_21 : FnOk Tryz.prog 3 365 21 xf21 := fnOk_of Tryz.func21 (np := 0) (V := [0, 1, 3]) (ks := []) (by kernel_rfl)

/- tipstaff/registry.New -/
def xf22 : XF := ⟨0, [0, 2],
  (.seq
 (.set 0 (.const (.pointer none)))
 (.seq
 (.seq
 (.new (some 1) 125 (.const (.agg #[(.slice none 0 0)])))
 (.set 0 (.var 1)))
 .ret)),
  [(.var 0)]⟩
theorem okx_22 : FnOk Tryz.prog 3 365 22 xf22 := fnOk_of Tryz.func22 (np := 0) (V := [0, 2]) (ks := []) (by kernel_rfl)

/- tipstaff/objtab.New[tipstaff/gate.Object] -/
def xf23 : XF := ⟨1, [0, 2, 3, 11, 13],
  (.seq
 (.seq
 (.set 1 (.const (.pointer none)))
 (.set 2 (.const (.int .i64 0))))
 (.seq
 (.cond (.pick (.bin .lss (.var 0) (.const (.int .i64 1))) (.const (.bool true)) (.bin .gtr (.var 0) (.const (.int .i64 64))))
 (.seq
 (.seq
 (.set 1 (.const (.pointer none)))
 (.set 2 (.const (.int .i64 22))))
 .ret)
 .skip)
 (.seq
 (.seq
 (.chk [(.var 0)])
 (.seq
 (.mkmap (some 3) .i64 [])
 (.seq
 (.chk [(.upd 2 1 (.upd 0 1 (.const (.agg #[(.int .i64 0), (.int .i64 0), (.map none)])) (.var 0)) (.var 3))])
 (.seq
 (.new (some 4) 128 (.upd 2 1 (.upd 0 1 (.const (.agg #[(.int .i64 0), (.int .i64 0), (.map none)])) (.var 0)) (.var 3)))
 (.seq
 (.set 1 (.var 4))
 (.set 2 (.const (.int .i64 0))))))))
 .ret))),
  [(.var 1), (.var 2)]⟩
theorem okx_23 : FnOk Tryz.prog 3 365 23 xf23 := fnOk_of Tryz.func23 (np := 1) (V := [0, 2, 3, 11, 13]) (ks := []) (by kernel_rfl)

/- tipstaff/fdtab.New -/
def xf24 : XF := ⟨1, [0, 2, 3, 11, 13],
  (.seq
 (.seq
 (.set 1 (.const (.pointer none)))
 (.set 2 (.const (.int .i64 0))))
 (.seq
 (.cond (.pick (.bin .lss (.var 0) (.const (.int .i64 1))) (.const (.bool true)) (.bin .gtr (.var 0) (.const (.int .i64 16))))
 (.seq
 (.seq
 (.set 1 (.const (.pointer none)))
 (.set 2 (.const (.int .i64 22))))
 .ret)
 .skip)
 (.seq
 (.seq
 (.mk (some 3) 3 [(.int .i64 0)] (.var 0) (.var 0) [])
 (.seq
 (.chk [(.upd 0 1 (.const (.agg #[(.slice none 0 0)])) (.var 3))])
 (.seq
 (.new (some 4) 130 (.upd 0 1 (.const (.agg #[(.slice none 0 0)])) (.var 3)))
 (.seq
 (.set 1 (.var 4))
 (.set 2 (.const (.int .i64 0)))))))
 .ret))),
  [(.var 1), (.var 2)]⟩
theorem okx_24 : FnOk Tryz.prog 3 365 24 xf24 := fnOk_of Tryz.func24 (np := 1) (V := [0, 2, 3, 11, 13]) (ks := []) (by kernel_rfl)

/- tipstaff/gate.failed -/
def xf25 : XF := ⟨1, [0, 2],
  (.seq
 (.new (some 1) 29 (.const zA0))
 (.seq
 (.seq
 (.chk [(.upd 0 1 (.const zA0) (.var 0))])
 (.store 4 (.var 1) (.upd 0 1 (.const zA0) (.var 0)) []))
 .ret)),
  [(.ld (some 4) (.var 1))]⟩
theorem okx_25 : FnOk Tryz.prog 3 365 25 xf25 := fnOk_of Tryz.func25 (np := 1) (V := [0, 2]) (ks := []) (by kernel_rfl)

/- (*tipstaff/gate.Kernel).byToken -/
def xf26 : XF := ⟨2, [0, 1, 4, 3, 15, 6, 5, 7, 22, 27, 8, 31, 33, 34, 40, 41, 48, 54],
  (.seq
 (.seq
 (.new (some 3) 43 (.var 1))
 (.new (some 2) 29 (.const zA0)))
 (.seq
 (.seq
 (.call (some 4) 55 [(.var 0), (.ld none (.offp 0 (.var 3))), (.ld none (.offp 2 (.var 3))), (.const (.int .i64 3))] [])
 (.seq
 (.chk [(.proj 2 (.var 4)), (.proj 1 (.var 4)), (.proj 0 (.var 4))])
 (.seq
 (.new (some 5) 80 (.const zA6))
 (.seq
 (.set 6 (.proj 0 (.var 4)))
 (.seq
 (.store 7 (.var 5) (.proj 1 (.var 4)) [])
 (.set 7 (.proj 2 (.var 4))))))))
 (.seq
 (.cond (.bin .neq (.var 7) (.const (.int .i64 0)))
 (.seq
 (.seq
 (.call (some 8) 25 [(.var 7)] [])
 (.store 4 (.var 2) (.var 8) []))
 .ret)
 .skip)
 (.seq
 (.seq
 (.seq
 (.call (some 9) 56 [(.ld none (.offp 6 (.var 5))), (.ld none (.offp 1 (.var 3)))] [])
 (.set 10 (.var 9)))
 (.cond (.bin .neq (.var 10) (.const (.int .i64 0)))
 (.seq
 (.seq
 (.call (some 11) 25 [(.var 10)] [])
 (.store 4 (.var 2) (.var 11) []))
 .ret)
 .skip))
 (.seq
 (.seq
 (.set 12 (.ld none (.offp 1 (.var 3))))
 (.block 0
 (.seq
 (.set 13 (.bin .eql (.var 12) (.const (.int .i64 0))))
 (.cond (.var 13)
 (.seq
 (.seq
 (.call (some 14) 57 [(.var 0), (.ld (some 55) (.var 3)), (.ld none (.offp 6 (.var 5)))] [])
 (.store 4 (.var 2) (.var 14) []))
 .ret)
 (.seq
 (.set 15 (.bin .eql (.var 12) (.const (.int .i64 1))))
 (.cond (.var 15)
 (.seq
 (.seq
 (.call (some 16) 58 [(.var 0), (.ld (some 55) (.var 3)), (.var 6), (.ld none (.offp 6 (.var 5)))] [])
 (.store 4 (.var 2) (.var 16) []))
 .ret)
 .skip))))))
 (.seq
 (.seq
 (.call (some 17) 59 [(.var 0), (.ld (some 55) (.var 3)), (.var 6), (.ld none (.offp 6 (.var 5)))] [])
 (.store 4 (.var 2) (.var 17) []))
 .ret)))))),
  [(.ld (some 4) (.var 2))]⟩
theorem okx_26 : FnOk Tryz.prog 3 365 26 xf26 := fnOk_of Tryz.func26 (np := 2) (V := [0, 1, 4, 3, 15, 6, 5, 7, 22, 27, 8, 31, 33, 34, 40, 41, 48, 54]) (ks := []) (by kernel_rfl)

/- (*tipstaff/gate.Kernel).run -/
def xf28 : XF := ⟨2, [0, 1, 4, 3, 15, 6, 5, 7, 22, 42, 8, 27, 41, 24, 31],
  (.seq
 (.seq
 (.new (some 3) 43 (.var 1))
 (.new (some 2) 29 (.const zA0)))
 (.seq
 (.seq
 (.call (some 4) 55 [(.var 0), (.ld none (.offp 0 (.var 3))), (.ld none (.offp 2 (.var 3))), (.const (.int .i64 2))] [])
 (.seq
 (.chk [(.proj 2 (.var 4)), (.proj 1 (.var 4)), (.proj 0 (.var 4))])
 (.seq
 (.new (some 5) 80 (.const zA6))
 (.seq
 (.set 6 (.proj 0 (.var 4)))
 (.seq
 (.store 7 (.var 5) (.proj 1 (.var 4)) [])
 (.set 7 (.proj 2 (.var 4))))))))
 (.seq
 (.cond (.bin .neq (.var 7) (.const (.int .i64 0)))
 (.seq
 (.seq
 (.call (some 8) 25 [(.var 7)] [])
 (.store 4 (.var 2) (.var 8) []))
 .ret)
 .skip)
 (.seq
 (.seq
 .skip
 (.seq
 (.set 13 (.ld none (.offp 5 (.var 5))))
 (.seq
 (.set 11 (.ld none (.offp 1 (.nn (.var 13)))))
 (.seq
 (.chk [(.ld (some 32) (.offp 21 (.var 3)))])
 (.seq
 (.set 14 (.ld none (.offp 5 (.var 5))))
 (.seq
 (.set 12 (.upd 35 1 (.upd 34 1 (.upd 33 1 (.upd 32 1 (.upd 0 32 (.const zA12) (.ld (some 32) (.offp 21 (.var 3)))) (.ld none (.offp 2 (.nn (.var 14))))) (.ld none (.offp 53 (.var 3)))) (.ld none (.offp 54 (.var 3)))) (.ld none (.offp 3 (.var 3)))))
 (.seq
 (.resv 1)
 (.seq
 (.seq
 (.set 10 (.const (.bool true)))
 .skip)
 (.seq
 (.chk [(.var 10)])
 (.seq
 (.clr [10])
 (.seq
 (.chk [(.const (.agg #[(.int .u64 0), (.int .i64 0), (.int .i64 0), (.int .i64 0)]))])
 (.seq
 (.call (some 9) 63 [(.var 11), (.var 12)] [(.ld none (.offp 3 (.var 3))), (.ld none (.offp 54 (.var 3))), (.ld none (.offp 53 (.var 3))), (.ld none (.offp 2 (.nn (.var 14)))), (.ld none (.offp 5 (.var 5))), (.ld (some 32) (.offp 21 (.var 3))), (.ld none (.offp 1 (.nn (.var 13)))), (.ld none (.offp 5 (.var 5)))])
 (.seq
 (.newR 0 10 141 (.const (.agg #[(.int .u64 0), (.int .i64 0), (.int .i64 0), (.int .i64 0)])))
 (.seq
 (.store 4 (.var 10) (.var 9) [])
 .skip))))))))))))))
 (.seq
 (.seq
 (.chk [(.upd 2 1 (.upd 0 1 (.const zA0) (.ld none (.offp 3 (.var 10)))) (.ld none (.offp 0 (.var 10))))])
 (.store 4 (.var 2) (.upd 2 1 (.upd 0 1 (.const zA0) (.ld none (.offp 3 (.var 10)))) (.ld none (.offp 0 (.var 10)))) []))
 .ret))))),
  [(.ld (some 4) (.var 2))]⟩
theorem okx_28 : FnOk Tryz.prog 3 365 28 xf28 := fnOk_of Tryz.func28 (np := 2) (V := [0, 1, 4, 3, 15, 6, 5, 7, 22, 42, 8, 27, 41, 24, 31]) (ks := []) (by kernel_rfl)

/- (*tipstaff/gate.Kernel).byAny -/
def xf29 : XF := ⟨2, [0, 1, 4, 3, 14, 6, 5, 7, 21, 23, 24, 40, 46, 55, 60, 62],
  (.seq
 (.seq
 (.new (some 3) 43 (.var 1))
 (.new (some 2) 29 (.const zA0)))
 (.seq
 (.seq
 (.call (some 4) 55 [(.var 0), (.ld none (.offp 0 (.var 3))), (.ld none (.offp 2 (.var 3))), (.const (.int .i64 0))] [])
 (.seq
 (.chk [(.proj 2 (.var 4)), (.proj 1 (.var 4)), (.proj 0 (.var 4))])
 (.seq
 (.new (some 5) 80 (.const zA6))
 (.seq
 (.set 6 (.proj 0 (.var 4)))
 (.seq
 (.store 7 (.var 5) (.proj 1 (.var 4)) [])
 (.set 7 (.proj 2 (.var 4))))))))
 (.seq
 (.cond (.bin .neq (.var 7) (.const (.int .i64 0)))
 (.seq
 (.seq
 (.call (some 8) 25 [(.var 7)] [])
 (.store 4 (.var 2) (.var 8) []))
 .ret)
 .skip)
 (.seq
 (.seq
 (.set 9 (.ld none (.offp 1 (.var 3))))
 (.block 0
 (.seq
 (.set 10 (.bin .eql (.var 9) (.const (.int .i64 8))))
 (.cond (.var 10)
 (.seq
 (.seq
 .skip
 (.call none 64 [(.ld none (.ixArr 4 1 (.offp 3 (.nn (.var 0))) (.ld none (.offp 0 (.var 3))))), (.ld none (.offp 2 (.var 3)))] []))
 (.seq
 (.call none 65 [(.var 0), (.var 6)] [])
 (.seq
 (.store 4 (.var 2) (.const zA0) [])
 .ret)))
 (.seq
 (.set 11 (.bin .eql (.var 9) (.const (.int .i64 9))))
 (.cond (.var 11)
 (.seq
 (.seq
 (.call (some 12) 66 [(.var 0), (.ld none (.offp 0 (.var 3))), (.var 6)] [])
 (.store 4 (.var 2) (.var 12) []))
 .ret)
 .skip))))))
 (.seq
 (.cond (.pick (.bin .lss (.ld none (.offp 3 (.var 3))) (.const (.int .i64 0))) (.const (.bool true)) (.bin .geq (.ld none (.offp 3 (.var 3))) (.const (.int .i64 4))))
 (.seq
 (.seq
 (.call (some 13) 25 [(.const (.int .i64 22))] [])
 (.store 4 (.var 2) (.var 13) []))
 .ret)
 .skip)
 (.seq
 (.seq
 (.call (some 14) 66 [(.var 0), (.ld none (.offp 3 (.var 3))), (.var 6)] [])
 (.seq
 (.call (some 15) 25 [(.part none 0 (.var 14))] [])
 (.store 4 (.var 2) (.var 15) [])))
 .ret)))))),
  [(.ld (some 4) (.var 2))]⟩
theorem okx_29 : FnOk Tryz.prog 3 365 29 xf29 := fnOk_of Tryz.func29 (np := 2) (V := [0, 1, 4, 3, 14, 6, 5, 7, 21, 23, 24, 40, 46, 55, 60, 62]) (ks := []) (by kernel_rfl)

/- (*tipstaff/gate.Kernel).byFirst -/
def xf30 : XF := ⟨2, [0, 1, 4, 3, 13, 15, 16, 20, 21, 30, 5, 6, 46, 7, 8, 52, 56, 9, 60, 66],
  (.seq
 (.seq
 (.new (some 3) 43 (.var 1))
 (.new (some 2) 29 (.const zA0)))
 (.seq
 (.cond (.bin .neq (.ld none (.offp 0 (.var 3))) (.const (.int .i64 0)))
 (.seq
 (.seq
 (.call (some 4) 25 [(.const (.int .i64 1))] [])
 (.store 4 (.var 2) (.var 4) []))
 .ret)
 .skip)
 (.seq
 (.seq
 (.set 5 (.ld none (.offp 1 (.var 3))))
 (.block 0
 (.seq
 (.set 6 (.bin .eql (.var 5) (.const (.int .i64 11))))
 (.cond (.var 6)
 (.seq
 (.seq
 (.call (some 7) 67 [(.var 0), (.ld (some 55) (.var 3))] [])
 (.store 4 (.var 2) (.var 7) []))
 .ret)
 (.seq
 (.set 8 (.bin .eql (.var 5) (.const (.int .i64 13))))
 (.cond (.var 8)
 (.seq
 (.seq
 .skip
 (.seq
 (.call (some 9) 68 [(.ld none (.offp 0 (.nn (.var 0)))), (.ld none (.offp 3 (.var 3)))] [])
 (.seq
 (.chk [(.proj 1 (.var 9))])
 (.seq
 (.set 10 (.proj 0 (.var 9)))
 (.set 11 (.proj 1 (.var 9)))))))
 (.seq
 (.seq
 (.chk [(.upd 2 1 (.upd 0 1 (.const zA0) (.var 11)) (.conv .u64 (.var 10)))])
 (.store 4 (.var 2) (.upd 2 1 (.upd 0 1 (.const zA0) (.var 11)) (.conv .u64 (.var 10))) []))
 .ret))
 .skip))))))
 (.seq
 (.seq
 .skip
 (.seq
 (.call (some 12) 69 [(.ld none (.offp 0 (.nn (.var 0)))), (.ld none (.offp 3 (.var 3))), (.ld (some 6) (.offp 8 (.var 3)))] [])
 (.seq
 (.chk [(.proj 1 (.var 12))])
 (.seq
 (.set 13 (.proj 0 (.var 12)))
 (.set 14 (.proj 1 (.var 12)))))))
 (.seq
 (.cond (.bin .neq (.var 14) (.const (.int .i64 0)))
 (.seq
 (.seq
 (.call (some 15) 25 [(.var 14)] [])
 (.store 4 (.var 2) (.var 15) []))
 .ret)
 .skip)
 (.seq
 (.seq
 (.seq
 (.call (some 16) 70 [(.var 0), (.ld none (.offp 0 (.var 3)))] [])
 (.set 17 (.var 16)))
 (.cond (.bin .neq (.var 17) (.const (.int .i64 0)))
 (.seq
 (.seq
 (.call (some 18) 25 [(.var 17)] [])
 (.store 4 (.var 2) (.var 18) []))
 .ret)
 .skip))
 (.seq
 (.seq
 (.chk [(.upd 6 1 (.upd 1 1 (.const zA6) (.const (.int .i64 3))) (.var 13))])
 (.seq
 (.call (some 19) 71 [(.var 0), (.ld none (.offp 0 (.var 3))), (.upd 6 1 (.upd 1 1 (.const zA6) (.const (.int .i64 3))) (.var 13))] [])
 (.store 4 (.var 2) (.var 19) [])))
 .ret))))))),
  [(.ld (some 4) (.var 2))]⟩
theorem okx_30 : FnOk Tryz.prog 3 365 30 xf30 := fnOk_of Tryz.func30 (np := 2) (V := [0, 1, 4, 3, 13, 15, 16, 20, 21, 30, 5, 6, 46, 7, 8, 52, 56, 9, 60, 66]) (ks := []) (by kernel_rfl)

/- tipstaff/digest.Hex -/
def xf31 : XF := ⟨1, [0, 2, 1, 3, 7, 6, 5, 17, 18],
  (.seq
 (.seq
 (.new (some 2) 40 (.var 0))
 (.set 1 (.const (.string ⟨#[]⟩))))
 (.seq
 (.set 3 (.const (.slice none 0 0)))
 (.seq
 (.seq
 (.seq
 (.set 5 (.ld (some 32) (.var 2)))
 (.set 4 (.const (.int .i64 0))))
 (.block 0
 (.loop [3, 4, 5]
 (.seq
 (.cond (.bin .lss (.var 4) (.const (.int .i64 32)))
 .skip
 (.exit 0))
 (.seq
 (.block 1
 (.seq
 (.set 6 (.idxAgg none 1 32 (.var 5) (.var 4)))
 (.seq
 .skip
 (.seq
 (.chk [(.idxStr (.const (.string ⟨#[48, 49, 50, 51, 52, 53, 54, 55, 56, 57, 97, 98, 99, 100, 101, 102]⟩)) (.bin .and (.var 6) (.const (.int .u8 15)))), (.idxStr (.const (.string ⟨#[48, 49, 50, 51, 52, 53, 54, 55, 56, 57, 97, 98, 99, 100, 101, 102]⟩)) (.bin .shr (.var 6) (.const (.int .u64 4)))), (.var 3)])
 (.seq
 (.row (some 7) 5 2 (.upd 1 1 (.upd 0 1 (.const (.agg #[(.int .u8 0), (.int .u8 0)])) (.idxStr (.const (.string ⟨#[48, 49, 50, 51, 52, 53, 54, 55, 56, 57, 97, 98, 99, 100, 101, 102]⟩)) (.bin .shr (.var 6) (.const (.int .u64 4))))) (.idxStr (.const (.string ⟨#[48, 49, 50, 51, 52, 53, 54, 55, 56, 57, 97, 98, 99, 100, 101, 102]⟩)) (.bin .and (.var 6) (.const (.int .u8 15))))))
 (.seq
 (.app (some 8) 5 1 (.var 3) (.var 7) [])
 (.set 3 (.var 8))))))))
 (.set 4 (.bin .add (.var 4) (.const (.int .i64 1)))))))))
 (.seq
 (.set 1 (.bstr (.var 3)))
 .ret)))),
  [(.var 1)]⟩
theorem okx_31 : FnOk Tryz.prog 3 365 31 xf31 := fnOk_of Tryz.func31 (np := 1) (V := [0, 2, 1, 3, 7, 6, 5, 17, 18]) (ks := [[3, 4, 5]]) (by kernel_rfl)

/- tipstaff/digest.Sum -/
def xf32 : XF := ⟨1, [0, 2, 7, 9, 3, 11, 12, 18, 19, 25, 26, 4, 27, 5, 36, 6],
  (.seq
 (.new (some 1) 40 (.const (.agg (Array.replicate 32 (.int .u8 0)))))
 (.seq
 (.seq
 (.row (some 2) 5 0 (.const (.agg #[])))
 (.seq
 (.app (some 3) 5 1 (.var 2) (.var 0) [])
 (.set 4 (.var 3))))
 (.seq
 (.seq
 (.chk [(.var 4)])
 (.seq
 (.row (some 5) 5 1 (.upd 0 1 (.const (.agg #[(.int .u8 0)])) (.const (.int .u8 128))))
 (.seq
 (.app (some 6) 5 1 (.var 4) (.var 5) [])
 (.set 4 (.var 6)))))
 (.seq
 (.block 0
 (.loop [0, 1, 4]
 (.seq
 (.cond (.bin .neq (.bin .rem (.len false (.var 4)) (.const (.int .i64 64))) (.const (.int .i64 56)))
 .skip
 (.exit 0))
 (.block 1
 (.seq
 (.chk [(.var 4)])
 (.seq
 (.row (some 7) 5 1 (.upd 0 1 (.const (.agg #[(.int .u8 0)])) (.const (.int .u8 0))))
 (.seq
 (.app (some 8) 5 1 (.var 4) (.var 7) [])
 (.set 4 (.var 8)))))))))
 (.seq
 (.seq
 (.chk [(.var 4)])
 (.seq
 (.call (some 9) 72 [(.bin .mul (.const (.int .u64 8)) (.conv .u64 (.len false (.var 0))))] [])
 (.seq
 (.app (some 10) 5 1 (.var 4) (.var 9) [])
 (.set 4 (.var 10)))))
 (.seq
 (.seq
 (.set 12 (.ld (some 8) (.const (.pointer (some ⟨0, 0, none⟩)))))
 (.seq
 (.new (some 11) 155 (.const (.agg (Array.replicate 8 (.int .u32 0)))))
 (.store 8 (.var 11) (.var 12) [])))
 (.seq
 (.block 2
 (.loop [1, 4, 11]
 (.seq
 (.cond (.bin .gtr (.len false (.var 4)) (.const (.int .i64 0)))
 .skip
 (.exit 2))
 (.seq
 (.block 3
 (.call none 73 [(.var 11), (.slSl 1 (.var 4) (.const (.int .i64 0)) (.const (.int .i64 64)))] []))
 (.set 4 (.slSl 1 (.var 4) (.const (.int .i64 64)) (.len false (.var 4))))))))
 (.seq
 (.new (some 13) 40 (.const (.agg (Array.replicate 32 (.int .u8 0)))))
 (.seq
 (.seq
 (.set 14 (.const (.int .i64 0)))
 (.block 4
 (.loop [1, 11, 13, 14]
 (.seq
 (.cond (.bin .lss (.var 14) (.const (.int .i64 32)))
 .skip
 (.exit 4))
 (.seq
 (.block 5
 (.seq
 (.set 15 (.var 14))
 (.store 1 (.ixArr 32 1 (.var 13) (.var 15)) (.conv .u8 (.bin .shr (.ld none (.ixArr 8 1 (.var 11) (.bin .quo (.var 15) (.const (.int .i64 4))))) (.bin .sub (.const (.int .i64 24)) (.bin .mul (.const (.int .i64 8)) (.bin .rem (.var 15) (.const (.int .i64 4))))))) [])))
 (.set 14 (.bin .add (.var 14) (.const (.int .i64 1)))))))))
 (.seq
 (.store 32 (.var 1) (.ld (some 32) (.var 13)) [])
 .ret)))))))))),
  [(.ld (some 32) (.var 1))]⟩
theorem okx_32 : FnOk Tryz.prog 3 365 32 xf32 := fnOk_of Tryz.func32 (np := 1) (V := [0, 2, 7, 9, 3, 11, 12, 18, 19, 25, 26, 4, 27, 5, 36, 6]) (ks := [[0, 1, 4], [1, 4, 11], [1, 11, 13, 14]]) (by kernel_rfl)

/- (*tipstaff/fdtab.Table).Open -/
def xf33 : XF := ⟨2, [0, 1, 4, 5, 17, 6],
  (.seq
 (.seq
 (.set 2 (.const (.int .i64 0)))
 (.set 3 (.const (.int .i64 0))))
 (.seq
 (.cond (.pick (.isnil 0 false (.var 0)) (.const (.bool true)) (.bin .leq (.var 1) (.const (.int .i64 0))))
 (.seq
 (.seq
 (.set 2 (.const (.int .i64 0)))
 (.set 3 (.const (.int .i64 22))))
 .ret)
 .skip)
 (.seq
 (.seq
 (.call (some 4) 74 [(.ld none (.offp 0 (.nn (.var 0)))), (.const (.int .i64 0))] [])
 (.set 5 (.var 4)))
 (.seq
 (.cond (.bin .lss (.var 5) (.const (.int .i64 0)))
 (.seq
 (.seq
 (.set 2 (.const (.int .i64 0)))
 (.set 3 (.const (.int .i64 24))))
 .ret)
 .skip)
 (.seq
 (.store 1 (.ixSl 1 (.ld none (.offp 0 (.nn (.var 0)))) (.var 5)) (.var 1) [])
 (.seq
 (.seq
 (.set 2 (.var 5))
 (.set 3 (.const (.int .i64 0))))
 .ret)))))),
  [(.var 2), (.var 3)]⟩
theorem okx_33 : FnOk Tryz.prog 3 365 33 xf33 := fnOk_of Tryz.func33 (np := 2) (V := [0, 1, 4, 5, 17, 6]) (ks := []) (by kernel_rfl)

/- (*tipstaff/fdtab.Table).Get -/
def xf34 : XF := ⟨2, [0, 1, 4, 5, 6, 9],
  (.seq
 (.seq
 (.set 2 (.const (.int .i64 0)))
 (.set 3 (.const (.int .i64 0))))
 (.seq
 (.block 0
 (.seq
 (.set 4 (.isnil 0 false (.var 0)))
 (.cond (.var 4)
 (.seq
 (.seq
 (.set 2 (.const (.int .i64 0)))
 (.set 3 (.const (.int .i64 22))))
 .ret)
 (.seq
 (.set 5 (.pick (.pick (.bin .lss (.var 1) (.const (.int .i64 0))) (.const (.bool true)) (.bin .geq (.var 1) (.len false (.ld none (.offp 0 (.nn (.var 0))))))) (.const (.bool true)) (.bin .eql (.ld none (.ixSl 1 (.ld none (.offp 0 (.nn (.var 0)))) (.var 1))) (.const (.int .i64 0)))))
 (.cond (.var 5)
 (.seq
 (.seq
 (.set 2 (.const (.int .i64 0)))
 (.set 3 (.const (.int .i64 9))))
 .ret)
 .skip)))))
 (.seq
 (.seq
 (.set 2 (.ld none (.ixSl 1 (.ld none (.offp 0 (.nn (.var 0)))) (.var 1))))
 (.set 3 (.const (.int .i64 0))))
 .ret))),
  [(.var 2), (.var 3)]⟩
theorem okx_34 : FnOk Tryz.prog 3 365 34 xf34 := fnOk_of Tryz.func34 (np := 2) (V := [0, 1, 4, 5, 6, 9]) (ks := []) (by kernel_rfl)

/- (*tipstaff/fdtab.Table).Used -/
def xf35 : XF := ⟨1, [0, 2, 3, 13, 12, 11, 4, 5, 22, 23],
  (.seq
 (.set 1 (.const (.slice none 0 0)))
 (.seq
 (.cond (.isnil 0 false (.var 0))
 (.seq
 (.set 1 (.const (.slice none 0 0)))
 .ret)
 .skip)
 (.seq
 (.set 2 (.const (.slice none 0 0)))
 (.seq
 (.seq
 (.seq
 (.set 5 (.ld none (.offp 0 (.nn (.var 0)))))
 (.seq
 (.set 4 (.len false (.var 5)))
 (.set 3 (.const (.int .i64 0)))))
 (.block 0
 (.loop [2, 3, 4, 5]
 (.seq
 (.cond (.bin .lss (.var 3) (.var 4))
 .skip
 (.exit 0))
 (.seq
 (.block 1
 (.seq
 (.seq
 (.chk [(.ld none (.ixSl 1 (.var 5) (.var 3)))])
 (.seq
 (.set 6 (.var 3))
 (.set 7 (.ld none (.ixSl 1 (.var 5) (.var 3))))))
 (.cond (.bin .neq (.var 7) (.const (.int .i64 0)))
 (.seq
 (.chk [(.var 2)])
 (.seq
 (.row (some 8) 3 1 (.upd 0 1 (.const (.agg #[(.int .i64 0)])) (.var 6)))
 (.seq
 (.app (some 9) 3 1 (.var 2) (.var 8) [])
 (.set 2 (.var 9)))))
 .skip)))
 (.set 3 (.bin .add (.var 3) (.const (.int .i64 1)))))))))
 (.seq
 (.set 1 (.var 2))
 .ret))))),
  [(.var 1)]⟩
theorem okx_35 : FnOk Tryz.prog 3 365 35 xf35 := fnOk_of Tryz.func35 (np := 1) (V := [0, 2, 3, 13, 12, 11, 4, 5, 22, 23]) (ks := [[2, 3, 4, 5]]) (by kernel_rfl)

/- (*tipstaff/objtab.Table[tipstaff/gate.Object]).Get -/
def xf37 : XF := ⟨2, [0, 1, 4, 5, 12, 6, 7, 8],
  (.seq
 (.seq
 (.new (some 2) 80 (.const zA6))
 (.set 3 (.const (.int .i64 0))))
 (.seq
 (.seq
 (.call (some 4) 77 [(.var 0), (.var 1)] [])
 (.seq
 (.chk [(.proj 1 (.var 4))])
 (.seq
 (.set 5 (.proj 0 (.var 4)))
 (.set 6 (.proj 1 (.var 4))))))
 (.seq
 (.cond (.bin .neq (.var 6) (.const (.int .i64 0)))
 (.seq
 (.new (some 7) 80 (.const zA6))
 (.seq
 (.seq
 (.chk [(.var 6)])
 (.seq
 (.store 7 (.var 2) (.ld (some 7) (.var 7)) [])
 (.set 3 (.var 6))))
 .ret))
 .skip)
 (.seq
 (.seq
 (.store 7 (.var 2) (.ld (some 7) (.offp 0 (.nn (.var 5)))) [])
 (.set 3 (.const (.int .i64 0))))
 .ret)))),
  [(.ld (some 7) (.var 2)), (.var 3)]⟩
theorem okx_37 : FnOk Tryz.prog 3 365 37 xf37 := fnOk_of Tryz.func37 (np := 2) (V := [0, 1, 4, 5, 12, 6, 7, 8]) (ks := []) (by kernel_rfl)

/- (*tipstaff/objtab.Table[tipstaff/gate.Object]).Held -/
def xf38 : XF := ⟨2, [0, 1, 4, 10, 5, 6],
  (.seq
 (.set 2 (.const (.int .i64 0)))
 (.seq
 (.seq
 (.call (some 3) 77 [(.var 0), (.var 1)] [])
 (.seq
 (.chk [(.proj 1 (.var 3))])
 (.seq
 (.set 4 (.proj 0 (.var 3)))
 (.set 5 (.proj 1 (.var 3))))))
 (.seq
 (.cond (.bin .neq (.var 5) (.const (.int .i64 0)))
 (.seq
 (.set 2 (.const (.int .i64 0)))
 .ret)
 .skip)
 (.seq
 (.set 2 (.ld none (.offp 7 (.nn (.var 4)))))
 .ret)))),
  [(.var 2)]⟩
theorem okx_38 : FnOk Tryz.prog 3 365 38 xf38 := fnOk_of Tryz.func38 (np := 2) (V := [0, 1, 4, 10, 5, 6]) (ks := []) (by kernel_rfl)

/- slices.Clone[[]int,int] -/
def xf39 : XF := ⟨1, [0, 2, 5, 7],
  (.seq
 (.set 1 (.const (.slice none 0 0)))
 (.seq
 (.cond (.isnil 1 false (.var 0))
 (.seq
 (.set 1 (.const (.slice none 0 0)))
 .ret)
 .skip)
 (.seq
 (.seq
 (.row (some 2) 3 0 (.const (.agg #[])))
 (.seq
 (.app (some 3) 3 1 (.var 2) (.var 0) [])
 (.set 1 (.var 3))))
 .ret))),
  [(.var 1)]⟩
theorem okx_39 : FnOk Tryz.prog 3 365 39 xf39 := fnOk_of Tryz.func39 (np := 1) (V := [0, 2, 5, 7]) (ks := []) (by kernel_rfl)

/- (*tipstaff/gate.Kernel).named -/
def xf40 : XF := ⟨1, [0, 2, 11, 3, 12, 4, 17, 19, 18, 6, 22, 26, 25, 31, 33, 32, 8, 36, 40, 39, 38, 10, 46],
  (.seq
 (.set 1 (.const (.map none)))
 (.seq
 (.seq
 (.mkmap (some 2) .i64 [])
 (.set 3 (.var 2)))
 (.seq
 (.seq
 (.set 4 (.const (.int .i64 0)))
 (.block 0
 (.loop [0, 3, 4]
 (.seq
 (.cond (.bin .lss (.var 4) (.const (.int .i64 4)))
 .skip
 (.exit 0))
 (.seq
 (.block 1
 (.seq
 (.set 5 (.var 4))
 (.seq
 (.seq
 (.call (some 6) 12 [(.var 0), (.var 5)] [])
 (.seq
 (.set 8 (.len false (.var 6)))
 (.set 7 (.const (.int .i64 0)))))
 (.block 2
 (.loop [0, 3, 4, 6, 7, 8]
 (.seq
 (.cond (.bin .lss (.var 7) (.var 8))
 .skip
 (.exit 2))
 (.seq
 (.block 3
 (.seq
 (.seq
 (.set 10 (.ld (some 2) (.ixSl 2 (.var 6) (.var 7))))
 (.seq
 (.new (some 9) 54 (.const (.agg #[(.int .i64 0), (.int .i64 0)])))
 (.store 2 (.var 9) (.var 10) [])))
 (.seq
 (.chk [(.var 3)])
 (.seq
 (.set 12 (.ld none (.ixArr 2 1 (.var 9) (.const (.int .i64 1)))))
 (.seq
 (.look (some 11) (.int .i64 0) false .i64 (.var 3) (.var 12) [])
 (.upd .i64 (.var 3) (.var 12) (.bin .add (.var 11) (.const (.int .i64 1))) []))))))
 (.set 7 (.bin .add (.var 7) (.const (.int .i64 1)))))))))))
 (.set 4 (.bin .add (.var 4) (.const (.int .i64 1)))))))))
 (.seq
 (.seq
 (.seq
 (.call (some 13) 13 [(.var 0)] [])
 (.seq
 (.set 15 (.len false (.var 13)))
 (.set 14 (.const (.int .i64 0)))))
 (.block 4
 (.loop [3, 13, 14, 15]
 (.seq
 (.cond (.bin .lss (.var 14) (.var 15))
 .skip
 (.exit 4))
 (.seq
 (.block 5
 (.seq
 (.seq
 (.set 17 (.ld (some 7) (.ixSl 7 (.var 13) (.var 14))))
 (.seq
 (.new (some 16) 80 (.const zA6))
 (.store 7 (.var 16) (.var 17) [])))
 (.seq
 (.seq
 (.set 20 (.ld none (.offp 3 (.var 16))))
 (.seq
 (.set 19 (.len false (.var 20)))
 (.set 18 (.const (.int .i64 0)))))
 (.block 6
 (.loop [3, 13, 14, 15, 18, 19, 20]
 (.seq
 (.cond (.bin .lss (.var 18) (.var 19))
 .skip
 (.exit 6))
 (.seq
 (.block 7
 (.seq
 (.set 21 (.ld none (.ixSl 1 (.var 20) (.var 18))))
 (.seq
 (.look (some 22) (.int .i64 0) false .i64 (.var 3) (.var 21) [])
 (.upd .i64 (.var 3) (.var 21) (.bin .add (.var 22) (.const (.int .i64 1))) []))))
 (.set 18 (.bin .add (.var 18) (.const (.int .i64 1)))))))))))
 (.set 14 (.bin .add (.var 14) (.const (.int .i64 1)))))))))
 (.seq
 (.set 1 (.var 3))
 .ret))))),
  [(.var 1)]⟩
theorem okx_40 : FnOk Tryz.prog 3 365 40 xf40 := fnOk_of Tryz.func40 (np := 1) (V := [0, 2, 11, 3, 12, 4, 17, 19, 18, 6, 22, 26, 25, 31, 33, 32, 8, 36, 40, 39, 38, 10, 46]) (ks := [[0, 3, 4], [0, 3, 4, 6, 7, 8], [3, 13, 14, 15], [3, 13, 14, 15, 18, 19, 20]]) (by kernel_rfl)

/- tipstaff/loader.Load -/
def xf46 : XF := ⟨4, [0, 1, 2, 3, 8, 9, 4, 23, 10, 30, 12, 11, 13, 42, 14, 51, 52, 15, 16, 68, 17, 76, 73, 77, 79, 82],
  (.seq
 (.seq
 (.new (some 6) 39 (.var 0))
 (.seq
 (.set 4 (.const (.pointer none)))
 (.set 5 (.const (.int .i64 0)))))
 (.seq
 (.cond (.isnil 0 false (.var 2))
 (.seq
 (.seq
 (.set 4 (.const (.pointer none)))
 (.set 5 (.const (.int .i64 1))))
 .ret)
 .skip)
 (.seq
 (.seq
 (.seq
 (.call (some 7) 78 [(.var 2), (.ld none (.offp 0 (.var 6)))] [])
 (.set 8 (.var 7)))
 (.cond (.bin .neq (.var 8) (.const (.int .i64 0)))
 (.seq
 (.seq
 (.chk [(.var 8)])
 (.seq
 (.set 4 (.const (.pointer none)))
 (.set 5 (.var 8))))
 .ret)
 .skip))
 (.seq
 (.seq
 (.call (some 9) 54 [(.ld (some 4) (.var 6)), (.var 1)] [])
 (.seq
 (.chk [(.proj 2 (.var 9)), (.proj 1 (.var 9)), (.proj 0 (.var 9))])
 (.seq
 (.new (some 10) 40 (.const (.agg (Array.replicate 32 (.int .u8 0)))))
 (.seq
 (.set 11 (.proj 0 (.var 9)))
 (.seq
 (.store 32 (.var 10) (.proj 1 (.var 9)) [])
 (.set 12 (.proj 2 (.var 9))))))))
 (.seq
 (.cond (.bin .neq (.var 12) (.const (.int .i64 0)))
 (.seq
 (.seq
 (.chk [(.var 12)])
 (.seq
 (.set 4 (.const (.pointer none)))
 (.set 5 (.var 12))))
 .ret)
 .skip)
 (.seq
 (.seq
 (.seq
 (.call (some 13) 80 [(.var 2), (.var 11), (.var 1), (.ld none (.offp 2 (.var 6)))] [])
 (.set 14 (.var 13)))
 (.cond (.bin .neq (.var 14) (.const (.int .i64 0)))
 (.seq
 (.seq
 (.chk [(.var 14)])
 (.seq
 (.set 4 (.const (.pointer none)))
 (.set 5 (.var 14))))
 .ret)
 .skip))
 (.seq
 (.seq
 (.seq
 (.chk [(.var 11)])
 (.seq
 (.call (some 15) 86 [(.var 1), (.ld none (.offp 2 (.var 6)))] [])
 (.seq
 (.call (some 16) 85 [(.var 11), (.var 15)] [])
 (.seq
 (.chk [(.proj 1 (.var 16)), (.proj 0 (.var 16))])
 (.seq
 (.new (some 17) 175 (.const (.agg #[(.int .i64 0), (.int .i64 0)])))
 (.seq
 (.store 2 (.var 17) (.proj 0 (.var 16)) [])
 (.set 18 (.proj 1 (.var 16)))))))))
 (.cond (.bin .neq (.var 18) (.const (.int .i64 0)))
 (.seq
 (.seq
 (.chk [(.var 18)])
 (.seq
 (.set 4 (.const (.pointer none)))
 (.set 5 (.var 18))))
 .ret)
 .skip))
 (.seq
 (.cond (.ld none (.offp 5 (.offp 1 (.nn (.var 2)))))
 (.seq
 (.seq
 (.call (some 19) 87 [(.ld (some 32) (.var 10)), (.ld none (.offp 3 (.var 6))), (.var 1), (.var 3)] [])
 (.set 20 (.var 19)))
 (.cond (.bin .neq (.var 20) (.const (.int .i64 0)))
 (.seq
 (.seq
 (.chk [(.var 20)])
 (.seq
 (.set 4 (.const (.pointer none)))
 (.set 5 (.var 20))))
 .ret)
 .skip))
 .skip)
 (.seq
 (.seq
 .skip
 (.seq
 (.set 22 (.ld none (.offp 0 (.var 6))))
 (.seq
 (.chk [(.var 1), (.var 11)])
 (.seq
 (.set 23 (.ld (some 32) (.var 10)))
 (.seq
 (.set 24 (.ld none (.offp 2 (.var 6))))
 (.seq
 (.chk [(.var 2)])
 (.seq
 (.call (some 21) 88 [(.var 1)] [(.ld none (.offp 2 (.var 6))), (.ld (some 32) (.var 10)), (.ld none (.offp 0 (.var 6)))])
 (.seq
 (.chk [(.upd 36 1 (.upd 35 1 (.upd 3 32 (.upd 2 1 (.upd 1 1 (.upd 0 1 (.const zA13) (.var 22)) (.var 11)) (.var 21)) (.var 23)) (.var 24)) (.var 2))])
 (.seq
 (.new (some 25) 112 (.upd 36 1 (.upd 35 1 (.upd 3 32 (.upd 2 1 (.upd 1 1 (.upd 0 1 (.const zA13) (.var 22)) (.var 11)) (.var 21)) (.var 23)) (.var 24)) (.var 2)))
 (.seq
 (.set 4 (.var 25))
 (.set 5 (.const (.int .i64 0)))))))))))))
 .ret))))))))),
  [(.var 4), (.var 5)]⟩
theorem okx_46 : FnOk Tryz.prog 3 365 46 xf46 := fnOk_of Tryz.func46 (np := 4) (V := [0, 1, 2, 3, 8, 9, 4, 23, 10, 30, 12, 11, 13, 42, 14, 51, 52, 15, 16, 68, 17, 76, 73, 77, 79, 82]) (ks := []) (by kernel_rfl)

/- tipstaff/loader.slotted -/
def xf54 : XF := ⟨2, [0, 1, 4, 5, 6, 2, 16, 7, 8, 9, 20, 33, 25, 10, 38, 37, 36, 12, 44, 45, 46, 51],
  (.seq
 (.seq
 (.new (some 5) 39 (.var 0))
 (.seq
 (.set 2 (.const (.slice none 0 0)))
 (.seq
 (.new (some 3) 40 (.const (.agg (Array.replicate 32 (.int .u8 0)))))
 (.set 4 (.const (.int .i64 0))))))
 (.seq
 (.seq
 (.call (some 6) 99 [(.ld none (.offp 1 (.var 5)))] [])
 (.seq
 (.chk [(.proj 2 (.var 6)), (.proj 1 (.var 6))])
 (.seq
 (.set 7 (.proj 0 (.var 6)))
 (.seq
 (.set 8 (.proj 1 (.var 6)))
 (.set 9 (.proj 2 (.var 6)))))))
 (.seq
 (.block 0
 (.seq
 (.set 10 (.bin .neq (.var 9) (.const (.int .i64 0))))
 (.cond (.var 10)
 (.seq
 (.seq
 (.chk [(.var 9)])
 (.seq
 (.set 2 (.const (.slice none 0 0)))
 (.seq
 (.store 32 (.var 3) (.const (.agg (Array.replicate 32 (.int .u8 0)))) [])
 (.set 4 (.var 9)))))
 .ret)
 (.seq
 (.seq
 (.chk [(.pick (.bin .neq (.len false (.var 8)) (.len false (.var 1))) (.const (.bool false)) (.var 1))])
 (.seq
 (.cond (.pick (.bin .neq (.len false (.var 8)) (.len false (.var 1))) (.const (.bool false)) (.const (.bool true)))
 (.call (some 11) 79 [(.var 1), (.const (.pointer none))] [])
 (.clr [11]))
 (.set 12 (.pick (.bin .neq (.len false (.var 8)) (.len false (.var 1))) (.const (.bool true)) (.var 11)))))
 (.cond (.var 12)
 (.seq
 (.seq
 (.set 2 (.const (.slice none 0 0)))
 (.seq
 (.store 32 (.var 3) (.const (.agg (Array.replicate 32 (.int .u8 0)))) [])
 (.set 4 (.const (.int .i64 22)))))
 .ret)
 .skip)))))
 (.seq
 (.set 13 (.const (.slice none 0 0)))
 (.seq
 (.seq
 (.seq
 (.set 16 (.var 1))
 (.seq
 (.set 15 (.len false (.var 16)))
 (.set 14 (.const (.int .i64 0)))))
 (.block 1
 (.loop [3, 7, 13, 14, 15, 16]
 (.seq
 (.cond (.bin .lss (.var 14) (.var 15))
 .skip
 (.exit 1))
 (.seq
 (.block 2
 (.seq
 (.set 17 (.ld none (.ixSl 1 (.var 16) (.var 14))))
 (.seq
 (.chk [(.var 13)])
 (.seq
 (.call (some 18) 100 [(.var 17)] [])
 (.seq
 (.row (some 19) 40 1 (.upd 0 32 (.const (.agg (Array.replicate 32 (.int .u8 0)))) (.var 18)))
 (.seq
 (.app (some 20) 40 32 (.var 13) (.var 19) [])
 (.set 13 (.var 20))))))))
 (.set 14 (.bin .add (.var 14) (.const (.int .i64 1)))))))))
 (.seq
 (.seq
 (.call (some 21) 101 [(.var 7), (.var 13)] [])
 (.seq
 (.set 2 (.var 7))
 (.seq
 (.store 32 (.var 3) (.var 21) [])
 (.set 4 (.const (.int .i64 0))))))
 .ret)))))),
  [(.var 2), (.ld (some 32) (.var 3)), (.var 4)]⟩
theorem okx_54 : FnOk Tryz.prog 3 365 54 xf54 := fnOk_of Tryz.func54 (np := 2) (V := [0, 1, 4, 5, 6, 2, 16, 7, 8, 9, 20, 33, 25, 10, 38, 37, 36, 12, 44, 45, 46, 51]) (ks := [[3, 7, 13, 14, 15, 16]]) (by kernel_rfl)

/- (*tipstaff/gate.Kernel).object -/
def xf55 : XF := ⟨4, [0, 1, 2, 3, 8, 9, 10, 22, 11, 12, 34, 13],
  (.seq
 (.seq
 (.set 4 (.const (.int .i64 0)))
 (.seq
 (.new (some 5) 80 (.const zA6))
 (.set 6 (.const (.int .i64 0)))))
 (.seq
 (.seq
 (.call (some 7) 34 [(.ld none (.ixArr 4 1 (.offp 3 (.nn (.var 0))) (.var 1))), (.var 2)] [])
 (.seq
 (.chk [(.proj 1 (.var 7))])
 (.seq
 (.set 8 (.proj 0 (.var 7)))
 (.set 9 (.proj 1 (.var 7))))))
 (.seq
 (.cond (.bin .neq (.var 9) (.const (.int .i64 0)))
 (.seq
 (.seq
 (.set 4 (.const (.int .i64 0)))
 (.seq
 (.store 7 (.var 5) (.const zA6) [])
 (.set 6 (.const (.int .i64 9)))))
 .ret)
 .skip)
 (.seq
 (.seq
 (.call (some 10) 37 [(.ld none (.offp 2 (.nn (.var 0)))), (.var 8)] [])
 (.seq
 (.chk [(.proj 1 (.var 10)), (.proj 0 (.var 10))])
 (.seq
 (.new (some 11) 80 (.const zA6))
 (.seq
 (.store 7 (.var 11) (.proj 0 (.var 10)) [])
 (.set 9 (.proj 1 (.var 10)))))))
 (.seq
 (.cond (.pick (.bin .neq (.var 9) (.const (.int .i64 0))) (.const (.bool true)) (.pick (.bin .neq (.var 3) (.const (.int .i64 0))) (.bin .neq (.ld none (.offp 1 (.var 11))) (.var 3)) (.const (.bool false))))
 (.seq
 (.seq
 (.set 4 (.const (.int .i64 0)))
 (.seq
 (.store 7 (.var 5) (.const zA6) [])
 (.set 6 (.const (.int .i64 9)))))
 .ret)
 .skip)
 (.seq
 (.seq
 .skip
 (.seq
 (.chk [(.ld (some 7) (.var 11))])
 (.seq
 (.set 4 (.var 8))
 (.seq
 (.store 7 (.var 5) (.ld (some 7) (.var 11)) [])
 (.set 6 (.const (.int .i64 0)))))))
 .ret)))))),
  [(.var 4), (.ld (some 7) (.var 5)), (.var 6)]⟩
theorem okx_55 : FnOk Tryz.prog 3 365 55 xf55 := fnOk_of Tryz.func55 (np := 4) (V := [0, 1, 2, 3, 8, 9, 10, 22, 11, 12, 34, 13]) (ks := []) (by kernel_rfl)

/- tipstaff/token.Command -/
def xf56 : XF := ⟨2, [0, 1, 4, 6, 9],
  (.seq
 (.set 2 (.const (.int .i64 0)))
 (.seq
 (.seq
 (.call (some 3) 103 [(.var 0)] [])
 (.seq
 (.call (some 4) 102 [(.part none 0 (.var 3)), (.var 1)] [])
 (.set 2 (.var 4))))
 .ret)),
  [(.var 2)]⟩
theorem okx_56 : FnOk Tryz.prog 3 365 56 xf56 := fnOk_of Tryz.func56 (np := 2) (V := [0, 1, 4, 6, 9]) (ks := []) (by kernel_rfl)

/- (*tipstaff/gate.Kernel).progLoad -/
def xf58 : XF := ⟨4, [0, 1, 2, 3, 8, 5, 18, 9, 10, 24, 30, 11, 12, 37, 40, 41, 47, 13, 51, 61, 14, 67, 74],
  (.seq
 (.seq
 (.new (some 5) 43 (.var 1))
 (.new (some 4) 29 (.const zA0)))
 (.seq
 (.seq
 (.call (some 6) 105 [(.ld (some 4) (.offp 14 (.var 5)))] [])
 (.seq
 (.chk [(.proj 1 (.var 6))])
 (.seq
 (.set 7 (.proj 0 (.var 6)))
 (.set 8 (.proj 1 (.var 6))))))
 (.seq
 (.cond (.bin .neq (.var 8) (.const (.int .i64 0)))
 (.seq
 (.seq
 (.call (some 9) 25 [(.var 8)] [])
 (.store 4 (.var 4) (.var 9) []))
 .ret)
 .skip)
 (.seq
 (.seq
 (.call (some 10) 106 [(.var 0), (.ld none (.offp 0 (.var 5))), (.var 7)] [])
 (.seq
 (.chk [(.proj 2 (.var 10)), (.proj 1 (.var 10))])
 (.seq
 (.set 11 (.proj 0 (.var 10)))
 (.seq
 (.set 12 (.proj 1 (.var 10)))
 (.set 8 (.proj 2 (.var 10)))))))
 (.seq
 (.cond (.bin .neq (.var 8) (.const (.int .i64 0)))
 (.seq
 (.seq
 (.call (some 13) 25 [(.var 8)] [])
 (.store 4 (.var 4) (.var 13) []))
 .ret)
 .skip)
 (.seq
 (.seq
 (.chk [(.var 11)])
 (.seq
 (.row (some 14) 3 1 (.upd 0 1 (.const (.agg #[(.int .i64 0)])) (.var 2)))
 (.seq
 (.app (some 15) 3 1 (.var 11) (.var 14) [])
 (.set 11 (.var 15)))))
 (.seq
 (.seq
 (.seq
 (.call (some 16) 107 [(.var 0), (.ld (some 55) (.var 5)), (.var 3), (.var 11), (.var 12)] [])
 (.set 17 (.var 16)))
 (.cond (.bin .neq (.var 17) (.const (.int .i64 0)))
 (.seq
 (.seq
 (.call (some 18) 25 [(.var 17)] [])
 (.store 4 (.var 4) (.var 18) []))
 .ret)
 .skip))
 (.seq
 (.seq
 .skip
 (.seq
 (.call (some 19) 46 [(.ld (some 4) (.offp 14 (.var 5))), (.var 12), (.var 3), (.ld none (.offp 1 (.nn (.var 0))))] [])
 (.seq
 (.chk [(.proj 1 (.var 19))])
 (.seq
 (.set 20 (.proj 0 (.var 19)))
 (.set 8 (.proj 1 (.var 19)))))))
 (.seq
 (.cond (.bin .neq (.var 8) (.const (.int .i64 0)))
 (.seq
 (.seq
 (.call (some 21) 25 [(.var 8)] [])
 (.store 4 (.var 4) (.var 21) []))
 .ret)
 .skip)
 (.seq
 (.seq
 (.chk [(.upd 3 1 (.upd 5 1 (.upd 1 1 (.const zA6) (.const (.int .i64 2))) (.var 20)) (.var 11))])
 (.seq
 (.call (some 22) 71 [(.var 0), (.ld none (.offp 0 (.var 5))), (.upd 3 1 (.upd 5 1 (.upd 1 1 (.const zA6) (.const (.int .i64 2))) (.var 20)) (.var 11))] [])
 (.store 4 (.var 4) (.var 22) [])))
 .ret)))))))))),
  [(.ld (some 4) (.var 4))]⟩
theorem okx_58 : FnOk Tryz.prog 3 365 58 xf58 := fnOk_of Tryz.func58 (np := 4) (V := [0, 1, 2, 3, 8, 5, 18, 9, 10, 24, 30, 11, 12, 37, 40, 41, 47, 13, 51, 61, 14, 67, 74]) (ks := []) (by kernel_rfl)

/- tipstaff/vm.Run -/
def xf63 : XF := ⟨2, [0, 1, 4, 3, 14, 9, 16, 5, 6, 32, 31, 7, 36],
  (.seq
 (.seq
 (.new (some 3) 144 (.var 1))
 (.new (some 2) 141 (.const (.agg #[(.int .u64 0), (.int .i64 0), (.int .i64 0), (.int .i64 0)]))))
 (.seq
 (.seq
 .skip
 (.seq
 (.chk [(.var 0)])
 (.seq
 (.set 5 (.ld (some 36) (.var 3)))
 (.seq
 (.call (some 4) 116 [(.ld (some 32) (.offp 0 (.var 3))), (.ld none (.offp 32 (.var 3)))] [(.ld (some 36) (.var 3))])
 (.seq
 (.chk [(.upd 37 1 (.upd 1 36 (.upd 0 1 (.const zA15) (.var 0)) (.var 5)) (.var 4))])
 (.seq
 (.new (some 6) 221 (.upd 37 1 (.upd 1 36 (.upd 0 1 (.const zA15) (.var 0)) (.var 5)) (.var 4)))
 (.set 7 (.var 6))))))))
 (.seq
 (.seq
 (.chk [(.upd 0 1 (.const (.agg #[(.int .i64 0), (.int .u64 0), (.int .i64 0), (.pointer none)])) (.const (.int .i64 2)))])
 (.store 4 (.ixArr 11 4 (.offp 38 (.nn (.var 7))) (.const (.int .i64 1))) (.upd 0 1 (.const (.agg #[(.int .i64 0), (.int .u64 0), (.int .i64 0), (.pointer none)])) (.const (.int .i64 2))) []))
 (.seq
 (.seq
 (.chk [(.upd 0 1 (.const (.agg #[(.int .i64 0), (.int .u64 0), (.int .i64 0), (.pointer none)])) (.const (.int .i64 3)))])
 (.store 4 (.ixArr 11 4 (.offp 38 (.nn (.var 7))) (.const (.int .i64 10))) (.upd 0 1 (.const (.agg #[(.int .i64 0), (.int .u64 0), (.int .i64 0), (.pointer none)])) (.const (.int .i64 3))) []))
 (.seq
 (.set 8 (.mn (.mx (.ld none (.offp 35 (.var 3))) (.const (.int .i64 0))) (.const (.int .i64 4096))))
 (.seq
 (.seq
 (.seq
 (.set 10 (.var 8))
 (.set 9 (.const (.int .i64 0))))
 (.block 0
 (.loop [2, 7, 8, 9, 10]
 (.seq
 (.cond (.bin .lss (.var 9) (.var 10))
 .skip
 (.exit 0))
 (.seq
 (.block 1
 (.seq
 (.set 11 (.var 9))
 (.seq
 (.seq
 (.call (some 12) 117 [(.var 7)] [])
 (.cond (.un .not (.var 12))
 (.seq
 (.seq
 (.chk [(.upd 3 1 (.upd 2 1 (.upd 1 1 (.const (.agg #[(.int .u64 0), (.int .i64 0), (.int .i64 0), (.int .i64 0)])) (.ld none (.offp 82 (.nn (.var 7))))) (.var 11)) (.const (.int .i64 14)))])
 (.store 4 (.var 2) (.upd 3 1 (.upd 2 1 (.upd 1 1 (.const (.agg #[(.int .u64 0), (.int .i64 0), (.int .i64 0), (.int .i64 0)])) (.ld none (.offp 82 (.nn (.var 7))))) (.var 11)) (.const (.int .i64 14))) []))
 .ret)
 .skip))
 (.cond (.ld none (.offp 83 (.nn (.var 7))))
 (.seq
 (.seq
 .skip
 (.seq
 (.chk [(.upd 2 1 (.upd 1 1 (.upd 0 1 (.const (.agg #[(.int .u64 0), (.int .i64 0), (.int .i64 0), (.int .i64 0)])) (.ld none (.offp 1 (.ixArr 11 4 (.offp 38 (.nn (.var 7))) (.const (.int .i64 0)))))) (.ld none (.offp 82 (.nn (.var 7))))) (.bin .add (.var 11) (.const (.int .i64 1))))])
 (.store 4 (.var 2) (.upd 2 1 (.upd 1 1 (.upd 0 1 (.const (.agg #[(.int .u64 0), (.int .i64 0), (.int .i64 0), (.int .i64 0)])) (.ld none (.offp 1 (.ixArr 11 4 (.offp 38 (.nn (.var 7))) (.const (.int .i64 0)))))) (.ld none (.offp 82 (.nn (.var 7))))) (.bin .add (.var 11) (.const (.int .i64 1)))) [])))
 .ret)
 .skip))))
 (.set 9 (.bin .add (.var 9) (.const (.int .i64 1)))))))))
 (.seq
 (.seq
 (.chk [(.upd 3 1 (.upd 2 1 (.upd 1 1 (.const (.agg #[(.int .u64 0), (.int .i64 0), (.int .i64 0), (.int .i64 0)])) (.ld none (.offp 82 (.nn (.var 7))))) (.var 8)) (.const (.int .i64 62)))])
 (.store 4 (.var 2) (.upd 3 1 (.upd 2 1 (.upd 1 1 (.const (.agg #[(.int .u64 0), (.int .i64 0), (.int .i64 0), (.int .i64 0)])) (.ld none (.offp 82 (.nn (.var 7))))) (.var 8)) (.const (.int .i64 62))) []))
 .ret))))))),
  [(.ld (some 4) (.var 2))]⟩
theorem okx_63 : FnOk Tryz.prog 3 365 63 xf63 := fnOk_of Tryz.func63 (np := 2) (V := [0, 1, 4, 3, 14, 9, 16, 5, 6, 32, 31, 7, 36]) (ks := [[2, 7, 8, 9, 10]]) (by kernel_rfl)

/- (*tipstaff/fdtab.Table).Close -/
def xf64 : XF := ⟨2, [0, 1, 4, 5, 11, 6, 7],
  (.seq
 (.seq
 (.set 2 (.const (.int .i64 0)))
 (.set 3 (.const (.int .i64 0))))
 (.seq
 (.seq
 (.call (some 4) 34 [(.var 0), (.var 1)] [])
 (.seq
 (.chk [(.proj 1 (.var 4))])
 (.seq
 (.set 5 (.proj 0 (.var 4)))
 (.set 6 (.proj 1 (.var 4))))))
 (.seq
 (.cond (.bin .eql (.var 6) (.const (.int .i64 0)))
 (.store 1 (.ixSl 1 (.ld none (.offp 0 (.nn (.var 0)))) (.var 1)) (.const (.int .i64 0)) [])
 .skip)
 (.seq
 (.seq
 (.chk [(.var 6)])
 (.seq
 (.set 2 (.var 5))
 (.set 3 (.var 6))))
 .ret)))),
  [(.var 2), (.var 3)]⟩
theorem okx_64 : FnOk Tryz.prog 3 365 64 xf64 := fnOk_of Tryz.func64 (np := 2) (V := [0, 1, 4, 5, 11, 6, 7]) (ks := []) (by kernel_rfl)

/- (*tipstaff/gate.Kernel).drop -/
def xf65 : XF := ⟨2, [0, 1, 16, 4, 5, 27, 6, 7, 34, 33, 32, 9],
  (.seq
 (.seq
 (.call (some 2) 37 [(.ld none (.offp 2 (.nn (.var 0)))), (.var 1)] [])
 (.seq
 (.chk [(.proj 1 (.var 2)), (.proj 0 (.var 2))])
 (.seq
 (.new (some 3) 80 (.const zA6))
 (.seq
 (.store 7 (.var 3) (.proj 0 (.var 2)) [])
 (.set 4 (.proj 1 (.var 2)))))))
 (.seq
 (.cond (.bin .neq (.var 4) (.const (.int .i64 0)))
 .ret
 .skip)
 (.seq
 (.seq
 (.call (some 5) 118 [(.ld none (.offp 2 (.nn (.var 0)))), (.var 1)] [])
 (.seq
 (.chk [(.proj 1 (.var 5))])
 (.seq
 (.set 6 (.proj 0 (.var 5)))
 (.set 7 (.proj 1 (.var 5))))))
 (.cond (.var 6)
 (.seq
 (.seq
 (.set 10 (.ld none (.offp 3 (.var 3))))
 (.seq
 (.set 9 (.len false (.var 10)))
 (.set 8 (.const (.int .i64 0)))))
 (.block 0
 (.loop [0, 8, 9, 10]
 (.seq
 (.cond (.bin .lss (.var 8) (.var 9))
 .skip
 (.exit 0))
 (.seq
 (.block 1
 (.seq
 (.set 11 (.ld none (.ixSl 1 (.var 10) (.var 8))))
 (.call none 65 [(.var 0), (.var 11)] [])))
 (.set 8 (.bin .add (.var 8) (.const (.int .i64 1)))))))))
 .skip)))),
  []⟩
theorem okx_65 : FnOk Tryz.prog 3 365 65 xf65 := fnOk_of Tryz.func65 (np := 2) (V := [0, 1, 16, 4, 5, 27, 6, 7, 34, 33, 32, 9]) (ks := [[0, 8, 9, 10]]) (by kernel_rfl)

/- (*tipstaff/gate.Kernel).give -/
def xf66 : XF := ⟨3, [0, 1, 2, 6, 16, 18, 24, 7, 28, 37, 8, 9],
  (.seq
 (.new (some 3) 29 (.const zA0))
 (.seq
 (.seq
 (.call (some 4) 119 [(.ld none (.ixArr 4 1 (.offp 3 (.nn (.var 0))) (.var 1)))] [])
 (.cond (.bin .eql (.var 4) (.const (.int .i64 0)))
 (.seq
 (.seq
 (.call (some 5) 25 [(.const (.int .i64 24))] [])
 (.store 4 (.var 3) (.var 5) []))
 .ret)
 .skip))
 (.seq
 (.seq
 (.seq
 (.call (some 6) 120 [(.ld none (.offp 2 (.nn (.var 0)))), (.var 2)] [])
 (.set 7 (.var 6)))
 (.cond (.bin .neq (.var 7) (.const (.int .i64 0)))
 (.seq
 (.seq
 (.call (some 8) 25 [(.var 7)] [])
 (.store 4 (.var 3) (.var 8) []))
 .ret)
 .skip))
 (.seq
 (.seq
 (.call (some 9) 33 [(.ld none (.ixArr 4 1 (.offp 3 (.nn (.var 0))) (.var 1))), (.var 2)] [])
 (.seq
 (.chk [(.proj 1 (.var 9))])
 (.seq
 (.set 10 (.proj 0 (.var 9)))
 (.set 11 (.proj 1 (.var 9))))))
 (.seq
 (.seq
 (.chk [(.upd 1 1 (.upd 0 1 (.const zA0) (.var 11)) (.var 10))])
 (.store 4 (.var 3) (.upd 1 1 (.upd 0 1 (.const zA0) (.var 11)) (.var 10)) []))
 .ret))))),
  [(.ld (some 4) (.var 3))]⟩
theorem okx_66 : FnOk Tryz.prog 3 365 66 xf66 := fnOk_of Tryz.func66 (np := 3) (V := [0, 1, 2, 6, 16, 18, 24, 7, 28, 37, 8, 9]) (ks := []) (by kernel_rfl)

/- tipstaff/token.Root -/
def xf69 : XF := ⟨3, [0, 1, 2, 6, 7, 5, 13, 8, 9, 20, 19, 21, 26],
  (.seq
 (.seq
 (.new (some 5) 33 (.var 2))
 (.seq
 (.set 3 (.const (.pointer none)))
 (.set 4 (.const (.int .i64 0)))))
 (.seq
 (.seq
 (.seq
 (.call (some 6) 81 [(.var 0), (.var 1)] [])
 (.seq
 (.chk [(.proj 1 (.var 6))])
 (.seq
 (.set 7 (.proj 0 (.var 6)))
 (.set 8 (.proj 1 (.var 6))))))
 (.cond (.bin .neq (.var 8) (.const (.int .i64 0)))
 (.seq
 (.seq
 (.chk [(.var 8)])
 (.seq
 (.set 3 (.const (.pointer none)))
 (.set 4 (.var 8))))
 .ret)
 .skip))
 (.seq
 (.seq
 (.seq
 .skip
 (.seq
 (.set 10 (.ld (some 6) (.var 5)))
 (.seq
 (.call (some 9) 7 [] [(.ld (some 6) (.var 5))])
 (.call (some 11) 82 [(.var 10), (.var 9)] []))))
 (.cond (.un .not (.var 11))
 (.seq
 (.seq
 (.set 3 (.const (.pointer none)))
 (.set 4 (.const (.int .i64 1))))
 .ret)
 .skip))
 (.seq
 (.seq
 (.chk [(.upd 1 6 (.upd 0 1 (.const zA7) (.var 1)) (.ld (some 6) (.var 5)))])
 (.seq
 (.new (some 12) 170 (.upd 1 6 (.upd 0 1 (.const zA7) (.var 1)) (.ld (some 6) (.var 5))))
 (.seq
 (.set 3 (.var 12))
 (.set 4 (.const (.int .i64 0))))))
 .ret)))),
  [(.var 3), (.var 4)]⟩
theorem okx_69 : FnOk Tryz.prog 3 365 69 xf69 := fnOk_of Tryz.func69 (np := 3) (V := [0, 1, 2, 6, 7, 5, 13, 8, 9, 20, 19, 21, 26]) (ks := []) (by kernel_rfl)

/- (*tipstaff/gate.Kernel).room -/
def xf70 : XF := ⟨2, [0, 1, 4, 12, 5, 19, 14],
  (.seq
 (.set 2 (.const (.int .i64 0)))
 (.seq
 (.block 0
 (.seq
 (.seq
 (.call (some 3) 119 [(.ld none (.ixArr 4 1 (.offp 3 (.nn (.var 0))) (.var 1)))] [])
 (.set 4 (.bin .eql (.var 3) (.const (.int .i64 0)))))
 (.cond (.var 4)
 (.seq
 (.set 2 (.const (.int .i64 24)))
 .ret)
 (.seq
 (.seq
 (.call (some 5) 36 [(.ld none (.offp 2 (.nn (.var 0))))] [])
 (.set 6 (.bin .eql (.len false (.var 5)) (.const (.int .i64 64)))))
 (.cond (.var 6)
 (.seq
 (.set 2 (.const (.int .i64 12)))
 .ret)
 .skip)))))
 (.seq
 (.set 2 (.const (.int .i64 0)))
 .ret))),
  [(.var 2)]⟩
theorem okx_70 : FnOk Tryz.prog 3 365 70 xf70 := fnOk_of Tryz.func70 (np := 2) (V := [0, 1, 4, 12, 5, 19, 14]) (ks := []) (by kernel_rfl)

/- (*tipstaff/gate.Kernel).made -/
def xf71 : XF := ⟨3, [0, 1, 2, 6, 5, 15, 14, 13, 8, 32, 9, 10, 38, 47, 11],
  (.seq
 (.seq
 (.new (some 4) 80 (.var 2))
 (.new (some 3) 29 (.const zA0)))
 (.seq
 (.seq
 (.seq
 (.set 7 (.ld none (.offp 3 (.var 4))))
 (.seq
 (.set 6 (.len false (.var 7)))
 (.set 5 (.const (.int .i64 0)))))
 (.block 0
 (.loop [0, 1, 3, 4, 5, 6, 7]
 (.seq
 (.cond (.bin .lss (.var 5) (.var 6))
 .skip
 (.exit 0))
 (.seq
 (.block 1
 (.seq
 (.set 8 (.ld none (.ixSl 1 (.var 7) (.var 5))))
 (.call none 120 [(.ld none (.offp 2 (.nn (.var 0)))), (.var 8)] [])))
 (.set 5 (.bin .add (.var 5) (.const (.int .i64 1)))))))))
 (.seq
 (.seq
 .skip
 (.seq
 (.call (some 9) 123 [(.ld none (.offp 2 (.nn (.var 0)))), (.ld (some 7) (.var 4))] [])
 (.seq
 (.chk [(.proj 1 (.var 9))])
 (.seq
 (.set 10 (.proj 0 (.var 9)))
 (.set 11 (.proj 1 (.var 9)))))))
 (.seq
 (.cond (.bin .neq (.var 11) (.const (.int .i64 0)))
 (.seq
 (.seq
 (.call (some 12) 25 [(.var 11)] [])
 (.store 4 (.var 3) (.var 12) []))
 .ret)
 .skip)
 (.seq
 (.seq
 (.call (some 13) 33 [(.ld none (.ixArr 4 1 (.offp 3 (.nn (.var 0))) (.var 1))), (.var 10)] [])
 (.seq
 (.chk [(.proj 1 (.var 13))])
 (.seq
 (.set 14 (.proj 0 (.var 13)))
 (.set 11 (.proj 1 (.var 13))))))
 (.seq
 (.seq
 (.chk [(.upd 1 1 (.upd 0 1 (.const zA0) (.var 11)) (.var 14))])
 (.store 4 (.var 3) (.upd 1 1 (.upd 0 1 (.const zA0) (.var 11)) (.var 14)) []))
 .ret)))))),
  [(.ld (some 4) (.var 3))]⟩
theorem okx_71 : FnOk Tryz.prog 3 365 71 xf71 := fnOk_of Tryz.func71 (np := 3) (V := [0, 1, 2, 6, 5, 15, 14, 13, 8, 32, 9, 10, 38, 47, 11]) (ks := [[0, 1, 3, 4, 5, 6, 7]]) (by kernel_rfl)

/- tipstaff/digest.length -/
def xf72 : XF := ⟨1, [0, 2, 3, 4, 15, 16],
  (.seq
 (.set 1 (.const (.slice none 0 0)))
 (.seq
 (.set 2 (.const (.slice none 0 0)))
 (.seq
 (.seq
 (.set 3 (.const (.int .i64 7)))
 (.block 0
 (.loop [0, 2, 3]
 (.seq
 (.cond (.bin .geq (.var 3) (.const (.int .i64 0)))
 .skip
 (.exit 0))
 (.seq
 (.block 1
 (.seq
 (.chk [(.var 2)])
 (.seq
 (.row (some 4) 5 1 (.upd 0 1 (.const (.agg #[(.int .u8 0)])) (.conv .u8 (.bin .shr (.var 0) (.bin .mul (.const (.int .i64 8)) (.var 3))))))
 (.seq
 (.app (some 5) 5 1 (.var 2) (.var 4) [])
 (.set 2 (.var 5))))))
 (.set 3 (.bin .sub (.var 3) (.const (.int .i64 1)))))))))
 (.seq
 (.set 1 (.var 2))
 .ret)))),
  [(.var 1)]⟩
theorem okx_72 : FnOk Tryz.prog 3 365 72 xf72 := fnOk_of Tryz.func72 (np := 1) (V := [0, 2, 3, 4, 15, 16]) (ks := [[0, 2, 3]]) (by kernel_rfl)

/- (*tipstaff/digest.state).work -/
def xf73 : XF := ⟨2, [0, 1, 4, 14, 16, 17, 5, 6, 7, 8, 28, 30, 33, 26, 45, 49, 9, 54, 56, 59, 75, 10, 90, 11],
  (.seq
 (.seq
 (.set 3 (.ld (some 8) (.nn (.var 0))))
 (.seq
 (.new (some 2) 155 (.const (.agg (Array.replicate 8 (.int .u32 0)))))
 (.store 8 (.var 2) (.var 3) [])))
 (.seq
 (.seq
 (.seq
 (.call (some 4) 124 [(.var 1)] [])
 (.set 5 (.const (.int .i64 0))))
 (.block 0
 (.loop [0, 2, 4, 5]
 (.seq
 (.cond (.bin .lss (.var 5) (.const (.int .i64 64)))
 .skip
 (.exit 0))
 (.seq
 (.block 1
 (.seq
 (.seq
 (.chk [(.idxAgg none 1 64 (.var 4) (.var 5))])
 (.seq
 (.set 6 (.var 5))
 (.set 7 (.idxAgg none 1 64 (.var 4) (.var 5)))))
 (.seq
 (.seq
 .skip
 (.seq
 (.chk [(.ld none (.ixArr 8 1 (.var 2) (.const (.int .i64 4))))])
 (.seq
 (.set 8 (.ld none (.ixArr 8 1 (.var 2) (.const (.int .i64 0)))))
 (.set 9 (.ld none (.ixArr 8 1 (.var 2) (.const (.int .i64 4))))))))
 (.seq
 (.seq
 .skip
 (.seq
 (.set 13 (.ld none (.ixArr 8 1 (.var 2) (.const (.int .i64 7)))))
 (.seq
 (.set 14 (.bin .xor (.bin .and (.var 9) (.ld none (.ixArr 8 1 (.var 2) (.const (.int .i64 5))))) (.bin .and (.un .xor (.var 9)) (.ld none (.ixArr 8 1 (.var 2) (.const (.int .i64 6)))))))
 (.seq
 (.chk [(.ixArr 64 1 (.const (.pointer (some ⟨1, 0, none⟩))) (.var 6))])
 (.seq
 (.set 15 (.ld none (.ixArr 64 1 (.const (.pointer (some ⟨1, 0, none⟩))) (.var 6))))
 (.seq
 (.chk [(.var 7)])
 (.seq
 (.call (some 10) 125 [(.var 9), (.const (.int .i64 6))] [(.ld none (.ixArr 64 1 (.const (.pointer (some ⟨1, 0, none⟩))) (.var 6))), (.ld none (.ixArr 8 1 (.var 2) (.const (.int .i64 6)))), (.ld none (.ixArr 8 1 (.var 2) (.const (.int .i64 5)))), (.ld none (.ixArr 8 1 (.var 2) (.const (.int .i64 7))))])
 (.seq
 (.call (some 11) 125 [(.var 9), (.const (.int .i64 11))] [(.ld none (.ixArr 64 1 (.const (.pointer (some ⟨1, 0, none⟩))) (.var 6))), (.ld none (.ixArr 8 1 (.var 2) (.const (.int .i64 6)))), (.ld none (.ixArr 8 1 (.var 2) (.const (.int .i64 5)))), (.ld none (.ixArr 8 1 (.var 2) (.const (.int .i64 7))))])
 (.seq
 (.chk [(.bin .xor (.var 10) (.var 11))])
 (.seq
 (.call (some 12) 125 [(.var 9), (.const (.int .i64 25))] [(.ld none (.ixArr 64 1 (.const (.pointer (some ⟨1, 0, none⟩))) (.var 6))), (.ld none (.ixArr 8 1 (.var 2) (.const (.int .i64 6)))), (.ld none (.ixArr 8 1 (.var 2) (.const (.int .i64 5)))), (.ld none (.ixArr 8 1 (.var 2) (.const (.int .i64 7))))])
 (.set 16 (.bin .add (.bin .add (.bin .add (.bin .add (.var 13) (.bin .xor (.bin .xor (.var 10) (.var 11)) (.var 12))) (.var 14)) (.var 15)) (.var 7)))))))))))))
 (.seq
 (.seq
 .skip
 (.seq
 (.set 20 (.bin .xor (.bin .xor (.bin .and (.var 8) (.ld none (.ixArr 8 1 (.var 2) (.const (.int .i64 1))))) (.bin .and (.var 8) (.ld none (.ixArr 8 1 (.var 2) (.const (.int .i64 2)))))) (.bin .and (.ld none (.ixArr 8 1 (.var 2) (.const (.int .i64 1)))) (.ld none (.ixArr 8 1 (.var 2) (.const (.int .i64 2)))))))
 (.seq
 (.call (some 17) 125 [(.var 8), (.const (.int .i64 2))] [(.ld none (.ixArr 8 1 (.var 2) (.const (.int .i64 2)))), (.ld none (.ixArr 8 1 (.var 2) (.const (.int .i64 1)))), (.ld none (.ixArr 8 1 (.var 2) (.const (.int .i64 2)))), (.ld none (.ixArr 8 1 (.var 2) (.const (.int .i64 1))))])
 (.seq
 (.call (some 18) 125 [(.var 8), (.const (.int .i64 13))] [(.ld none (.ixArr 8 1 (.var 2) (.const (.int .i64 2)))), (.ld none (.ixArr 8 1 (.var 2) (.const (.int .i64 1)))), (.ld none (.ixArr 8 1 (.var 2) (.const (.int .i64 2)))), (.ld none (.ixArr 8 1 (.var 2) (.const (.int .i64 1))))])
 (.seq
 (.chk [(.bin .xor (.var 17) (.var 18))])
 (.seq
 (.call (some 19) 125 [(.var 8), (.const (.int .i64 22))] [(.ld none (.ixArr 8 1 (.var 2) (.const (.int .i64 2)))), (.ld none (.ixArr 8 1 (.var 2) (.const (.int .i64 1)))), (.ld none (.ixArr 8 1 (.var 2) (.const (.int .i64 2)))), (.ld none (.ixArr 8 1 (.var 2) (.const (.int .i64 1))))])
 (.set 21 (.bin .add (.bin .xor (.bin .xor (.var 17) (.var 18)) (.var 19)) (.var 20)))))))))
 (.seq
 (.seq
 .skip
 (.copy none 1 (.slArr 8 1 (.var 2) (.const (.int .i64 1)) (.const (.int .i64 8))) (.slArr 8 1 (.var 2) (.const (.int .i64 0)) (.const (.int .i64 7))) []))
 (.seq
 (.store 1 (.ixArr 8 1 (.var 2) (.const (.int .i64 0))) (.bin .add (.var 16) (.var 21)) [])
 (.store 1 (.ixArr 8 1 (.var 2) (.const (.int .i64 4))) (.bin .add (.ld none (.ixArr 8 1 (.var 2) (.const (.int .i64 4)))) (.var 16)) []))))))))
 (.set 5 (.bin .add (.var 5) (.const (.int .i64 1)))))))))
 (.seq
 (.set 22 (.const (.int .i64 0)))
 (.block 2
 (.loop [0, 2, 22]
 (.seq
 (.cond (.bin .lss (.var 22) (.const (.int .i64 8)))
 .skip
 (.exit 2))
 (.seq
 (.block 3
 (.seq
 (.set 23 (.var 22))
 (.seq
 .skip
 (.store 1 (.ixArr 8 1 (.nn (.var 0)) (.var 23)) (.bin .add (.ld none (.ixArr 8 1 (.nn (.var 0)) (.var 23))) (.ld none (.ixArr 8 1 (.var 2) (.var 23)))) []))))
 (.set 22 (.bin .add (.var 22) (.const (.int .i64 1))))))))))),
  []⟩
theorem okx_73 : FnOk Tryz.prog 3 365 73 xf73 := fnOk_of Tryz.func73 (np := 2) (V := [0, 1, 4, 14, 16, 17, 5, 6, 7, 8, 28, 30, 33, 26, 45, 49, 9, 54, 56, 59, 75, 10, 90, 11]) (ks := [[0, 2, 4, 5], [0, 2, 22]]) (by kernel_rfl)
end Go.Proofs.YtipfkfecelkhnaaGreatDoor
