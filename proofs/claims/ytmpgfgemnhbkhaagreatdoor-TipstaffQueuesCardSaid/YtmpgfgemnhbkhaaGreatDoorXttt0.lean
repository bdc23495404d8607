/- The interpreter's functions, part 0: made by program (geny.py). -/
import Derived.Test.YtmpgfgemnhbkhaaGreatDoorXttz
import Derived.Test.YtmpgfgemnhbkhaaGreatDoorProg
set_option maxRecDepth 100000
set_option linter.unusedVariables false
namespace Go.Proofs.YtmpgfgemnhbkhaaGreatDoor
open Go.Eng
/- tipstaff/bmap.New -/
def xf12 : XF := ⟨1, [0, 2, 3, 1, 8, 4, 14, 5, 20, 19, 6, 29, 32, 33, 35, 30, 37, 38, 27, 39],
  (.seq
 (.seq
 (.new (some 3) 24 (.var 0))
 (.seq
 (.set 1 (.const (.pointer none)))
 (.set 2 (.const (.int .i64 0)))))
 (.seq
 (.seq
 (.seq
 (.call (some 4) 37 [(.ld (some 4) (.var 3))] [])
 (.set 5 (.var 4)))
 (.cond (.bin .neq (.var 5) (.const (.int .i64 0)))
 (.seq
 (.seq
 (.chk [(.var 5)])
 (.seq
 (.set 1 (.const (.pointer none)))
 (.set 2 (.var 5))))
 .ret)
 .skip))
 (.seq
 (.seq
 (.chk [(.upd 0 4 (.const (.agg #[(.int .i64 0), (.int .i64 0), (.int .i64 0), (.int .i64 0), (.slice none 0 0), (.bool false), (.int .i64 0)])) (.ld (some 4) (.var 3)))])
 (.seq
 (.new (some 6) 96 (.upd 0 4 (.const (.agg #[(.int .i64 0), (.int .i64 0), (.int .i64 0), (.int .i64 0), (.slice none 0 0), (.bool false), (.int .i64 0)])) (.ld (some 4) (.var 3))))
 (.set 7 (.var 6))))
 (.seq
 (.cond (.bin .eql (.ld none (.offp 0 (.var 3))) (.const (.int .i64 0)))
 (.seq
 (.seq
 (.set 9 (.ld none (.offp 3 (.var 3))))
 (.set 8 (.const (.int .i64 0))))
 (.block 0
 (.loop [3, 7, 8, 9]
 (.seq
 (.cond (.bin .lss (.var 8) (.var 9))
 .skip
 (.exit 0))
 (.seq
 (.block 1
 (.seq
 (.set 10 (.var 8))
 (.seq
 .skip
 (.seq
 (.set 18 (.ld none (.offp 4 (.nn (.var 7)))))
 (.seq
 (.chk [(.var 10)])
 (.seq
 (.set 12 (.ld none (.offp 2 (.var 3))))
 (.seq
 (.resv 2)
 (.seq
 (.seq
 (.set 13 (.const (.bool true)))
 (.seq
 (.set 14 (.const (.bool true)))
 .skip))
 (.seq
 (.chk [(.var 13), (.var 14)])
 (.seq
 (.clr [13, 14])
 (.seq
 (.chk [(.const (.bool true)), (.pick (.bin .leq (.var 12) (.var 12)) (.pick (.bin .leq (.var 12) (.const (.int .i64 100000))) (.pick (.bin .leq (.const (.int .i64 0)) (.var 12)) (.const (.bool true)) (.nn (.const (.bool true)))) (.nn (.const (.bool true)))) (.nn (.const (.bool true)))), (.upd 0 1 (.const (.agg #[(.slice none 0 0)])) (.const (.pointer none)))])
 (.seq
 (.call (some 11) 38 [(.var 10)] [(.ld none (.offp 2 (.var 3))), (.ld none (.offp 4 (.nn (.var 7))))])
 (.seq
 (.set 15 (.bstr (.var 11)))
 (.seq
 (.mkR 0 13 5 [(.int .u8 0)] (.var 12) (.var 12))
 (.seq
 (.newR 1 14 101 (.upd 0 1 (.const (.agg #[(.slice none 0 0)])) (.var 13)))
 (.seq
 (.chk [(.upd 1 1 (.upd 0 1 (.const (.agg #[(.string ⟨#[]⟩), (.pointer none), (.int .i64 0)])) (.var 15)) (.var 14))])
 (.seq
 (.new (some 16) 103 (.upd 1 1 (.upd 0 1 (.const (.agg #[(.string ⟨#[]⟩), (.pointer none), (.int .i64 0)])) (.var 15)) (.var 14)))
 (.seq
 (.row (some 17) 97 1 (.upd 0 1 (.const (.agg #[(.pointer none)])) (.var 16)))
 (.seq
 (.app (some 19) 97 1 (.var 18) (.var 17) [])
 (.seq
 (.store 1 (.offp 4 (.nn (.var 7))) (.var 19) [])
 .skip))))))))))))))))))))
 (.set 8 (.bin .add (.var 8) (.const (.int .i64 1)))))))))
 .skip)
 (.seq
 (.seq
 (.set 1 (.var 7))
 (.set 2 (.const (.int .i64 0))))
 .ret))))),
  [(.var 1), (.var 2)]⟩
theorem okx_12 : FnOk Tryz.prog 2 377 12 xf12 := fnOk_of Tryz.func12 (np := 1) (V := [0, 2, 3, 1, 8, 4, 14, 5, 20, 19, 6, 29, 32, 33, 35, 30, 37, 38, 27, 39]) (ks := [[3, 7, 8, 9]]) (by kernel_rfl)

/- tipstaff/tipstafftop.stands -/
def xf13 : XF := ⟨0, [0, 1, 2, 3, 4],
  (.seq
 (.set 0 (.const (.bool false)))
 (.seq
 (.seq
 (.row (some 1) 5 3 (.upd 2 1 (.upd 1 1 (.upd 0 1 (.const (.agg #[(.int .u8 0), (.int .u8 0), (.int .u8 0)])) (.const (.int .u8 97))) (.const (.int .u8 98))) (.const (.int .u8 99))))
 (.seq
 badX
 (.seq
 (.call (some 3) 40 [(.var 2)] [])
 (.seq
 (.call (some 4) 39 [(.var 3)] [])
 (.seq
 (.chk [(.bin .eql (.var 4) (.const (.string ⟨#[98, 97, 55, 56, 49, 54, 98, 102, 56, 102, 48, 49, 99, 102, 101, 97, 52, 49, 52, 49, 52, 48, 100, 101, 53, 100, 97, 101, 50, 50, 50, 51, 98, 48, 48, 51, 54, 49, 97, 51, 57, 54, 49, 55, 55, 97, 57, 99, 98, 52, 49, 48, 102, 102, 54, 49, 102, 50, 48, 48, 49, 53, 97, 100]⟩)))])
 (.set 0 (.bin .eql (.var 4) (.const (.string ⟨#[98, 97, 55, 56, 49, 54, 98, 102, 56, 102, 48, 49, 99, 102, 101, 97, 52, 49, 52, 49, 52, 48, 100, 101, 53, 100, 97, 101, 50, 50, 50, 51, 98, 48, 48, 51, 54, 49, 97, 51, 57, 54, 49, 55, 55, 97, 57, 99, 98, 52, 49, 48, 102, 102, 54, 49, 102, 50, 48, 48, 49, 53, 97, 100]⟩)))))))))
 .ret)),
  [(.var 0)]⟩
theorem okx_13 : FnOk Tryz.prog 2 377 13 xf13 := fnOk_of Tryz.func13 (np := 0) (V := [0, 1, 2, 3, 4]) (ks := []) (by kernel_rfl)

/- tipstaff/tipstafftop.opens -/
def xf14 : XF := ⟨0, [0, 8, 1, 2, 13, 3, 4, 18, 5, 6],
  (.seq
 (.set 0 (.const (.bool false)))
 (.seq
 (.seq
 (.call (some 1) 41 [(.const (.int .i64 2))] [])
 (.seq
 (.chk [(.proj 1 (.var 1))])
 (.seq
 (.set 2 (.proj 0 (.var 1)))
 (.set 3 (.proj 1 (.var 1))))))
 (.seq
 (.seq
 (.call (some 4) 42 [(.var 2), (.const (.int .i64 5))] [])
 (.seq
 (.chk [(.proj 1 (.var 4))])
 (.seq
 (.set 5 (.proj 0 (.var 4)))
 (.set 6 (.proj 1 (.var 4))))))
 (.seq
 (.seq
 (.call (some 7) 43 [(.var 2), (.const (.int .i64 0))] [])
 (.seq
 (.chk [(.proj 1 (.var 7))])
 (.seq
 (.set 8 (.proj 0 (.var 7)))
 (.set 9 (.proj 1 (.var 7))))))
 (.seq
 (.set 0 (.pick (.pick (.pick (.pick (.bin .eql (.var 3) (.const (.int .i64 0))) (.bin .eql (.var 6) (.const (.int .i64 0))) (.const (.bool false))) (.bin .eql (.var 9) (.const (.int .i64 0))) (.const (.bool false))) (.bin .eql (.var 5) (.const (.int .i64 0))) (.const (.bool false))) (.bin .eql (.var 8) (.const (.int .i64 5))) (.const (.bool false))))
 .ret))))),
  [(.var 0)]⟩
theorem okx_14 : FnOk Tryz.prog 2 377 14 xf14 := fnOk_of Tryz.func14 (np := 0) (V := [0, 8, 1, 2, 13, 3, 4, 18, 5, 6]) (ks := []) (by kernel_rfl)

/- tipstaff/tipstafftop.mov -/
def xf15 : XF := ⟨2, [0, 1, 4],
  (.seq
 (.new (some 2) 32 (.const zA2))
 (.seq
 (.seq
 (.chk [(.upd 4 1 (.upd 1 1 (.upd 0 1 (.const zA2) (.const (.int .u8 183))) (.var 0)) (.var 1))])
 (.store 5 (.var 2) (.upd 4 1 (.upd 1 1 (.upd 0 1 (.const zA2) (.const (.int .u8 183))) (.var 0)) (.var 1)) []))
 .ret)),
  [(.ld (some 5) (.var 2))]⟩
theorem okx_15 : FnOk Tryz.prog 2 377 15 xf15 := fnOk_of Tryz.func15 (np := 2) (V := [0, 1, 4]) (ks := []) (by kernel_rfl)

/- tipstaff/tipstafftop.end -/
def xf16 : XF := ⟨0, [0],
  (.seq
 (.new (some 0) 32 (.const zA2))
 (.seq
 (.seq
 (.chk [(.upd 0 1 (.const zA2) (.const (.int .u8 149)))])
 (.store 5 (.var 0) (.upd 0 1 (.const zA2) (.const (.int .u8 149))) []))
 .ret)),
  [(.ld (some 5) (.var 0))]⟩
theorem okx_16 : FnOk Tryz.prog 2 377 16 xf16 := fnOk_of Tryz.func16 (np := 0) (V := [0]) (ks := []) (by kernel_rfl)

/- tipstaff/verify.Check -/
def xf17 : XF := ⟨2, [0, 1, 4, 5, 3, 14, 6, 7, 27, 8, 33, 32, 35, 9, 37, 39, 44],
  (.seq
 (.seq
 (.new (some 4) 43 (.var 1))
 (.seq
 (.new (some 2) 37 (.const (.agg #[(.int .i64 0), (.int .i64 0)])))
 (.set 3 (.const (.int .i64 0)))))
 (.seq
 (.seq
 (.seq
 (.call (some 5) 44 [(.var 0), (.ld none (.offp 2 (.var 4)))] [])
 (.seq
 (.chk [(.proj 1 (.var 5))])
 (.seq
 (.set 6 (.proj 0 (.var 5)))
 (.set 7 (.proj 1 (.var 5))))))
 (.cond (.bin .neq (.var 7) (.const (.int .i64 0)))
 (.seq
 (.cond (.bin .eql (.var 7) (.const (.int .i64 7)))
 (.seq
 (.seq
 (.chk [(.var 7)])
 (.seq
 (.store 2 (.var 2) (.const (.agg #[(.int .i64 0), (.int .i64 0)])) [])
 (.set 3 (.var 7))))
 .ret)
 .skip)
 (.seq
 (.seq
 (.chk [(.upd 0 1 (.const (.agg #[(.int .i64 0), (.int .i64 0)])) (.var 6))])
 (.seq
 (.store 2 (.var 2) (.upd 0 1 (.const (.agg #[(.int .i64 0), (.int .i64 0)])) (.var 6)) [])
 (.set 3 (.const (.int .i64 22)))))
 .ret))
 .skip))
 (.seq
 (.seq
 (.call (some 8) 45 [(.ld none (.offp 0 (.var 4))), (.const (.func (.func 46) #[] #[]))] [])
 (.cond (.var 8)
 (.seq
 (.seq
 (.store 2 (.var 2) (.const (.agg #[(.int .i64 0), (.int .i64 0)])) [])
 (.set 3 (.const (.int .i64 22))))
 .ret)
 .skip))
 (.seq
 (.set 9 (.const (.int .i64 512)))
 (.seq
 (.cond (.ld none (.offp 2 (.var 4)))
 (.set 9 (.const (.int .i64 2048)))
 .skip)
 (.seq
 (.seq
 (.chk [(.var 0)])
 (.seq
 (.set 11 (.ld (some 3) (.var 4)))
 (.seq
 (.mkmap (some 10) .i64 [])
 (.seq
 (.chk [(.upd 5 1 (.upd 1 3 (.upd 0 1 (.const (.agg #[(.slice none 0 0), (.slice none 0 0), (.slice none 0 0), (.bool false), (.slice none 0 0), (.map none), (.int .i64 0)])) (.var 0)) (.var 11)) (.var 10))])
 (.seq
 (.new (some 12) 118 (.upd 5 1 (.upd 1 3 (.upd 0 1 (.const (.agg #[(.slice none 0 0), (.slice none 0 0), (.slice none 0 0), (.bool false), (.slice none 0 0), (.map none), (.int .i64 0)])) (.var 0)) (.var 11)) (.var 10)))
 (.set 13 (.var 12)))))))
 (.seq
 (.seq
 (.chk [(.var 13)])
 (.seq
 (.call (some 14) 47 [] [])
 (.seq
 (.chk [(.upd 1 273 (.upd 0 1 (.const zA23) (.const (.int .i64 0))) (.var 14))])
 (.seq
 (.row (some 15) 132 1 (.upd 0 274 (.const zA23) (.upd 1 273 (.upd 0 1 (.const zA23) (.const (.int .i64 0))) (.var 14))))
 (.store 1 (.offp 4 (.nn (.var 13))) (.var 15) [])))))
 (.seq
 (.seq
 (.call (some 16) 48 [(.var 13), (.var 9)] [])
 (.seq
 (.chk [(.proj 1 (.var 16))])
 (.seq
 (.store 2 (.var 2) (.proj 0 (.var 16)) [])
 (.set 3 (.proj 1 (.var 16))))))
 .ret)))))))),
  [(.ld (some 2) (.var 2)), (.var 3)]⟩
theorem okx_17 : FnOk Tryz.prog 2 377 17 xf17 := fnOk_of Tryz.func17 (np := 2) (V := [0, 1, 4, 5, 3, 14, 6, 7, 27, 8, 33, 32, 35, 9, 37, 39, 44]) (ks := []) (by kernel_rfl)

/- tipstaff/vm.Run -/
def xf18 : XF := ⟨2, [0, 1, 4, 3, 14, 9, 16, 5, 6, 32, 31, 7, 36],
  (.seq
 (.seq
 (.new (some 3) 52 (.var 1))
 (.new (some 2) 46 (.const (.agg #[(.int .u64 0), (.int .i64 0), (.int .i64 0), (.int .i64 0)]))))
 (.seq
 (.seq
 .skip
 (.seq
 (.chk [(.var 0)])
 (.seq
 (.set 5 (.ld (some 36) (.var 3)))
 (.seq
 (.call (some 4) 49 [(.ld (some 32) (.offp 0 (.var 3))), (.ld none (.offp 32 (.var 3)))] [(.ld (some 36) (.var 3))])
 (.seq
 (.chk [(.upd 37 1 (.upd 1 36 (.upd 0 1 (.const zA20) (.var 0)) (.var 5)) (.var 4))])
 (.seq
 (.new (some 6) 141 (.upd 37 1 (.upd 1 36 (.upd 0 1 (.const zA20) (.var 0)) (.var 5)) (.var 4)))
 (.set 7 (.var 6))))))))
 (.seq
 (.seq
 (.chk [(.upd 0 1 (.const (.agg #[(.int .i64 0), (.int .u64 0), (.int .i64 0), (.pointer none)])) (.const (.int .i64 2)))])
 (.store 4 (.ixArr 11 4 (.offp 38 (.nn (.var 7))) (.const (.int .i64 1))) (.upd 0 1 (.const (.agg #[(.int .i64 0), (.int .u64 0), (.int .i64 0), (.pointer none)])) (.const (.int .i64 2))) []))
 (.seq
 (.seq
 (.chk [(.upd 0 1 (.const (.agg #[(.int .i64 0), (.int .u64 0), (.int .i64 0), (.pointer none)])) (.const (.int .i64 3)))])
 (.store 4 (.ixArr 11 4 (.offp 38 (.nn (.var 7))) (.const (.int .i64 10))) (.upd 0 1 (.const (.agg #[(.int .i64 0), (.int .u64 0), (.int .i64 0), (.pointer none)])) (.const (.int .i64 3))) []))
 (.seq
 (.set 8 (.mn (.mx (.ld none (.offp 35 (.var 3))) (.const (.int .i64 0))) (.const (.int .i64 4096))))
 (.seq
 (.seq
 (.seq
 (.set 10 (.var 8))
 (.set 9 (.const (.int .i64 0))))
 (.block 0
 (.loop [2, 7, 8, 9, 10]
 (.seq
 (.cond (.bin .lss (.var 9) (.var 10))
 .skip
 (.exit 0))
 (.seq
 (.block 1
 (.seq
 (.set 11 (.var 9))
 (.seq
 (.seq
 (.call (some 12) 50 [(.var 7)] [])
 (.cond (.un .not (.var 12))
 (.seq
 (.seq
 (.chk [(.upd 3 1 (.upd 2 1 (.upd 1 1 (.const (.agg #[(.int .u64 0), (.int .i64 0), (.int .i64 0), (.int .i64 0)])) (.ld none (.offp 82 (.nn (.var 7))))) (.var 11)) (.const (.int .i64 14)))])
 (.store 4 (.var 2) (.upd 3 1 (.upd 2 1 (.upd 1 1 (.const (.agg #[(.int .u64 0), (.int .i64 0), (.int .i64 0), (.int .i64 0)])) (.ld none (.offp 82 (.nn (.var 7))))) (.var 11)) (.const (.int .i64 14))) []))
 .ret)
 .skip))
 (.cond (.ld none (.offp 83 (.nn (.var 7))))
 (.seq
 (.seq
 .skip
 (.seq
 (.chk [(.upd 2 1 (.upd 1 1 (.upd 0 1 (.const (.agg #[(.int .u64 0), (.int .i64 0), (.int .i64 0), (.int .i64 0)])) (.ld none (.offp 1 (.ixArr 11 4 (.offp 38 (.nn (.var 7))) (.const (.int .i64 0)))))) (.ld none (.offp 82 (.nn (.var 7))))) (.bin .add (.var 11) (.const (.int .i64 1))))])
 (.store 4 (.var 2) (.upd 2 1 (.upd 1 1 (.upd 0 1 (.const (.agg #[(.int .u64 0), (.int .i64 0), (.int .i64 0), (.int .i64 0)])) (.ld none (.offp 1 (.ixArr 11 4 (.offp 38 (.nn (.var 7))) (.const (.int .i64 0)))))) (.ld none (.offp 82 (.nn (.var 7))))) (.bin .add (.var 11) (.const (.int .i64 1)))) [])))
 .ret)
 .skip))))
 (.set 9 (.bin .add (.var 9) (.const (.int .i64 1)))))))))
 (.seq
 (.seq
 (.chk [(.upd 3 1 (.upd 2 1 (.upd 1 1 (.const (.agg #[(.int .u64 0), (.int .i64 0), (.int .i64 0), (.int .i64 0)])) (.ld none (.offp 82 (.nn (.var 7))))) (.var 8)) (.const (.int .i64 62)))])
 (.store 4 (.var 2) (.upd 3 1 (.upd 2 1 (.upd 1 1 (.const (.agg #[(.int .u64 0), (.int .i64 0), (.int .i64 0), (.int .i64 0)])) (.ld none (.offp 82 (.nn (.var 7))))) (.var 8)) (.const (.int .i64 62))) []))
 .ret))))))),
  [(.ld (some 4) (.var 2))]⟩
theorem okx_18 : FnOk Tryz.prog 2 377 18 xf18 := fnOk_of Tryz.func18 (np := 2) (V := [0, 1, 4, 3, 14, 9, 16, 5, 6, 32, 31, 7, 36]) (ks := [[2, 7, 8, 9, 10]]) (by kernel_rfl)

/- (*tipstaff/bmap.Map).Len -/
def xf19 : XF := ⟨1, [0, 2],
  (.seq
 (.set 1 (.const (.int .i64 0)))
 (.seq
 (.cond (.isnil 0 false (.var 0))
 (.seq
 (.set 1 (.const (.int .i64 0)))
 .ret)
 .skip)
 (.seq
 (.set 1 (.len false (.ld none (.offp 4 (.nn (.var 0))))))
 .ret))),
  [(.var 1)]⟩
theorem okx_19 : FnOk Tryz.prog 2 377 19 xf19 := fnOk_of Tryz.func19 (np := 1) (V := [0, 2]) (ks := []) (by kernel_rfl)

/- (*tipstaff/bmap.Map).Lookup -/
def xf20 : XF := ⟨2, [0, 1, 4, 5, 11, 6, 7, 24],
  (.seq
 (.seq
 (.set 2 (.const (.slice none 0 0)))
 (.set 3 (.const (.int .i64 0))))
 (.seq
 (.seq
 (.call (some 4) 51 [(.var 0), (.var 1)] [])
 (.seq
 (.chk [(.proj 1 (.var 4))])
 (.seq
 (.set 5 (.proj 0 (.var 4)))
 (.set 6 (.proj 1 (.var 4))))))
 (.seq
 (.cond (.bin .neq (.var 6) (.const (.int .i64 0)))
 (.seq
 (.seq
 (.chk [(.var 6)])
 (.seq
 (.set 2 (.const (.slice none 0 0)))
 (.set 3 (.var 6))))
 .ret)
 .skip)
 (.seq
 (.seq
 (.call (some 7) 52 [(.ld none (.offp 0 (.nn (.ld none (.offp 1 (.nn (.var 5)))))))] [])
 (.seq
 (.set 2 (.var 7))
 (.set 3 (.const (.int .i64 0)))))
 .ret)))),
  [(.var 2), (.var 3)]⟩
theorem okx_20 : FnOk Tryz.prog 2 377 20 xf20 := fnOk_of Tryz.func20 (np := 2) (V := [0, 1, 4, 5, 11, 6, 7, 24]) (ks := []) (by kernel_rfl)

/- tipstaff/bmap.Check -/
def xf37 : XF := ⟨1, [0, 2, 1, 6, 10, 3, 13, 14, 22, 29, 31, 40, 46],
  (.seq
 (.seq
 (.new (some 2) 24 (.var 0))
 (.set 1 (.const (.int .i64 0))))
 (.seq
 (.seq
 (.call (some 3) 79 [(.ld none (.offp 2 (.var 2))), (.const (.int .i64 1)), (.const (.int .i64 64))] [])
 (.seq
 (.chk [(.pick (.var 3) (.ld none (.offp 3 (.var 2))) (.const (.bool false)))])
 (.seq
 (.cond (.pick (.var 3) (.const (.bool true)) (.const (.bool false)))
 (.call (some 4) 79 [(.ld none (.offp 3 (.var 2))), (.const (.int .i64 1)), (.const (.int .i64 64))] [])
 (.clr [4]))
 (.set 5 (.pick (.var 3) (.var 4) (.const (.bool false)))))))
 (.seq
 (.seq
 (.set 6 (.ld none (.offp 0 (.var 2))))
 (.block 0
 (.seq
 (.set 7 (.bin .eql (.var 6) (.const (.int .i64 0))))
 (.cond (.var 7)
 (.set 5 (.pick (.var 5) (.bin .eql (.ld none (.offp 1 (.var 2))) (.const (.int .i64 4))) (.const (.bool false))))
 (.seq
 (.seq
 (.set 8 (.bin .eql (.var 6) (.const (.int .i64 1))))
 (.cond (.var 8)
 .skip
 (.set 8 (.bin .eql (.var 6) (.const (.int .i64 2))))))
 (.cond (.var 8)
 (.seq
 (.chk [(.pick (.var 5) (.ld none (.offp 1 (.var 2))) (.const (.bool false)))])
 (.seq
 (.cond (.pick (.var 5) (.const (.bool true)) (.const (.bool false)))
 (.call (some 9) 79 [(.ld none (.offp 1 (.var 2))), (.const (.int .i64 1)), (.const (.int .i64 16))] [])
 (.clr [9]))
 (.set 5 (.pick (.var 5) (.var 9) (.const (.bool false))))))
 (.seq
 (.seq
 (.set 10 (.bin .eql (.var 6) (.const (.int .i64 3))))
 (.cond (.var 10)
 .skip
 (.set 10 (.bin .eql (.var 6) (.const (.int .i64 4))))))
 (.cond (.var 10)
 (.set 5 (.pick (.var 5) (.bin .eql (.ld none (.offp 1 (.var 2))) (.const (.int .i64 0))) (.const (.bool false))))
 (.seq
 (.set 11 (.bin .eql (.var 6) (.const (.int .i64 5))))
 (.cond (.var 11)
 (.seq
 (.chk [(.pick (.var 5) (.ld none (.offp 1 (.var 2))) (.const (.bool false)))])
 (.seq
 (.cond (.pick (.var 5) (.const (.bool true)) (.const (.bool false)))
 (.call (some 12) 79 [(.ld none (.offp 1 (.var 2))), (.const (.int .i64 5)), (.const (.int .i64 16))] [])
 (.clr [12]))
 (.set 5 (.pick (.var 5) (.var 12) (.const (.bool false))))))
 (.set 5 (.const (.bool false)))))))))))))
 (.seq
 (.cond (.un .not (.var 5))
 (.seq
 (.set 1 (.const (.int .i64 22)))
 .ret)
 .skip)
 (.seq
 (.set 1 (.const (.int .i64 0)))
 .ret))))),
  [(.var 1)]⟩
theorem okx_37 : FnOk Tryz.prog 2 377 37 xf37 := fnOk_of Tryz.func37 (np := 1) (V := [0, 2, 1, 6, 10, 3, 13, 14, 22, 29, 31, 40, 46]) (ks := []) (by kernel_rfl)

/- tipstaff/bmap.little -/
def xf38 : XF := ⟨1, [0, 2, 3, 5, 4, 14, 15],
  (.seq
 (.set 1 (.const (.slice none 0 0)))
 (.seq
 (.set 2 (.const (.slice none 0 0)))
 (.seq
 (.seq
 (.set 3 (.const (.int .i64 0)))
 (.block 0
 (.loop [0, 2, 3]
 (.seq
 (.cond (.bin .lss (.var 3) (.const (.int .i64 4)))
 .skip
 (.exit 0))
 (.seq
 (.block 1
 (.seq
 (.set 4 (.var 3))
 (.seq
 (.chk [(.var 2)])
 (.seq
 (.row (some 5) 5 1 (.upd 0 1 (.const (.agg #[(.int .u8 0)])) (.conv .u8 (.bin .shr (.var 0) (.bin .mul (.const (.int .i64 8)) (.var 4))))))
 (.seq
 (.app (some 6) 5 1 (.var 2) (.var 5) [])
 (.set 2 (.var 6)))))))
 (.set 3 (.bin .add (.var 3) (.const (.int .i64 1)))))))))
 (.seq
 (.set 1 (.var 2))
 .ret)))),
  [(.var 1)]⟩
theorem okx_38 : FnOk Tryz.prog 2 377 38 xf38 := fnOk_of Tryz.func38 (np := 1) (V := [0, 2, 3, 5, 4, 14, 15]) (ks := [[0, 2, 3]]) (by kernel_rfl)

/- tipstaff/digest.Hex -/
def xf39 : XF := ⟨1, [0, 2, 1, 3, 7, 6, 5, 17, 18],
  (.seq
 (.seq
 (.new (some 2) 49 (.var 0))
 (.set 1 (.const (.string ⟨#[]⟩))))
 (.seq
 (.set 3 (.const (.slice none 0 0)))
 (.seq
 (.seq
 (.seq
 (.set 5 (.ld (some 32) (.var 2)))
 (.set 4 (.const (.int .i64 0))))
 (.block 0
 (.loop [3, 4, 5]
 (.seq
 (.cond (.bin .lss (.var 4) (.const (.int .i64 32)))
 .skip
 (.exit 0))
 (.seq
 (.block 1
 (.seq
 (.set 6 (.idxAgg none 1 32 (.var 5) (.var 4)))
 (.seq
 .skip
 (.seq
 (.chk [(.idxStr (.const (.string ⟨#[48, 49, 50, 51, 52, 53, 54, 55, 56, 57, 97, 98, 99, 100, 101, 102]⟩)) (.bin .and (.var 6) (.const (.int .u8 15)))), (.idxStr (.const (.string ⟨#[48, 49, 50, 51, 52, 53, 54, 55, 56, 57, 97, 98, 99, 100, 101, 102]⟩)) (.bin .shr (.var 6) (.const (.int .u64 4)))), (.var 3)])
 (.seq
 (.row (some 7) 5 2 (.upd 1 1 (.upd 0 1 (.const (.agg #[(.int .u8 0), (.int .u8 0)])) (.idxStr (.const (.string ⟨#[48, 49, 50, 51, 52, 53, 54, 55, 56, 57, 97, 98, 99, 100, 101, 102]⟩)) (.bin .shr (.var 6) (.const (.int .u64 4))))) (.idxStr (.const (.string ⟨#[48, 49, 50, 51, 52, 53, 54, 55, 56, 57, 97, 98, 99, 100, 101, 102]⟩)) (.bin .and (.var 6) (.const (.int .u8 15))))))
 (.seq
 (.app (some 8) 5 1 (.var 3) (.var 7) [])
 (.set 3 (.var 8))))))))
 (.set 4 (.bin .add (.var 4) (.const (.int .i64 1)))))))))
 (.seq
 (.set 1 (.bstr (.var 3)))
 .ret)))),
  [(.var 1)]⟩
theorem okx_39 : FnOk Tryz.prog 2 377 39 xf39 := fnOk_of Tryz.func39 (np := 1) (V := [0, 2, 1, 3, 7, 6, 5, 17, 18]) (ks := [[3, 4, 5]]) (by kernel_rfl)

/- tipstaff/digest.Sum -/
def xf40 : XF := ⟨1, [0, 2, 7, 9, 3, 11, 12, 18, 19, 25, 26, 4, 27, 5, 36, 6],
  (.seq
 (.new (some 1) 49 (.const (.agg (Array.replicate 32 (.int .u8 0)))))
 (.seq
 (.seq
 (.row (some 2) 5 0 (.const (.agg #[])))
 (.seq
 (.app (some 3) 5 1 (.var 2) (.var 0) [])
 (.set 4 (.var 3))))
 (.seq
 (.seq
 (.chk [(.var 4)])
 (.seq
 (.row (some 5) 5 1 (.upd 0 1 (.const (.agg #[(.int .u8 0)])) (.const (.int .u8 128))))
 (.seq
 (.app (some 6) 5 1 (.var 4) (.var 5) [])
 (.set 4 (.var 6)))))
 (.seq
 (.block 0
 (.loop [0, 1, 4]
 (.seq
 (.cond (.bin .neq (.bin .rem (.len false (.var 4)) (.const (.int .i64 64))) (.const (.int .i64 56)))
 .skip
 (.exit 0))
 (.block 1
 (.seq
 (.chk [(.var 4)])
 (.seq
 (.row (some 7) 5 1 (.upd 0 1 (.const (.agg #[(.int .u8 0)])) (.const (.int .u8 0))))
 (.seq
 (.app (some 8) 5 1 (.var 4) (.var 7) [])
 (.set 4 (.var 8)))))))))
 (.seq
 (.seq
 (.chk [(.var 4)])
 (.seq
 (.call (some 9) 80 [(.bin .mul (.const (.int .u64 8)) (.conv .u64 (.len false (.var 0))))] [])
 (.seq
 (.app (some 10) 5 1 (.var 4) (.var 9) [])
 (.set 4 (.var 10)))))
 (.seq
 (.seq
 (.set 12 (.ld (some 8) (.const (.pointer (some ⟨0, 0, none⟩)))))
 (.seq
 (.new (some 11) 184 (.const (.agg (Array.replicate 8 (.int .u32 0)))))
 (.store 8 (.var 11) (.var 12) [])))
 (.seq
 (.block 2
 (.loop [1, 4, 11]
 (.seq
 (.cond (.bin .gtr (.len false (.var 4)) (.const (.int .i64 0)))
 .skip
 (.exit 2))
 (.seq
 (.block 3
 (.call none 81 [(.var 11), (.slSl 1 (.var 4) (.const (.int .i64 0)) (.const (.int .i64 64)))] []))
 (.set 4 (.slSl 1 (.var 4) (.const (.int .i64 64)) (.len false (.var 4))))))))
 (.seq
 (.new (some 13) 49 (.const (.agg (Array.replicate 32 (.int .u8 0)))))
 (.seq
 (.seq
 (.set 14 (.const (.int .i64 0)))
 (.block 4
 (.loop [1, 11, 13, 14]
 (.seq
 (.cond (.bin .lss (.var 14) (.const (.int .i64 32)))
 .skip
 (.exit 4))
 (.seq
 (.block 5
 (.seq
 (.set 15 (.var 14))
 (.store 1 (.ixArr 32 1 (.var 13) (.var 15)) (.conv .u8 (.bin .shr (.ld none (.ixArr 8 1 (.var 11) (.bin .quo (.var 15) (.const (.int .i64 4))))) (.bin .sub (.const (.int .i64 24)) (.bin .mul (.const (.int .i64 8)) (.bin .rem (.var 15) (.const (.int .i64 4))))))) [])))
 (.set 14 (.bin .add (.var 14) (.const (.int .i64 1)))))))))
 (.seq
 (.store 32 (.var 1) (.ld (some 32) (.var 13)) [])
 .ret)))))))))),
  [(.ld (some 32) (.var 1))]⟩
theorem okx_40 : FnOk Tryz.prog 2 377 40 xf40 := fnOk_of Tryz.func40 (np := 1) (V := [0, 2, 7, 9, 3, 11, 12, 18, 19, 25, 26, 4, 27, 5, 36, 6]) (ks := [[0, 1, 4], [1, 4, 11], [1, 11, 13, 14]]) (by kernel_rfl)

/- tipstaff/fdtab.New -/
def xf41 : XF := ⟨1, [0, 2, 3, 11, 13],
  (.seq
 (.seq
 (.set 1 (.const (.pointer none)))
 (.set 2 (.const (.int .i64 0))))
 (.seq
 (.cond (.pick (.bin .lss (.var 0) (.const (.int .i64 1))) (.const (.bool true)) (.bin .gtr (.var 0) (.const (.int .i64 16))))
 (.seq
 (.seq
 (.set 1 (.const (.pointer none)))
 (.set 2 (.const (.int .i64 22))))
 .ret)
 .skip)
 (.seq
 (.seq
 (.mk (some 3) 3 [(.int .i64 0)] (.var 0) (.var 0) [])
 (.seq
 (.chk [(.upd 0 1 (.const (.agg #[(.slice none 0 0)])) (.var 3))])
 (.seq
 (.new (some 4) 187 (.upd 0 1 (.const (.agg #[(.slice none 0 0)])) (.var 3)))
 (.seq
 (.set 1 (.var 4))
 (.set 2 (.const (.int .i64 0)))))))
 .ret))),
  [(.var 1), (.var 2)]⟩
theorem okx_41 : FnOk Tryz.prog 2 377 41 xf41 := fnOk_of Tryz.func41 (np := 1) (V := [0, 2, 3, 11, 13]) (ks := []) (by kernel_rfl)

/- (*tipstaff/fdtab.Table).Open -/
def xf42 : XF := ⟨2, [0, 1, 4, 5, 17, 6],
  (.seq
 (.seq
 (.set 2 (.const (.int .i64 0)))
 (.set 3 (.const (.int .i64 0))))
 (.seq
 (.cond (.pick (.isnil 0 false (.var 0)) (.const (.bool true)) (.bin .leq (.var 1) (.const (.int .i64 0))))
 (.seq
 (.seq
 (.set 2 (.const (.int .i64 0)))
 (.set 3 (.const (.int .i64 22))))
 .ret)
 .skip)
 (.seq
 (.seq
 (.call (some 4) 82 [(.ld none (.offp 0 (.nn (.var 0)))), (.const (.int .i64 0))] [])
 (.set 5 (.var 4)))
 (.seq
 (.cond (.bin .lss (.var 5) (.const (.int .i64 0)))
 (.seq
 (.seq
 (.set 2 (.const (.int .i64 0)))
 (.set 3 (.const (.int .i64 24))))
 .ret)
 .skip)
 (.seq
 (.store 1 (.ixSl 1 (.ld none (.offp 0 (.nn (.var 0)))) (.var 5)) (.var 1) [])
 (.seq
 (.seq
 (.set 2 (.var 5))
 (.set 3 (.const (.int .i64 0))))
 .ret)))))),
  [(.var 2), (.var 3)]⟩
theorem okx_42 : FnOk Tryz.prog 2 377 42 xf42 := fnOk_of Tryz.func42 (np := 2) (V := [0, 1, 4, 5, 17, 6]) (ks := []) (by kernel_rfl)

/- (*tipstaff/fdtab.Table).Get -/
def xf43 : XF := ⟨2, [0, 1, 4, 5, 6, 9],
  (.seq
 (.seq
 (.set 2 (.const (.int .i64 0)))
 (.set 3 (.const (.int .i64 0))))
 (.seq
 (.block 0
 (.seq
 (.set 4 (.isnil 0 false (.var 0)))
 (.cond (.var 4)
 (.seq
 (.seq
 (.set 2 (.const (.int .i64 0)))
 (.set 3 (.const (.int .i64 22))))
 .ret)
 (.seq
 (.set 5 (.pick (.pick (.bin .lss (.var 1) (.const (.int .i64 0))) (.const (.bool true)) (.bin .geq (.var 1) (.len false (.ld none (.offp 0 (.nn (.var 0))))))) (.const (.bool true)) (.bin .eql (.ld none (.ixSl 1 (.ld none (.offp 0 (.nn (.var 0)))) (.var 1))) (.const (.int .i64 0)))))
 (.cond (.var 5)
 (.seq
 (.seq
 (.set 2 (.const (.int .i64 0)))
 (.set 3 (.const (.int .i64 9))))
 .ret)
 .skip)))))
 (.seq
 (.seq
 (.set 2 (.ld none (.ixSl 1 (.ld none (.offp 0 (.nn (.var 0)))) (.var 1))))
 (.set 3 (.const (.int .i64 0))))
 .ret))),
  [(.var 2), (.var 3)]⟩
theorem okx_43 : FnOk Tryz.prog 2 377 43 xf43 := fnOk_of Tryz.func43 (np := 2) (V := [0, 1, 4, 5, 6, 9]) (ks := []) (by kernel_rfl)

/- tipstaff/cfg.Check -/
def xf44 : XF := ⟨2, [0, 1, 4, 5, 11, 6, 7, 19, 20, 8, 28],
  (.seq
 (.seq
 (.set 2 (.const (.int .i64 0)))
 (.set 3 (.const (.int .i64 0))))
 (.seq
 (.seq
 (.seq
 (.call (some 4) 83 [(.var 0)] [])
 (.seq
 (.chk [(.proj 1 (.var 4))])
 (.seq
 (.set 5 (.proj 0 (.var 4)))
 (.set 6 (.proj 1 (.var 4))))))
 (.cond (.bin .neq (.var 6) (.const (.int .i64 0)))
 (.seq
 (.seq
 (.chk [(.var 6)])
 (.seq
 (.set 2 (.var 5))
 (.set 3 (.var 6))))
 .ret)
 .skip))
 (.seq
 (.seq
 (.seq
 (.call (some 7) 85 [(.var 0)] [])
 (.seq
 (.call (some 8) 84 [(.var 7), (.const (.bool false))] [])
 (.set 9 (.var 8))))
 (.cond (.bin .geq (.var 9) (.const (.int .i64 0)))
 (.seq
 (.seq
 (.set 2 (.var 9))
 (.set 3 (.const (.int .i64 22))))
 .ret)
 .skip))
 (.seq
 (.seq
 (.seq
 (.chk [(.pick (.un .not (.var 1)) (.var 0) (.const (.bool false)))])
 (.cond (.pick (.un .not (.var 1)) (.const (.bool true)) (.const (.bool false)))
 (.call (some 10) 86 [(.var 0)] [])
 (.clr [10])))
 (.cond (.pick (.un .not (.var 1)) (.var 10) (.const (.bool false)))
 (.seq
 (.seq
 (.set 2 (.const (.int .i64 0)))
 (.set 3 (.const (.int .i64 22))))
 .ret)
 .skip))
 (.seq
 (.seq
 (.set 2 (.const (.int .i64 0)))
 (.set 3 (.const (.int .i64 0))))
 .ret))))),
  [(.var 2), (.var 3)]⟩
theorem okx_44 : FnOk Tryz.prog 2 377 44 xf44 := fnOk_of Tryz.func44 (np := 2) (V := [0, 1, 4, 5, 11, 6, 7, 19, 20, 8, 28]) (ks := []) (by kernel_rfl)

/- slices.ContainsFunc[[]tipstaff/bmap.Spec,tipstaff/bmap.Spec] -/
def xf45 : XF := ⟨2, [0, 1, 4, 7],
  (.seq
 (.set 2 (.const (.bool false)))
 (.seq
 (.seq
 (.call (some 3) 87 [(.var 0), (.var 1)] [])
 (.set 2 (.bin .geq (.var 3) (.const (.int .i64 0)))))
 .ret)),
  [(.var 2)]⟩
theorem okx_45 : FnOk Tryz.prog 2 377 45 xf45 := fnOk_of Tryz.func45 (np := 2) (V := [0, 1, 4, 7]) (ks := []) (by kernel_rfl)

/- tipstaff/verify.Check$1 -/
def xf46 : XF := ⟨1, [0, 2, 1, 4],
  (.seq
 (.seq
 (.new (some 2) 24 (.var 0))
 (.set 1 (.const (.bool false))))
 (.seq
 (.seq
 (.call (some 3) 37 [(.ld (some 4) (.var 2))] [])
 (.set 1 (.bin .neq (.var 3) (.const (.int .i64 0)))))
 .ret)),
  [(.var 1)]⟩
theorem okx_46 : FnOk Tryz.prog 2 377 46 xf46 := fnOk_of Tryz.func46 (np := 1) (V := [0, 2, 1, 4]) (ks := []) (by kernel_rfl)

/- tipstaff/absreg.Start -/
def xf47 : XF := ⟨0, [0, 1],
  (.seq
 (.new (some 0) 129 (.const zA22))
 (.seq
 (.new (some 1) 129 (.const zA22))
 (.seq
 (.seq
 (.chk [(.upd 0 1 (.const zA9) (.const (.int .i64 2)))])
 (.store 11 (.ixArr 11 11 (.offp 0 (.var 1)) (.const (.int .i64 1))) (.upd 0 1 (.const zA9) (.const (.int .i64 2))) []))
 (.seq
 (.seq
 (.chk [(.upd 0 1 (.const zA9) (.const (.int .i64 3)))])
 (.store 11 (.ixArr 11 11 (.offp 0 (.var 1)) (.const (.int .i64 10))) (.upd 0 1 (.const zA9) (.const (.int .i64 3))) []))
 (.seq
 (.store 273 (.var 0) (.ld (some 273) (.var 1)) [])
 .ret))))),
  [(.ld (some 273) (.var 0))]⟩
theorem okx_47 : FnOk Tryz.prog 2 377 47 xf47 := fnOk_of Tryz.func47 (np := 0) (V := [0, 1]) (ks := []) (by kernel_rfl)

/- (*tipstaff/verify.checker).run -/
def xf48 : XF := ⟨2, [0, 1, 4, 5, 6, 7, 8, 29, 41, 61, 63, 64, 65, 52, 54, 58, 60, 71, 9, 10, 86],
  (.seq
 (.seq
 (.new (some 2) 37 (.const (.agg #[(.int .i64 0), (.int .i64 0)])))
 (.set 3 (.const (.int .i64 0))))
 (.seq
 (.set 4 (.const (.int .i64 0)))
 (.seq
 (.block 0
 (.loop [0, 1, 2, 4]
 (.seq
 (.cond (.bin .gtr (.len false (.ld none (.offp 4 (.nn (.var 0))))) (.const (.int .i64 0)))
 .skip
 (.exit 0))
 (.block 1
 (.seq
 (.set 5 (.bin .sub (.len false (.ld none (.offp 4 (.nn (.var 0))))) (.const (.int .i64 1))))
 (.seq
 (.seq
 (.set 7 (.ld (some 274) (.ixSl 274 (.ld none (.offp 4 (.nn (.var 0)))) (.var 5))))
 (.seq
 (.new (some 6) 132 (.const zA23))
 (.store 274 (.var 6) (.var 7) [])))
 (.seq
 (.store 1 (.offp 4 (.nn (.var 0))) (.slSl 274 (.ld none (.offp 4 (.nn (.var 0)))) (.const (.int .i64 0)) (.var 5)) [])
 (.seq
 (.seq
 (.call (some 8) 88 [(.var 0), (.ld (some 274) (.var 6))] [])
 (.cond (.var 8)
 (.exit 1)
 .skip))
 (.seq
 (.cond (.bin .eql (.var 4) (.var 1))
 (.seq
 (.seq
 (.chk [(.upd 1 1 (.upd 0 1 (.const (.agg #[(.int .i64 0), (.int .i64 0)])) (.ld none (.offp 0 (.var 6)))) (.var 4))])
 (.seq
 (.store 2 (.var 2) (.upd 1 1 (.upd 0 1 (.const (.agg #[(.int .i64 0), (.int .i64 0)])) (.ld none (.offp 0 (.var 6)))) (.var 4)) [])
 (.set 3 (.const (.int .i64 7)))))
 .ret)
 .skip)
 (.seq
 (.seq
 .skip
 (.seq
 (.set 13 (.ld none (.offp 5 (.nn (.var 0)))))
 (.seq
 (.set 14 (.ld none (.offp 0 (.var 6))))
 (.seq
 (.set 15 (.ld none (.offp 5 (.nn (.var 0)))))
 (.seq
 (.set 16 (.ld none (.offp 0 (.var 6))))
 (.seq
 (.set 10 (.ld (some 273) (.offp 1 (.var 6))))
 (.seq
 (.resv 1)
 (.seq
 (.seq
 (.set 11 (.const (.bool true)))
 .skip)
 (.seq
 (.chk [(.var 11)])
 (.seq
 (.clr [11])
 (.seq
 (.chk [(.upd 0 273 (.const zA22) (.var 10))])
 (.seq
 (.look (some 9) (.slice none 0 0) false .i64 (.var 15) (.var 16) [(.ld (some 273) (.offp 1 (.var 6))), (.ld none (.offp 0 (.var 6))), (.ld none (.offp 5 (.nn (.var 0)))), (.ld none (.offp 0 (.var 6))), (.ld none (.offp 5 (.nn (.var 0))))])
 (.seq
 (.rowR 0 11 129 1 (.upd 0 273 (.const zA22) (.var 10)))
 (.seq
 (.app (some 12) 129 273 (.var 9) (.var 11) [(.ld none (.offp 0 (.var 6))), (.ld none (.offp 5 (.nn (.var 0))))])
 (.seq
 (.upd .i64 (.var 13) (.var 14) (.var 12) [])
 .skip)))))))))))))))
 (.seq
 (.set 4 (.bin .add (.var 4) (.const (.int .i64 1))))
 (.seq
 (.seq
 (.call (some 17) 89 [(.var 0), (.ld (some 274) (.var 6))] [])
 (.seq
 (.chk [(.proj 1 (.var 17))])
 (.seq
 (.set 18 (.proj 0 (.var 17)))
 (.set 19 (.proj 1 (.var 17))))))
 (.seq
 (.cond (.un .not (.var 19))
 (.seq
 (.seq
 (.chk [(.upd 1 1 (.upd 0 1 (.const (.agg #[(.int .i64 0), (.int .i64 0)])) (.ld none (.offp 0 (.var 6)))) (.var 4))])
 (.seq
 (.store 2 (.var 2) (.upd 1 1 (.upd 0 1 (.const (.agg #[(.int .i64 0), (.int .i64 0)])) (.ld none (.offp 0 (.var 6)))) (.var 4)) [])
 (.set 3 (.const (.int .i64 13)))))
 .ret)
 .skip)
 (.seq
 (.app (some 20) 132 274 (.ld none (.offp 4 (.nn (.var 0)))) (.var 18) [])
 (.store 1 (.offp 4 (.nn (.var 0))) (.var 20) [])))))))))))))))
 (.seq
 (.seq
 (.chk [(.upd 1 1 (.upd 0 1 (.const (.agg #[(.int .i64 0), (.int .i64 0)])) (.const (.int .i64 0))) (.var 4))])
 (.seq
 (.store 2 (.var 2) (.upd 1 1 (.upd 0 1 (.const (.agg #[(.int .i64 0), (.int .i64 0)])) (.const (.int .i64 0))) (.var 4)) [])
 (.set 3 (.const (.int .i64 0)))))
 .ret)))),
  [(.ld (some 2) (.var 2)), (.var 3)]⟩
theorem okx_48 : FnOk Tryz.prog 2 377 48 xf48 := fnOk_of Tryz.func48 (np := 2) (V := [0, 1, 4, 5, 6, 7, 8, 29, 41, 61, 63, 64, 65, 52, 54, 58, 60, 71, 9, 10, 86]) (ks := [[0, 1, 2, 4]]) (by kernel_rfl)

/- tipstaff/region.New -/
def xf49 : XF := ⟨2, [0, 1, 4, 2, 6, 8, 5, 10],
  (.seq
 (.seq
 (.new (some 3) 49 (.var 0))
 (.set 2 (.const (.pointer none))))
 (.seq
 (.seq
 .skip
 (.seq
 (.set 6 (.ld (some 32) (.var 3)))
 (.seq
 (.chk [(.var 1)])
 (.seq
 (.row (some 4) 25 0 (.const (.agg #[])))
 (.seq
 (.app (some 5) 25 1 (.var 4) (.var 1) [(.ld (some 32) (.var 3))])
 (.seq
 (.chk [(.upd 192 1 (.upd 0 32 (.const zA21) (.var 6)) (.var 5))])
 (.seq
 (.new (some 7) 201 (.upd 192 1 (.upd 0 32 (.const zA21) (.var 6)) (.var 5)))
 (.set 2 (.var 7)))))))))
 .ret)),
  [(.var 2)]⟩
theorem okx_49 : FnOk Tryz.prog 2 377 49 xf49 := fnOk_of Tryz.func49 (np := 2) (V := [0, 1, 4, 2, 6, 8, 5, 10]) (ks := []) (by kernel_rfl)

/- (*tipstaff/vm.machine).step -/
def xf50 : XF := ⟨1, [0, 2, 3, 31, 42, 4, 44, 45, 50, 51, 56, 57, 65, 68, 72, 73, 89, 94, 95, 105, 98, 100, 106, 107, 112, 113, 117, 8, 25, 29],
  (.seq
 (.set 1 (.const (.bool false)))
 (.seq
 (.seq
 (.seq
 .skip
 (.set 27 (.ld none (.offp 82 (.nn (.var 0))))))
 (.cond (.pick (.bin .lss (.var 27) (.const (.int .i64 0))) (.const (.bool true)) (.bin .geq (.ld none (.offp 82 (.nn (.var 0)))) (.len false (.ld none (.offp 0 (.nn (.var 0)))))))
 (.seq
 (.set 1 (.const (.bool false)))
 .ret)
 .skip))
 (.seq
 (.seq
 .skip
 (.seq
 (.set 28 (.ld none (.offp 0 (.nn (.var 0)))))
 (.seq
 (.set 29 (.ld none (.offp 82 (.nn (.var 0)))))
 (.seq
 (.set 3 (.ld (some 5) (.ixSl 5 (.var 28) (.var 29))))
 (.seq
 (.new (some 2) 32 (.const zA2))
 (.store 5 (.var 2) (.var 3) []))))))
 (.seq
 (.cond (.pick (.bin .geq (.ld none (.offp 1 (.var 2))) (.const (.int .u8 11))) (.const (.bool true)) (.bin .geq (.ld none (.offp 2 (.var 2))) (.const (.int .u8 11))))
 (.seq
 (.set 1 (.const (.bool false)))
 .ret)
 .skip)
 (.seq
 (.seq
 (.call (some 4) 90 [(.ld none (.offp 0 (.var 2)))] [])
 (.seq
 (.new (some 5) 203 (.const zA3))
 (.store 5 (.var 5) (.var 4) [])))
 (.seq
 (.seq
 (.set 6 (.ld none (.offp 0 (.var 5))))
 (.block 0
 (.seq
 (.set 7 (.bin .eql (.var 6) (.const (.int .i64 1))))
 (.cond (.var 7)
 (.seq
 (.seq
 (.call (some 8) 91 [(.var 0), (.ld (some 5) (.var 2)), (.ld (some 5) (.var 5))] [])
 (.set 1 (.var 8)))
 .ret)
 (.seq
 (.set 9 (.bin .eql (.var 6) (.const (.int .i64 2))))
 (.cond (.var 9)
 (.seq
 (.seq
 (.call (some 10) 92 [(.var 0), (.ld (some 5) (.var 2)), (.ld (some 5) (.var 5))] [])
 (.set 1 (.var 10)))
 .ret)
 (.seq
 (.set 11 (.bin .eql (.var 6) (.const (.int .i64 3))))
 (.cond (.var 11)
 (.seq
 (.seq
 .skip
 (.seq
 (.call (some 12) 93 [(.ld none (.offp 82 (.nn (.var 0)))), (.ld (some 5) (.var 2))] [])
 (.store 1 (.offp 82 (.nn (.var 0))) (.var 12) [])))
 (.seq
 (.set 1 (.const (.bool true)))
 .ret))
 (.seq
 (.set 13 (.bin .eql (.var 6) (.const (.int .i64 4))))
 (.cond (.var 13)
 (.seq
 (.seq
 (.call (some 14) 94 [(.var 0), (.ld (some 5) (.var 2))] [])
 (.set 1 (.var 14)))
 .ret)
 (.seq
 (.set 15 (.bin .eql (.var 6) (.const (.int .i64 5))))
 (.cond (.var 15)
 (.seq
 (.store 1 (.offp 83 (.nn (.var 0))) (.bin .eql (.ld none (.offp 0 (.ixArr 11 4 (.offp 38 (.nn (.var 0))) (.const (.int .i64 0))))) (.const (.int .i64 1))) [])
 (.seq
 (.set 1 (.ld none (.offp 83 (.nn (.var 0)))))
 .ret))
 (.seq
 (.set 16 (.bin .eql (.var 6) (.const (.int .i64 6))))
 (.cond (.var 16)
 (.seq
 (.seq
 (.call (some 17) 95 [(.var 0), (.ld (some 5) (.var 2)), (.ld (some 5) (.var 5))] [])
 (.set 1 (.var 17)))
 .ret)
 (.seq
 (.set 18 (.bin .eql (.var 6) (.const (.int .i64 7))))
 (.cond (.var 18)
 (.seq
 (.seq
 .skip
 (.seq
 (.chk [(.var 0)])
 (.seq
 (.set 20 (.ld (some 5) (.var 2)))
 (.seq
 (.set 21 (.ld none (.offp 2 (.var 5))))
 (.seq
 (.call (some 19) 97 [(.var 0), (.ld (some 5) (.var 2)), (.ld none (.offp 4 (.var 5)))] [(.ld none (.offp 2 (.var 5))), (.ld (some 5) (.var 2))])
 (.seq
 (.call (some 22) 96 [(.var 0), (.var 20), (.var 21), (.var 19)] [])
 (.set 1 (.var 22))))))))
 .ret)
 (.seq
 (.set 23 (.bin .eql (.var 6) (.const (.int .i64 8))))
 (.cond (.var 23)
 (.seq
 (.seq
 (.call (some 24) 98 [(.var 0), (.ld (some 5) (.var 2)), (.ld (some 5) (.var 5))] [])
 (.set 1 (.var 24)))
 .ret)
 (.seq
 (.set 25 (.bin .eql (.var 6) (.const (.int .i64 9))))
 (.cond (.var 25)
 (.seq
 (.seq
 (.call (some 26) 99 [(.var 0), (.ld (some 5) (.var 2))] [])
 (.set 1 (.var 26)))
 .ret)
 .skip))))))))))))))))))))
 (.seq
 (.set 1 (.const (.bool false)))
 .ret))))))),
  [(.var 1)]⟩
theorem okx_50 : FnOk Tryz.prog 2 377 50 xf50 := fnOk_of Tryz.func50 (np := 1) (V := [0, 2, 3, 31, 42, 4, 44, 45, 50, 51, 56, 57, 65, 68, 72, 73, 89, 94, 95, 105, 98, 100, 106, 107, 112, 113, 117, 8, 25, 29]) (ks := []) (by kernel_rfl)

/- (*tipstaff/bmap.Map).find -/
def xf51 : XF := ⟨2, [0, 1, 4, 5, 9, 13, 6, 22],
  (.seq
 (.seq
 (.set 2 (.const (.pointer none)))
 (.set 3 (.const (.int .i64 0))))
 (.seq
 (.seq
 (.call (some 4) 100 [(.var 0), (.var 1)] [])
 (.cond (.un .not (.var 4))
 (.seq
 (.seq
 (.set 2 (.const (.pointer none)))
 (.set 3 (.const (.int .i64 22))))
 .ret)
 .skip))
 (.seq
 (.seq
 (.call (some 5) 101 [(.var 0), (.var 1)] [])
 (.set 6 (.var 5)))
 (.seq
 (.cond (.bin .eql (.ld none (.offp 0 (.offp 0 (.nn (.var 0))))) (.const (.int .i64 5)))
 (.seq
 (.call (some 7) 102 [(.var 0), (.var 1)] [])
 (.set 6 (.var 7)))
 .skip)
 (.seq
 (.cond (.isnil 0 false (.var 6))
 (.seq
 (.seq
 (.set 2 (.const (.pointer none)))
 (.set 3 (.const (.int .i64 2))))
 .ret)
 .skip)
 (.seq
 (.call none 103 [(.var 0), (.var 6)] [])
 (.seq
 (.seq
 (.set 2 (.var 6))
 (.set 3 (.const (.int .i64 0))))
 .ret))))))),
  [(.var 2), (.var 3)]⟩
theorem okx_51 : FnOk Tryz.prog 2 377 51 xf51 := fnOk_of Tryz.func51 (np := 2) (V := [0, 1, 4, 5, 9, 13, 6, 22]) (ks := []) (by kernel_rfl)

/- bytes.Clone -/
def xf52 : XF := ⟨1, [0, 2, 5, 7],
  (.seq
 (.set 1 (.const (.slice none 0 0)))
 (.seq
 (.cond (.isnil 1 false (.var 0))
 (.seq
 (.set 1 (.const (.slice none 0 0)))
 .ret)
 .skip)
 (.seq
 (.seq
 (.row (some 2) 5 0 (.const (.agg #[])))
 (.seq
 (.app (some 3) 5 1 (.var 2) (.var 0) [])
 (.set 1 (.var 3))))
 .ret))),
  [(.var 1)]⟩
theorem okx_52 : FnOk Tryz.prog 2 377 52 xf52 := fnOk_of Tryz.func52 (np := 1) (V := [0, 2, 5, 7]) (ks := []) (by kernel_rfl)

/- tipstaff/bmap.within -/
def xf79 : XF := ⟨3, [0, 1, 2, 6],
  (.seq
 (.set 3 (.const (.bool false)))
 (.seq
 (.set 3 (.pick (.bin .geq (.var 0) (.var 1)) (.bin .leq (.var 0) (.var 2)) (.const (.bool false))))
 .ret)),
  [(.var 3)]⟩
theorem okx_79 : FnOk Tryz.prog 2 377 79 xf79 := fnOk_of Tryz.func79 (np := 3) (V := [0, 1, 2, 6]) (ks := []) (by kernel_rfl)

/- tipstaff/digest.length -/
def xf80 : XF := ⟨1, [0, 2, 3, 4, 15, 16],
  (.seq
 (.set 1 (.const (.slice none 0 0)))
 (.seq
 (.set 2 (.const (.slice none 0 0)))
 (.seq
 (.seq
 (.set 3 (.const (.int .i64 7)))
 (.block 0
 (.loop [0, 2, 3]
 (.seq
 (.cond (.bin .geq (.var 3) (.const (.int .i64 0)))
 .skip
 (.exit 0))
 (.seq
 (.block 1
 (.seq
 (.chk [(.var 2)])
 (.seq
 (.row (some 4) 5 1 (.upd 0 1 (.const (.agg #[(.int .u8 0)])) (.conv .u8 (.bin .shr (.var 0) (.bin .mul (.const (.int .i64 8)) (.var 3))))))
 (.seq
 (.app (some 5) 5 1 (.var 2) (.var 4) [])
 (.set 2 (.var 5))))))
 (.set 3 (.bin .sub (.var 3) (.const (.int .i64 1)))))))))
 (.seq
 (.set 1 (.var 2))
 .ret)))),
  [(.var 1)]⟩
theorem okx_80 : FnOk Tryz.prog 2 377 80 xf80 := fnOk_of Tryz.func80 (np := 1) (V := [0, 2, 3, 4, 15, 16]) (ks := [[0, 2, 3]]) (by kernel_rfl)

/- (*tipstaff/digest.state).work -/
def xf81 : XF := ⟨2, [0, 1, 4, 14, 16, 17, 5, 6, 7, 8, 28, 30, 33, 26, 45, 49, 9, 54, 56, 59, 75, 10, 90, 11],
  (.seq
 (.seq
 (.set 3 (.ld (some 8) (.nn (.var 0))))
 (.seq
 (.new (some 2) 184 (.const (.agg (Array.replicate 8 (.int .u32 0)))))
 (.store 8 (.var 2) (.var 3) [])))
 (.seq
 (.seq
 (.seq
 (.call (some 4) 141 [(.var 1)] [])
 (.set 5 (.const (.int .i64 0))))
 (.block 0
 (.loop [0, 2, 4, 5]
 (.seq
 (.cond (.bin .lss (.var 5) (.const (.int .i64 64)))
 .skip
 (.exit 0))
 (.seq
 (.block 1
 (.seq
 (.seq
 (.chk [(.idxAgg none 1 64 (.var 4) (.var 5))])
 (.seq
 (.set 6 (.var 5))
 (.set 7 (.idxAgg none 1 64 (.var 4) (.var 5)))))
 (.seq
 (.seq
 .skip
 (.seq
 (.chk [(.ld none (.ixArr 8 1 (.var 2) (.const (.int .i64 4))))])
 (.seq
 (.set 8 (.ld none (.ixArr 8 1 (.var 2) (.const (.int .i64 0)))))
 (.set 9 (.ld none (.ixArr 8 1 (.var 2) (.const (.int .i64 4))))))))
 (.seq
 (.seq
 .skip
 (.seq
 (.set 13 (.ld none (.ixArr 8 1 (.var 2) (.const (.int .i64 7)))))
 (.seq
 (.set 14 (.bin .xor (.bin .and (.var 9) (.ld none (.ixArr 8 1 (.var 2) (.const (.int .i64 5))))) (.bin .and (.un .xor (.var 9)) (.ld none (.ixArr 8 1 (.var 2) (.const (.int .i64 6)))))))
 (.seq
 (.chk [(.ixArr 64 1 (.const (.pointer (some ⟨1, 0, none⟩))) (.var 6))])
 (.seq
 (.set 15 (.ld none (.ixArr 64 1 (.const (.pointer (some ⟨1, 0, none⟩))) (.var 6))))
 (.seq
 (.chk [(.var 7)])
 (.seq
 (.call (some 10) 142 [(.var 9), (.const (.int .i64 6))] [(.ld none (.ixArr 64 1 (.const (.pointer (some ⟨1, 0, none⟩))) (.var 6))), (.ld none (.ixArr 8 1 (.var 2) (.const (.int .i64 6)))), (.ld none (.ixArr 8 1 (.var 2) (.const (.int .i64 5)))), (.ld none (.ixArr 8 1 (.var 2) (.const (.int .i64 7))))])
 (.seq
 (.call (some 11) 142 [(.var 9), (.const (.int .i64 11))] [(.ld none (.ixArr 64 1 (.const (.pointer (some ⟨1, 0, none⟩))) (.var 6))), (.ld none (.ixArr 8 1 (.var 2) (.const (.int .i64 6)))), (.ld none (.ixArr 8 1 (.var 2) (.const (.int .i64 5)))), (.ld none (.ixArr 8 1 (.var 2) (.const (.int .i64 7))))])
 (.seq
 (.chk [(.bin .xor (.var 10) (.var 11))])
 (.seq
 (.call (some 12) 142 [(.var 9), (.const (.int .i64 25))] [(.ld none (.ixArr 64 1 (.const (.pointer (some ⟨1, 0, none⟩))) (.var 6))), (.ld none (.ixArr 8 1 (.var 2) (.const (.int .i64 6)))), (.ld none (.ixArr 8 1 (.var 2) (.const (.int .i64 5)))), (.ld none (.ixArr 8 1 (.var 2) (.const (.int .i64 7))))])
 (.set 16 (.bin .add (.bin .add (.bin .add (.bin .add (.var 13) (.bin .xor (.bin .xor (.var 10) (.var 11)) (.var 12))) (.var 14)) (.var 15)) (.var 7)))))))))))))
 (.seq
 (.seq
 .skip
 (.seq
 (.set 20 (.bin .xor (.bin .xor (.bin .and (.var 8) (.ld none (.ixArr 8 1 (.var 2) (.const (.int .i64 1))))) (.bin .and (.var 8) (.ld none (.ixArr 8 1 (.var 2) (.const (.int .i64 2)))))) (.bin .and (.ld none (.ixArr 8 1 (.var 2) (.const (.int .i64 1)))) (.ld none (.ixArr 8 1 (.var 2) (.const (.int .i64 2)))))))
 (.seq
 (.call (some 17) 142 [(.var 8), (.const (.int .i64 2))] [(.ld none (.ixArr 8 1 (.var 2) (.const (.int .i64 2)))), (.ld none (.ixArr 8 1 (.var 2) (.const (.int .i64 1)))), (.ld none (.ixArr 8 1 (.var 2) (.const (.int .i64 2)))), (.ld none (.ixArr 8 1 (.var 2) (.const (.int .i64 1))))])
 (.seq
 (.call (some 18) 142 [(.var 8), (.const (.int .i64 13))] [(.ld none (.ixArr 8 1 (.var 2) (.const (.int .i64 2)))), (.ld none (.ixArr 8 1 (.var 2) (.const (.int .i64 1)))), (.ld none (.ixArr 8 1 (.var 2) (.const (.int .i64 2)))), (.ld none (.ixArr 8 1 (.var 2) (.const (.int .i64 1))))])
 (.seq
 (.chk [(.bin .xor (.var 17) (.var 18))])
 (.seq
 (.call (some 19) 142 [(.var 8), (.const (.int .i64 22))] [(.ld none (.ixArr 8 1 (.var 2) (.const (.int .i64 2)))), (.ld none (.ixArr 8 1 (.var 2) (.const (.int .i64 1)))), (.ld none (.ixArr 8 1 (.var 2) (.const (.int .i64 2)))), (.ld none (.ixArr 8 1 (.var 2) (.const (.int .i64 1))))])
 (.set 21 (.bin .add (.bin .xor (.bin .xor (.var 17) (.var 18)) (.var 19)) (.var 20)))))))))
 (.seq
 (.seq
 .skip
 (.copy none 1 (.slArr 8 1 (.var 2) (.const (.int .i64 1)) (.const (.int .i64 8))) (.slArr 8 1 (.var 2) (.const (.int .i64 0)) (.const (.int .i64 7))) []))
 (.seq
 (.store 1 (.ixArr 8 1 (.var 2) (.const (.int .i64 0))) (.bin .add (.var 16) (.var 21)) [])
 (.store 1 (.ixArr 8 1 (.var 2) (.const (.int .i64 4))) (.bin .add (.ld none (.ixArr 8 1 (.var 2) (.const (.int .i64 4)))) (.var 16)) []))))))))
 (.set 5 (.bin .add (.var 5) (.const (.int .i64 1)))))))))
 (.seq
 (.set 22 (.const (.int .i64 0)))
 (.block 2
 (.loop [0, 2, 22]
 (.seq
 (.cond (.bin .lss (.var 22) (.const (.int .i64 8)))
 .skip
 (.exit 2))
 (.seq
 (.block 3
 (.seq
 (.set 23 (.var 22))
 (.seq
 .skip
 (.store 1 (.ixArr 8 1 (.nn (.var 0)) (.var 23)) (.bin .add (.ld none (.ixArr 8 1 (.nn (.var 0)) (.var 23))) (.ld none (.ixArr 8 1 (.var 2) (.var 23)))) []))))
 (.set 22 (.bin .add (.var 22) (.const (.int .i64 1))))))))))),
  []⟩
theorem okx_81 : FnOk Tryz.prog 2 377 81 xf81 := fnOk_of Tryz.func81 (np := 2) (V := [0, 1, 4, 14, 16, 17, 5, 6, 7, 8, 28, 30, 33, 26, 45, 49, 9, 54, 56, 59, 75, 10, 90, 11]) (ks := [[0, 2, 4, 5], [0, 2, 22]]) (by kernel_rfl)

/- slices.Index[[]int,int] -/
def xf82 : XF := ⟨2, [0, 1, 4, 8, 7, 5],
  (.seq
 (.set 2 (.const (.int .i64 0)))
 (.seq
 (.seq
 (.seq
 (.set 4 (.len false (.var 0)))
 (.set 3 (.const (.int .i64 0))))
 (.block 0
 (.loop [0, 1, 3, 4]
 (.seq
 (.cond (.bin .lss (.var 3) (.var 4))
 .skip
 (.exit 0))
 (.seq
 (.block 1
 (.seq
 (.set 5 (.var 3))
 (.cond (.bin .eql (.var 1) (.ld none (.ixSl 1 (.var 0) (.var 5))))
 (.seq
 (.set 2 (.var 5))
 .ret)
 .skip)))
 (.set 3 (.bin .add (.var 3) (.const (.int .i64 1)))))))))
 (.seq
 (.set 2 (.const (.int .i64 (-1))))
 .ret))),
  [(.var 2)]⟩
theorem okx_82 : FnOk Tryz.prog 2 377 82 xf82 := fnOk_of Tryz.func82 (np := 2) (V := [0, 1, 4, 8, 7, 5]) (ks := [[0, 1, 3, 4]]) (by kernel_rfl)

/- tipstaff/shape.Check -/
def xf83 : XF := ⟨1, [0, 2, 3, 8, 12, 18, 17, 4, 23, 29, 28, 5, 34, 6, 45, 7],
  (.seq
 (.seq
 (.set 1 (.const (.int .i64 0)))
 (.set 2 (.const (.int .i64 0))))
 (.seq
 (.block 0
 (.seq
 (.set 3 (.bin .gtr (.len false (.var 0)) (.const (.int .i64 256))))
 (.cond (.var 3)
 (.seq
 (.seq
 (.set 1 (.const (.int .i64 0)))
 (.set 2 (.const (.int .i64 7))))
 .ret)
 (.seq
 (.set 4 (.bin .eql (.len false (.var 0)) (.const (.int .i64 0))))
 (.cond (.var 4)
 (.seq
 (.seq
 (.set 1 (.const (.int .i64 0)))
 (.set 2 (.const (.int .i64 22))))
 .ret)
 .skip)))))
 (.seq
 (.seq
 (.seq
 (.set 6 (.len false (.var 0)))
 (.set 5 (.const (.int .i64 0))))
 (.block 1
 (.loop [0, 5, 6]
 (.seq
 (.cond (.bin .lss (.var 5) (.var 6))
 .skip
 (.exit 1))
 (.seq
 (.block 2
 (.seq
 (.set 7 (.var 5))
 (.seq
 (.call (some 8) 143 [(.var 0), (.var 7)] [])
 (.cond (.un .not (.var 8))
 (.seq
 (.seq
 (.set 1 (.var 7))
 (.set 2 (.const (.int .i64 22))))
 .ret)
 .skip))))
 (.set 5 (.bin .add (.var 5) (.const (.int .i64 1)))))))))
 (.seq
 (.seq
 (.seq
 (.set 10 (.len false (.var 0)))
 (.set 9 (.const (.int .i64 0))))
 (.block 3
 (.loop [0, 9, 10]
 (.seq
 (.cond (.bin .lss (.var 9) (.var 10))
 .skip
 (.exit 3))
 (.seq
 (.block 4
 (.seq
 (.set 11 (.var 9))
 (.seq
 (.call (some 12) 144 [(.var 0), (.var 11)] [])
 (.cond (.un .not (.var 12))
 (.seq
 (.seq
 (.set 1 (.var 11))
 (.set 2 (.const (.int .i64 22))))
 .ret)
 .skip))))
 (.set 9 (.bin .add (.var 9) (.const (.int .i64 1)))))))))
 (.seq
 (.set 13 (.bin .sub (.len false (.var 0)) (.const (.int .i64 1))))
 (.seq
 (.seq
 (.seq
 (.call (some 14) 145 [(.ld (some 5) (.ixSl 5 (.var 0) (.var 13)))] [])
 (.set 15 (.var 14)))
 (.cond (.pick (.bin .neq (.var 15) (.const (.int .i64 5))) (.bin .neq (.var 15) (.const (.int .i64 3))) (.const (.bool false)))
 (.seq
 (.seq
 (.set 1 (.var 13))
 (.set 2 (.const (.int .i64 22))))
 .ret)
 .skip))
 (.seq
 (.seq
 (.set 1 (.const (.int .i64 0)))
 (.set 2 (.const (.int .i64 0))))
 .ret))))))),
  [(.var 1), (.var 2)]⟩
theorem okx_83 : FnOk Tryz.prog 2 377 83 xf83 := fnOk_of Tryz.func83 (np := 1) (V := [0, 2, 3, 8, 12, 18, 17, 4, 23, 29, 28, 5, 34, 6, 45, 7]) (ks := [[0, 5, 6], [0, 9, 10]]) (by kernel_rfl)

/- slices.Index[[]bool,bool] -/
def xf84 : XF := ⟨2, [0, 1, 4, 8, 7, 5],
  (.seq
 (.set 2 (.const (.int .i64 0)))
 (.seq
 (.seq
 (.seq
 (.set 4 (.len false (.var 0)))
 (.set 3 (.const (.int .i64 0))))
 (.block 0
 (.loop [0, 1, 3, 4]
 (.seq
 (.cond (.bin .lss (.var 3) (.var 4))
 .skip
 (.exit 0))
 (.seq
 (.block 1
 (.seq
 (.set 5 (.var 3))
 (.cond (.eqx false .bool (.var 1) (.ld none (.ixSl 1 (.var 0) (.var 5))))
 (.seq
 (.set 2 (.var 5))
 .ret)
 .skip)))
 (.set 3 (.bin .add (.var 3) (.const (.int .i64 1)))))))))
 (.seq
 (.set 2 (.const (.int .i64 (-1))))
 .ret))),
  [(.var 2)]⟩
theorem okx_84 : FnOk Tryz.prog 2 377 84 xf84 := fnOk_of Tryz.func84 (np := 2) (V := [0, 1, 4, 8, 7, 5]) (ks := [[0, 1, 3, 4]]) (by kernel_rfl)

/- tipstaff/cfg.Reach -/
def xf85 : XF := ⟨1, [0, 2, 8, 3, 11, 4, 17, 16, 15, 5, 6, 34, 43],
  (.seq
 (.set 1 (.const (.slice none 0 0)))
 (.seq
 (.seq
 (.call (some 2) 146 [(.var 0)] [])
 (.set 3 (.var 2)))
 (.seq
 (.seq
 (.mk (some 4) 4 [(.bool false)] (.len false (.var 0)) (.len false (.var 0)) [])
 (.set 5 (.var 4)))
 (.seq
 (.seq
 (.seq
 (.set 8 (.ld none (.offp 1 (.nn (.var 3)))))
 (.seq
 (.set 7 (.len false (.var 8)))
 (.set 6 (.const (.int .i64 0)))))
 (.block 0
 (.loop [0, 5, 6, 7, 8]
 (.seq
 (.cond (.bin .lss (.var 6) (.var 7))
 .skip
 (.exit 0))
 (.seq
 (.block 1
 (.seq
 (.seq
 (.chk [(.ld none (.ixSl 1 (.var 8) (.var 6)))])
 (.seq
 (.set 9 (.var 6))
 (.set 10 (.ld none (.ixSl 1 (.var 8) (.var 6))))))
 (.seq
 (.store 1 (.ixSl 1 (.var 5) (.var 9)) (.bin .eql (.var 10) (.const (.int .i64 2))) [])
 (.seq
 (.seq
 (.chk [(.pick (.bin .gtr (.var 9) (.const (.int .i64 0))) (.ld (some 5) (.ixSl 5 (.var 0) (.var 9))) (.const (.bool false)))])
 (.seq
 (.cond (.pick (.bin .gtr (.var 9) (.const (.int .i64 0))) (.const (.bool true)) (.const (.bool false)))
 (.call (some 11) 147 [(.ld (some 5) (.ixSl 5 (.var 0) (.var 9)))] [])
 (.clr [11]))
 (.seq
 (.chk [(.pick (.pick (.bin .gtr (.var 9) (.const (.int .i64 0))) (.bin .eql (.var 11) (.const (.int .i64 10))) (.const (.bool false))) (.ld (some 5) (.ixSl 5 (.var 0) (.bin .sub (.var 9) (.const (.int .i64 1))))) (.const (.bool false)))])
 (.cond (.pick (.pick (.bin .gtr (.var 9) (.const (.int .i64 0))) (.bin .eql (.var 11) (.const (.int .i64 10))) (.const (.bool false))) (.const (.bool true)) (.const (.bool false)))
 (.call (some 12) 147 [(.ld (some 5) (.ixSl 5 (.var 0) (.bin .sub (.var 9) (.const (.int .i64 1)))))] [])
 (.clr [12])))))
 (.cond (.pick (.pick (.bin .gtr (.var 9) (.const (.int .i64 0))) (.bin .eql (.var 11) (.const (.int .i64 10))) (.const (.bool false))) (.bin .eql (.var 12) (.const (.int .i64 9))) (.const (.bool false)))
 (.store 1 (.ixSl 1 (.var 5) (.var 9)) (.pick (.ld none (.ixSl 1 (.var 5) (.var 9))) (.const (.bool true)) (.ld none (.ixSl 1 (.var 5) (.bin .sub (.var 9) (.const (.int .i64 1)))))) [])
 .skip)))))
 (.set 6 (.bin .add (.var 6) (.const (.int .i64 1)))))))))
 (.seq
 (.set 1 (.var 5))
 .ret))))),
  [(.var 1)]⟩
theorem okx_85 : FnOk Tryz.prog 2 377 85 xf85 := fnOk_of Tryz.func85 (np := 1) (V := [0, 2, 8, 3, 11, 4, 17, 16, 15, 5, 6, 34, 43]) (ks := [[0, 5, 6, 7, 8]]) (by kernel_rfl)

/- tipstaff/cfg.Loops -/
def xf86 : XF := ⟨1, [0, 2, 4],
  (.seq
 (.set 1 (.const (.bool false)))
 (.seq
 (.seq
 (.call (some 2) 146 [(.var 0)] [])
 (.set 1 (.ld none (.offp 2 (.nn (.var 2))))))
 .ret)),
  [(.var 1)]⟩
theorem okx_86 : FnOk Tryz.prog 2 377 86 xf86 := fnOk_of Tryz.func86 (np := 1) (V := [0, 2, 4]) (ks := []) (by kernel_rfl)

/- slices.IndexFunc[[]tipstaff/bmap.Spec,tipstaff/bmap.Spec] -/
def xf87 : XF := ⟨2, [0, 1, 4, 8, 7, 5, 16],
  (.seq
 (.set 2 (.const (.int .i64 0)))
 (.seq
 (.seq
 (.seq
 (.set 4 (.len false (.var 0)))
 (.set 3 (.const (.int .i64 0))))
 (.block 0
 (.loop [0, 1, 3, 4]
 (.seq
 (.cond (.bin .lss (.var 3) (.var 4))
 .skip
 (.exit 0))
 (.seq
 (.block 1
 (.seq
 (.set 5 (.var 3))
 (.seq
 (.dyn (some 6) (.var 1) [(.ld (some 4) (.ixSl 4 (.var 0) (.var 5)))] [])
 (.cond (.var 6)
 (.seq
 (.set 2 (.var 5))
 .ret)
 .skip))))
 (.set 3 (.bin .add (.var 3) (.const (.int .i64 1)))))))))
 (.seq
 (.set 2 (.const (.int .i64 (-1))))
 .ret))),
  [(.var 2)]⟩
theorem okx_87 : FnOk Tryz.prog 2 377 87 xf87 := fnOk_of Tryz.func87 (np := 2) (V := [0, 1, 4, 8, 7, 5, 16]) (ks := [[0, 1, 3, 4]]) (by kernel_rfl)

/- (*tipstaff/verify.checker).gone -/
def xf88 : XF := ⟨2, [0, 1, 4, 3, 11, 13],
  (.seq
 (.seq
 (.new (some 3) 132 (.var 1))
 (.set 2 (.const (.bool false))))
 (.seq
 (.seq
 .skip
 (.seq
 (.chk [(.cap1 (.const (.func (.func 149) #[] #[])) (.var 3))])
 (.seq
 (.look (some 4) (.slice none 0 0) false .i64 (.ld none (.offp 5 (.nn (.var 0)))) (.ld none (.offp 0 (.var 3))) [])
 (.seq
 (.call (some 5) 148 [(.var 4), (.cap1 (.const (.func (.func 149) #[] #[])) (.var 3))] [])
 (.set 2 (.var 5))))))
 .ret)),
  [(.var 2)]⟩
theorem okx_88 : FnOk Tryz.prog 2 377 88 xf88 := fnOk_of Tryz.func88 (np := 2) (V := [0, 1, 4, 3, 11, 13]) (ks := []) (by kernel_rfl)

/- (*tipstaff/verify.checker).step -/
def xf89 : XF := ⟨2, [0, 1, 4, 5, 3, 6, 15, 18, 7, 20, 21, 27, 30, 36, 39, 45, 41, 46, 47, 48, 53, 56, 64, 70, 73, 84, 76, 77, 78, 85, 88, 94, 97, 102, 11, 13],
  (.seq
 (.seq
 (.new (some 4) 132 (.var 1))
 (.seq
 (.set 2 (.const (.slice none 0 0)))
 (.set 3 (.const (.bool false)))))
 (.seq
 (.seq
 .skip
 (.seq
 (.set 34 (.ld none (.offp 0 (.nn (.var 0)))))
 (.seq
 (.set 35 (.ld none (.offp 0 (.var 4))))
 (.seq
 (.set 6 (.ld (some 5) (.ixSl 5 (.var 34) (.var 35))))
 (.seq
 (.new (some 5) 32 (.const zA2))
 (.store 5 (.var 5) (.var 6) []))))))
 (.seq
 (.seq
 (.call (some 7) 90 [(.ld none (.offp 0 (.var 5)))] [])
 (.seq
 (.new (some 8) 203 (.const zA3))
 (.store 5 (.var 8) (.var 7) [])))
 (.seq
 (.seq
 (.set 9 (.ld none (.offp 0 (.var 8))))
 (.block 0
 (.seq
 (.set 10 (.bin .eql (.var 9) (.const (.int .i64 1))))
 (.cond (.var 10)
 (.seq
 (.seq
 (.call (some 11) 151 [(.var 0), (.ld (some 274) (.var 4)), (.ld (some 5) (.var 5)), (.ld (some 5) (.var 8))] [])
 (.seq
 (.chk [(.proj 1 (.var 11))])
 (.seq
 (.set 2 (.proj 0 (.var 11)))
 (.set 3 (.proj 1 (.var 11))))))
 .ret)
 (.seq
 (.set 12 (.bin .eql (.var 9) (.const (.int .i64 2))))
 (.cond (.var 12)
 (.seq
 (.seq
 (.call (some 13) 152 [(.var 0), (.ld (some 274) (.var 4)), (.ld (some 5) (.var 5)), (.ld (some 5) (.var 8))] [])
 (.seq
 (.chk [(.proj 1 (.var 13))])
 (.seq
 (.set 2 (.proj 0 (.var 13)))
 (.set 3 (.proj 1 (.var 13))))))
 .ret)
 (.seq
 (.set 14 (.bin .eql (.var 9) (.const (.int .i64 3))))
 (.cond (.var 14)
 (.seq
 (.seq
 .skip
 (.seq
 (.set 16 (.ld (some 274) (.var 4)))
 (.seq
 (.call (some 15) 93 [(.ld none (.offp 0 (.var 4))), (.ld (some 5) (.var 5))] [(.ld (some 274) (.var 4))])
 (.seq
 (.call (some 17) 153 [(.var 16), (.var 15)] [])
 (.seq
 (.row (some 18) 132 1 (.upd 0 274 (.const zA23) (.var 17)))
 (.seq
 (.set 2 (.var 18))
 (.set 3 (.const (.bool true)))))))))
 .ret)
 (.seq
 (.set 19 (.bin .eql (.var 9) (.const (.int .i64 4))))
 (.cond (.var 19)
 (.seq
 (.seq
 (.call (some 20) 154 [(.var 0), (.ld (some 274) (.var 4)), (.ld (some 5) (.var 5))] [])
 (.seq
 (.chk [(.proj 1 (.var 20))])
 (.seq
 (.set 2 (.proj 0 (.var 20)))
 (.set 3 (.proj 1 (.var 20))))))
 .ret)
 (.seq
 (.set 21 (.bin .eql (.var 9) (.const (.int .i64 5))))
 (.cond (.var 21)
 (.seq
 (.seq
 .skip
 (.seq
 (.chk [(.bin .eql (.ld none (.offp 0 (.ixArr 11 11 (.offp 0 (.offp 1 (.var 4))) (.const (.int .i64 0))))) (.const (.int .i64 1)))])
 (.seq
 (.set 2 (.const (.slice none 0 0)))
 (.set 3 (.bin .eql (.ld none (.offp 0 (.ixArr 11 11 (.offp 0 (.offp 1 (.var 4))) (.const (.int .i64 0))))) (.const (.int .i64 1)))))))
 .ret)
 (.seq
 (.set 22 (.bin .eql (.var 9) (.const (.int .i64 6))))
 (.cond (.var 22)
 (.seq
 (.seq
 (.call (some 23) 155 [(.var 0), (.ld (some 274) (.var 4)), (.ld (some 5) (.var 5)), (.ld (some 5) (.var 8))] [])
 (.seq
 (.chk [(.proj 1 (.var 23))])
 (.seq
 (.set 2 (.proj 0 (.var 23)))
 (.set 3 (.proj 1 (.var 23))))))
 .ret)
 (.seq
 (.set 24 (.bin .eql (.var 9) (.const (.int .i64 7))))
 (.cond (.var 24)
 (.seq
 (.seq
 .skip
 (.seq
 (.chk [(.var 0)])
 (.seq
 (.set 26 (.ld (some 274) (.var 4)))
 (.seq
 (.set 27 (.ld (some 5) (.var 5)))
 (.seq
 (.set 28 (.ld (some 5) (.var 8)))
 (.seq
 (.call (some 25) 157 [(.ld (some 273) (.offp 1 (.var 4))), (.ld (some 5) (.var 5)), (.ld none (.offp 4 (.var 8)))] [(.ld (some 5) (.var 8)), (.ld (some 5) (.var 5)), (.ld (some 274) (.var 4))])
 (.seq
 (.call (some 29) 156 [(.var 0), (.var 26), (.var 27), (.var 28), (.var 25)] [])
 (.seq
 (.chk [(.proj 1 (.var 29))])
 (.seq
 (.set 2 (.proj 0 (.var 29)))
 (.set 3 (.proj 1 (.var 29))))))))))))
 .ret)
 (.seq
 (.set 30 (.bin .eql (.var 9) (.const (.int .i64 8))))
 (.cond (.var 30)
 (.seq
 (.seq
 (.call (some 31) 158 [(.var 0), (.ld (some 274) (.var 4)), (.ld (some 5) (.var 5)), (.ld (some 5) (.var 8))] [])
 (.seq
 (.chk [(.proj 1 (.var 31))])
 (.seq
 (.set 2 (.proj 0 (.var 31)))
 (.set 3 (.proj 1 (.var 31))))))
 .ret)
 (.seq
 (.set 32 (.bin .eql (.var 9) (.const (.int .i64 9))))
 (.cond (.var 32)
 (.seq
 (.seq
 (.call (some 33) 159 [(.var 0), (.ld (some 274) (.var 4)), (.ld (some 5) (.var 5))] [])
 (.seq
 (.chk [(.proj 1 (.var 33))])
 (.seq
 (.set 2 (.proj 0 (.var 33)))
 (.set 3 (.proj 1 (.var 33))))))
 .ret)
 .skip))))))))))))))))))))
 (.seq
 (.seq
 (.set 2 (.const (.slice none 0 0)))
 (.set 3 (.const (.bool false))))
 .ret))))),
  [(.var 2), (.var 3)]⟩
theorem okx_89 : FnOk Tryz.prog 2 377 89 xf89 := fnOk_of Tryz.func89 (np := 2) (V := [0, 1, 4, 5, 3, 6, 15, 18, 7, 20, 21, 27, 30, 36, 39, 45, 41, 46, 47, 48, 53, 56, 64, 70, 73, 84, 76, 77, 78, 85, 88, 94, 97, 102, 11, 13]) (ks := []) (by kernel_rfl)

/- tipstaff/insn.Of -/
def xf90 : XF := ⟨1, [0, 2, 4, 5, 9, 10, 14, 15, 20, 21, 22, 25],
  (.seq
 (.new (some 1) 203 (.const zA3))
 (.seq
 (.seq
 (.set 2 (.bin .and (.var 0) (.const (.int .u8 7))))
 (.block 0
 (.seq
 (.seq
 (.set 3 (.bin .eql (.var 2) (.const (.int .u8 4))))
 (.cond (.var 3)
 .skip
 (.set 3 (.bin .eql (.var 2) (.const (.int .u8 7))))))
 (.cond (.var 3)
 (.seq
 (.seq
 (.call (some 4) 160 [(.var 0)] [])
 (.store 5 (.var 1) (.var 4) []))
 .ret)
 (.seq
 (.seq
 (.set 5 (.bin .eql (.var 2) (.const (.int .u8 5))))
 (.cond (.var 5)
 .skip
 (.set 5 (.bin .eql (.var 2) (.const (.int .u8 6))))))
 (.cond (.var 5)
 (.seq
 (.seq
 (.call (some 6) 161 [(.var 0)] [])
 (.store 5 (.var 1) (.var 6) []))
 .ret)
 (.seq
 (.seq
 (.set 7 (.bin .eql (.var 2) (.const (.int .u8 1))))
 (.cond (.var 7)
 .skip
 (.seq
 (.set 7 (.bin .eql (.var 2) (.const (.int .u8 2))))
 (.cond (.var 7)
 .skip
 (.set 7 (.bin .eql (.var 2) (.const (.int .u8 3))))))))
 (.cond (.var 7)
 (.seq
 (.seq
 (.call (some 8) 162 [(.var 0)] [])
 (.store 5 (.var 1) (.var 8) []))
 .ret)
 .skip))))))))
 (.seq
 (.seq
 (.set 9 (.var 0))
 (.block 1
 (.seq
 (.set 10 (.bin .eql (.var 9) (.const (.int .u8 24))))
 (.cond (.var 10)
 (.seq
 (.seq
 (.chk [(.upd 2 1 (.upd 0 1 (.const zA3) (.const (.int .i64 9))) (.const (.int .i64 8)))])
 (.store 5 (.var 1) (.upd 2 1 (.upd 0 1 (.const zA3) (.const (.int .i64 9))) (.const (.int .i64 8))) []))
 .ret)
 (.seq
 (.set 11 (.bin .eql (.var 9) (.const (.int .u8 0))))
 (.cond (.var 11)
 (.seq
 (.seq
 (.chk [(.upd 0 1 (.const zA3) (.const (.int .i64 10)))])
 (.store 5 (.var 1) (.upd 0 1 (.const zA3) (.const (.int .i64 10))) []))
 .ret)
 .skip))))))
 (.seq
 (.store 5 (.var 1) (.const zA3) [])
 .ret)))),
  [(.ld (some 5) (.var 1))]⟩
theorem okx_90 : FnOk Tryz.prog 2 377 90 xf90 := fnOk_of Tryz.func90 (np := 1) (V := [0, 2, 4, 5, 9, 10, 14, 15, 20, 21, 22, 25]) (ks := []) (by kernel_rfl)

/- (*tipstaff/vm.machine).alu -/
def xf91 : XF := ⟨3, [0, 1, 2, 6, 4, 5, 22, 7, 8, 17, 19, 21, 23, 32, 33, 37, 57, 58, 48, 59, 65, 9, 10, 83, 78, 13],
  (.seq
 (.seq
 (.new (some 4) 32 (.var 1))
 (.seq
 (.new (some 5) 203 (.var 2))
 (.set 3 (.const (.bool false)))))
 (.seq
 (.seq
 .skip
 (.seq
 (.chk [(.var 0)])
 (.seq
 (.set 25 (.ld none (.offp 1 (.var 4))))
 (.seq
 (.set 9 (.ld (some 4) (.ixArr 11 4 (.offp 38 (.nn (.var 0))) (.var 25))))
 (.seq
 (.chk [(.var 0)])
 (.seq
 (.set 10 (.ld (some 5) (.var 4)))
 (.seq
 (.set 11 (.ld none (.offp 4 (.var 5))))
 (.seq
 (.resv 2)
 (.seq
 (.seq
 (.set 7 (.const (.bool true)))
 (.seq
 (.set 8 (.const (.bool true)))
 .skip))
 (.seq
 (.chk [(.var 7), (.var 8)])
 (.seq
 (.clr [7, 8])
 (.seq
 (.chk [(.const (.agg #[(.int .i64 0), (.int .u64 0), (.int .i64 0), (.pointer none)])), (.const (.agg #[(.int .i64 0), (.int .u64 0), (.int .i64 0), (.pointer none)]))])
 (.seq
 (.call (some 6) 97 [(.var 0), (.var 10), (.var 11)] [(.ld none (.offp 4 (.var 5))), (.ld (some 5) (.var 4)), (.ld (some 4) (.ixArr 11 4 (.offp 38 (.nn (.var 0))) (.var 25))), (.ld none (.offp 1 (.var 4)))])
 (.seq
 (.newR 0 7 138 (.const (.agg #[(.int .i64 0), (.int .u64 0), (.int .i64 0), (.pointer none)])))
 (.seq
 (.newR 1 8 138 (.const (.agg #[(.int .i64 0), (.int .u64 0), (.int .i64 0), (.pointer none)])))
 (.seq
 (.store 4 (.var 7) (.var 9) [])
 (.seq
 (.store 4 (.var 8) (.var 6) [])
 .skip)))))))))))))))))
 (.seq
 (.block 0
 (.seq
 (.set 12 (.pick (.bin .eql (.ld none (.offp 1 (.var 5))) (.const (.int .i64 11))) (.bin .eql (.ld none (.offp 0 (.var 8))) (.const (.int .i64 1))) (.const (.bool false))))
 (.cond (.var 12)
 (.seq
 (.call (some 13) 163 [(.const (.int .u64 0))] [])
 (.store 4 (.var 7) (.var 13) []))
 (.seq
 (.set 14 (.bin .eql (.ld none (.offp 1 (.var 5))) (.const (.int .i64 8))))
 (.cond (.var 14)
 (.seq
 (.call (some 15) 163 [(.const (.int .u64 0))] [])
 (.store 4 (.var 8) (.var 15) []))
 .skip)))))
 (.seq
 (.cond (.pick (.bin .eql (.ld none (.offp 0 (.var 7))) (.const (.int .i64 1))) (.bin .eql (.ld none (.offp 0 (.var 8))) (.const (.int .i64 1))) (.const (.bool false)))
 (.seq
 (.seq
 .skip
 (.seq
 (.chk [(.var 0)])
 (.seq
 (.set 18 (.ld none (.offp 1 (.var 4))))
 (.seq
 (.call (some 16) 165 [(.ld none (.offp 1 (.var 5))), (.ld none (.offp 3 (.var 5))), (.ld none (.offp 1 (.var 7))), (.ld none (.offp 1 (.var 8)))] [(.ld none (.offp 1 (.var 4)))])
 (.seq
 (.call (some 17) 163 [(.var 16)] [(.ld none (.offp 1 (.var 4)))])
 (.seq
 (.call (some 19) 164 [(.var 0), (.var 18), (.var 17)] [])
 (.set 3 (.var 19))))))))
 .ret)
 .skip)
 (.seq
 (.seq
 (.call (some 20) 166 [(.ld none (.offp 1 (.var 5))), (.ld (some 4) (.var 7)), (.ld (some 4) (.var 8))] [])
 (.seq
 (.chk [(.proj 1 (.var 20)), (.proj 0 (.var 20))])
 (.seq
 (.new (some 21) 138 (.const (.agg #[(.int .i64 0), (.int .u64 0), (.int .i64 0), (.pointer none)])))
 (.seq
 (.store 4 (.var 21) (.proj 0 (.var 20)) [])
 (.set 22 (.proj 1 (.var 20)))))))
 (.seq
 (.seq
 (.set 24 (.pick (.pick (.var 22) (.ld none (.offp 3 (.var 5))) (.const (.bool false))) (.bin .neq (.ld none (.offp 1 (.var 5))) (.const (.int .i64 8))) (.const (.bool false))))
 (.seq
 (.chk [(.pick (.var 24) (.ld (some 4) (.var 21)) (.const (.bool false))), (.pick (.var 24) (.ld none (.offp 1 (.var 4))) (.const (.bool false))), (.pick (.var 24) (.var 0) (.const (.bool false)))])
 (.seq
 (.cond (.pick (.var 24) (.const (.bool true)) (.const (.bool false)))
 (.call (some 23) 164 [(.var 0), (.ld none (.offp 1 (.var 4))), (.ld (some 4) (.var 21))] [])
 (.clr [23]))
 (.set 3 (.pick (.var 24) (.var 23) (.const (.bool false)))))))
 .ret)))))),
  [(.var 3)]⟩
theorem okx_91 : FnOk Tryz.prog 2 377 91 xf91 := fnOk_of Tryz.func91 (np := 3) (V := [0, 1, 2, 6, 4, 5, 22, 7, 8, 17, 19, 21, 23, 32, 33, 37, 57, 58, 48, 59, 65, 9, 10, 83, 78, 13]) (ks := []) (by kernel_rfl)
end Go.Proofs.YtmpgfgemnhbkhaaGreatDoor
