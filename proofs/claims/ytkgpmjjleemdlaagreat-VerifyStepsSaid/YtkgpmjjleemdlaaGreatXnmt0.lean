/- The interpreter's functions, part 0: made by program (geny.py). -/
import Derived.Test.YtkgpmjjleemdlaaGreatXnmz
import Derived.Test.YtkgpmjjleemdlaaGreatProg
set_option maxRecDepth 100000
set_option linter.unusedVariables false
namespace Go.Proofs.YtkgpmjjleemdlaaGreat
open Go.Eng
/- tipstaff/tipstaffref18.End -/
def xf7 : XF := ⟨1, [0, 2, 6],
  (.seq
 (.set 1 (.const (.slice none 0 0)))
 (.seq
 (.seq
 (.chk [(.upd 0 1 (.const zA0) (.const (.int .u8 149))), (.upd 4 1 (.upd 0 1 (.const zA0) (.const (.int .u8 183))) (.var 0))])
 (.seq
 (.row (some 2) 28 2 (.upd 5 5 (.upd 0 5 (.const zA3) (.upd 4 1 (.upd 0 1 (.const zA0) (.const (.int .u8 183))) (.var 0))) (.upd 0 1 (.const zA0) (.const (.int .u8 149)))))
 (.set 1 (.var 2))))
 .ret)),
  [(.var 1)]⟩
theorem okx_7 : FnOk Tryz.prog 0 161 7 xf7 := fnOk_of Tryz.func7 (np := 1) (V := [0, 2, 6]) (ks := []) (by kernel_rfl)

/- tipstaff/verify.Check -/
def xf8 : XF := ⟨2, [0, 1, 4, 5, 3, 14, 6, 7, 27, 8, 33, 32, 35, 9, 37, 39, 44],
  (.seq
 (.seq
 (.new (some 4) 39 (.var 1))
 (.seq
 (.new (some 2) 32 (.const (.agg #[(.int .i64 0), (.int .i64 0)])))
 (.set 3 (.const (.int .i64 0)))))
 (.seq
 (.seq
 (.seq
 (.call (some 5) 15 [(.var 0), (.ld none (.offp 2 (.var 4)))] [])
 (.seq
 (.chk [(.proj 1 (.var 5))])
 (.seq
 (.set 6 (.proj 0 (.var 5)))
 (.set 7 (.proj 1 (.var 5))))))
 (.cond (.bin .neq (.var 7) (.const (.int .i64 0)))
 (.seq
 (.cond (.bin .eql (.var 7) (.const (.int .i64 7)))
 (.seq
 (.seq
 (.chk [(.var 7)])
 (.seq
 (.store 2 (.var 2) (.const (.agg #[(.int .i64 0), (.int .i64 0)])) [])
 (.set 3 (.var 7))))
 .ret)
 .skip)
 (.seq
 (.seq
 (.chk [(.upd 0 1 (.const (.agg #[(.int .i64 0), (.int .i64 0)])) (.var 6))])
 (.seq
 (.store 2 (.var 2) (.upd 0 1 (.const (.agg #[(.int .i64 0), (.int .i64 0)])) (.var 6)) [])
 (.set 3 (.const (.int .i64 22)))))
 .ret))
 .skip))
 (.seq
 (.seq
 (.call (some 8) 16 [(.ld none (.offp 0 (.var 4))), (.const (.func (.func 17) #[] #[]))] [])
 (.cond (.var 8)
 (.seq
 (.seq
 (.store 2 (.var 2) (.const (.agg #[(.int .i64 0), (.int .i64 0)])) [])
 (.set 3 (.const (.int .i64 22))))
 .ret)
 .skip))
 (.seq
 (.set 9 (.const (.int .i64 512)))
 (.seq
 (.cond (.ld none (.offp 2 (.var 4)))
 (.set 9 (.const (.int .i64 2048)))
 .skip)
 (.seq
 (.seq
 (.chk [(.var 0)])
 (.seq
 (.set 11 (.ld (some 3) (.var 4)))
 (.seq
 (.mkmap (some 10) .i64 [])
 (.seq
 (.chk [(.upd 5 1 (.upd 1 3 (.upd 0 1 (.const (.agg #[(.slice none 0 0), (.slice none 0 0), (.slice none 0 0), (.bool false), (.slice none 0 0), (.map none), (.int .i64 0)])) (.var 0)) (.var 11)) (.var 10))])
 (.seq
 (.new (some 12) 62 (.upd 5 1 (.upd 1 3 (.upd 0 1 (.const (.agg #[(.slice none 0 0), (.slice none 0 0), (.slice none 0 0), (.bool false), (.slice none 0 0), (.map none), (.int .i64 0)])) (.var 0)) (.var 11)) (.var 10)))
 (.set 13 (.var 12)))))))
 (.seq
 (.seq
 (.chk [(.var 13)])
 (.seq
 (.call (some 14) 19 [] [])
 (.seq
 (.chk [(.upd 1 273 (.upd 0 1 (.const zA8) (.const (.int .i64 0))) (.var 14))])
 (.seq
 (.row (some 15) 76 1 (.upd 0 274 (.const zA8) (.upd 1 273 (.upd 0 1 (.const zA8) (.const (.int .i64 0))) (.var 14))))
 (.store 1 (.offp 4 (.nn (.var 13))) (.var 15) [])))))
 (.seq
 (.seq
 (.call (some 16) 20 [(.var 13), (.var 9)] [])
 (.seq
 (.chk [(.proj 1 (.var 16))])
 (.seq
 (.store 2 (.var 2) (.proj 0 (.var 16)) [])
 (.set 3 (.proj 1 (.var 16))))))
 .ret)))))))),
  [(.ld (some 2) (.var 2)), (.var 3)]⟩
theorem okx_8 : FnOk Tryz.prog 0 161 8 xf8 := fnOk_of Tryz.func8 (np := 2) (V := [0, 1, 4, 5, 3, 14, 6, 7, 27, 8, 33, 32, 35, 9, 37, 39, 44]) (ks := []) (by kernel_rfl)

/- tipstaff/tipstafflaw18.checks -/
def xf9 : XF := ⟨0, [0, 10, 12, 1, 2, 17, 19, 3, 4, 23, 25, 26, 27, 28, 29, 30, 31, 5, 6, 35, 37, 38, 39, 40, 41, 42, 7, 8],
  (.seq
 (.set 0 (.const (.bool false)))
 (.seq
 (.seq
 (.call (some 1) 7 [(.const (.int .i32 7))] [])
 (.seq
 (.call (some 2) 8 [(.var 1), (.const (.agg #[(.slice none 0 0), (.slice none 0 0), (.bool false)]))] [])
 (.seq
 (.chk [(.proj 1 (.var 2)), (.proj 0 (.var 2))])
 (.seq
 (.new (some 3) 32 (.const (.agg #[(.int .i64 0), (.int .i64 0)])))
 (.seq
 (.store 2 (.var 3) (.proj 0 (.var 2)) [])
 (.set 4 (.proj 1 (.var 2))))))))
 (.seq
 (.seq
 (.chk [(.upd 0 1 (.const zA0) (.const (.int .u8 149)))])
 (.seq
 (.row (some 5) 28 1 (.upd 0 5 (.const zA0) (.upd 0 1 (.const zA0) (.const (.int .u8 149)))))
 (.seq
 (.call (some 6) 8 [(.var 5), (.const (.agg #[(.slice none 0 0), (.slice none 0 0), (.bool false)]))] [])
 (.seq
 (.chk [(.proj 1 (.var 6)), (.proj 0 (.var 6))])
 (.seq
 (.new (some 7) 32 (.const (.agg #[(.int .i64 0), (.int .i64 0)])))
 (.seq
 (.store 2 (.var 7) (.proj 0 (.var 6)) [])
 (.set 8 (.proj 1 (.var 6)))))))))
 (.seq
 (.seq
 (.call (some 9) 21 [(.const (.int .i32 0)), (.const (.int .i32 1))] [])
 (.seq
 (.chk [(.upd 2 1 (.upd 1 1 (.upd 0 1 (.const zA0) (.const (.int .u8 113))) (.const (.int .u8 6))) (.const (.int .u8 0)))])
 (.seq
 (.row (some 10) 28 1 (.upd 0 5 (.const zA0) (.upd 2 1 (.upd 1 1 (.upd 0 1 (.const zA0) (.const (.int .u8 113))) (.const (.int .u8 6))) (.const (.int .u8 0)))))
 (.seq
 (.call (some 11) 22 [(.var 10)] [])
 (.seq
 (.call (some 12) 7 [(.const (.int .i32 1))] [])
 (.seq
 (.app (some 13) 28 5 (.var 11) (.var 12) [])
 (.seq
 (.app (some 14) 28 5 (.var 9) (.var 13) [])
 (.seq
 (.call (some 15) 23 [(.const (.int .i64 8)), (.const (.bool false)), (.const (.bool false))] [])
 (.seq
 (.call (some 16) 8 [(.var 14), (.var 15)] [])
 (.seq
 (.chk [(.proj 1 (.var 16)), (.proj 0 (.var 16))])
 (.seq
 (.new (some 17) 32 (.const (.agg #[(.int .i64 0), (.int .i64 0)])))
 (.seq
 (.store 2 (.var 17) (.proj 0 (.var 16)) [])
 (.set 18 (.proj 1 (.var 16)))))))))))))))
 (.seq
 (.seq
 (.call (some 19) 21 [(.const (.int .i32 0)), (.const (.int .i32 1))] [])
 (.seq
 (.chk [(.upd 2 1 (.upd 1 1 (.upd 0 1 (.const zA0) (.const (.int .u8 113))) (.const (.int .u8 6))) (.const (.int .u8 0)))])
 (.seq
 (.row (some 20) 28 1 (.upd 0 5 (.const zA0) (.upd 2 1 (.upd 1 1 (.upd 0 1 (.const zA0) (.const (.int .u8 113))) (.const (.int .u8 6))) (.const (.int .u8 0)))))
 (.seq
 (.call (some 21) 7 [(.const (.int .i32 1))] [])
 (.seq
 (.app (some 22) 28 5 (.var 20) (.var 21) [])
 (.seq
 (.app (some 23) 28 5 (.var 19) (.var 22) [])
 (.seq
 (.call (some 24) 23 [(.const (.int .i64 8)), (.const (.bool false)), (.const (.bool false))] [])
 (.seq
 (.call (some 25) 8 [(.var 23), (.var 24)] [])
 (.seq
 (.chk [(.proj 1 (.var 25)), (.proj 0 (.var 25))])
 (.seq
 (.new (some 26) 32 (.const (.agg #[(.int .i64 0), (.int .i64 0)])))
 (.seq
 (.store 2 (.var 26) (.proj 0 (.var 25)) [])
 (.set 27 (.proj 1 (.var 25))))))))))))))
 (.seq
 (.set 0 (.pick (.pick (.pick (.pick (.bin .eql (.var 4) (.const (.int .i64 0))) (.bin .eql (.var 8) (.const (.int .i64 13))) (.const (.bool false))) (.bin .eql (.ld none (.offp 0 (.var 7))) (.const (.int .i64 0))) (.const (.bool false))) (.bin .eql (.var 18) (.const (.int .i64 0))) (.const (.bool false))) (.bin .eql (.var 27) (.const (.int .i64 13))) (.const (.bool false))))
 .ret)))))),
  [(.var 0)]⟩
theorem okx_9 : FnOk Tryz.prog 0 161 9 xf9 := fnOk_of Tryz.func9 (np := 0) (V := [0, 10, 12, 1, 2, 17, 19, 3, 4, 23, 25, 26, 27, 28, 29, 30, 31, 5, 6, 35, 37, 38, 39, 40, 41, 42, 7, 8]) (ks := []) (by kernel_rfl)

/- tipstaff/cfg.Check -/
def xf15 : XF := ⟨2, [0, 1, 4, 5, 11, 6, 7, 19, 20, 8, 28],
  (.seq
 (.seq
 (.set 2 (.const (.int .i64 0)))
 (.set 3 (.const (.int .i64 0))))
 (.seq
 (.seq
 (.seq
 (.call (some 4) 29 [(.var 0)] [])
 (.seq
 (.chk [(.proj 1 (.var 4))])
 (.seq
 (.set 5 (.proj 0 (.var 4)))
 (.set 6 (.proj 1 (.var 4))))))
 (.cond (.bin .neq (.var 6) (.const (.int .i64 0)))
 (.seq
 (.seq
 (.chk [(.var 6)])
 (.seq
 (.set 2 (.var 5))
 (.set 3 (.var 6))))
 .ret)
 .skip))
 (.seq
 (.seq
 (.seq
 (.call (some 7) 31 [(.var 0)] [])
 (.seq
 (.call (some 8) 30 [(.var 7), (.const (.bool false))] [])
 (.set 9 (.var 8))))
 (.cond (.bin .geq (.var 9) (.const (.int .i64 0)))
 (.seq
 (.seq
 (.set 2 (.var 9))
 (.set 3 (.const (.int .i64 22))))
 .ret)
 .skip))
 (.seq
 (.seq
 (.seq
 (.chk [(.pick (.un .not (.var 1)) (.var 0) (.const (.bool false)))])
 (.cond (.pick (.un .not (.var 1)) (.const (.bool true)) (.const (.bool false)))
 (.call (some 10) 32 [(.var 0)] [])
 (.clr [10])))
 (.cond (.pick (.un .not (.var 1)) (.var 10) (.const (.bool false)))
 (.seq
 (.seq
 (.set 2 (.const (.int .i64 0)))
 (.set 3 (.const (.int .i64 22))))
 .ret)
 .skip))
 (.seq
 (.seq
 (.set 2 (.const (.int .i64 0)))
 (.set 3 (.const (.int .i64 0))))
 .ret))))),
  [(.var 2), (.var 3)]⟩
theorem okx_15 : FnOk Tryz.prog 0 161 15 xf15 := fnOk_of Tryz.func15 (np := 2) (V := [0, 1, 4, 5, 11, 6, 7, 19, 20, 8, 28]) (ks := []) (by kernel_rfl)

/- slices.ContainsFunc[[]tipstaff/bmap.Spec,tipstaff/bmap.Spec] -/
def xf16 : XF := ⟨2, [0, 1, 4, 7],
  (.seq
 (.set 2 (.const (.bool false)))
 (.seq
 (.seq
 (.call (some 3) 33 [(.var 0), (.var 1)] [])
 (.set 2 (.bin .geq (.var 3) (.const (.int .i64 0)))))
 .ret)),
  [(.var 2)]⟩
theorem okx_16 : FnOk Tryz.prog 0 161 16 xf16 := fnOk_of Tryz.func16 (np := 2) (V := [0, 1, 4, 7]) (ks := []) (by kernel_rfl)

/- tipstaff/verify.Check$1 -/
def xf17 : XF := ⟨1, [0, 2, 1, 4],
  (.seq
 (.seq
 (.new (some 2) 55 (.var 0))
 (.set 1 (.const (.bool false))))
 (.seq
 (.seq
 (.call (some 3) 18 [(.ld (some 4) (.var 2))] [])
 (.set 1 (.bin .neq (.var 3) (.const (.int .i64 0)))))
 .ret)),
  [(.var 1)]⟩
theorem okx_17 : FnOk Tryz.prog 0 161 17 xf17 := fnOk_of Tryz.func17 (np := 1) (V := [0, 2, 1, 4]) (ks := []) (by kernel_rfl)

/- tipstaff/bmap.Check -/
def xf18 : XF := ⟨1, [0, 2, 1, 6, 10, 3, 13, 14, 22, 29, 31, 40, 46],
  (.seq
 (.seq
 (.new (some 2) 55 (.var 0))
 (.set 1 (.const (.int .i64 0))))
 (.seq
 (.seq
 (.call (some 3) 34 [(.ld none (.offp 2 (.var 2))), (.const (.int .i64 1)), (.const (.int .i64 64))] [])
 (.seq
 (.chk [(.pick (.var 3) (.ld none (.offp 3 (.var 2))) (.const (.bool false)))])
 (.seq
 (.cond (.pick (.var 3) (.const (.bool true)) (.const (.bool false)))
 (.call (some 4) 34 [(.ld none (.offp 3 (.var 2))), (.const (.int .i64 1)), (.const (.int .i64 64))] [])
 (.clr [4]))
 (.set 5 (.pick (.var 3) (.var 4) (.const (.bool false)))))))
 (.seq
 (.seq
 (.set 6 (.ld none (.offp 0 (.var 2))))
 (.block 0
 (.seq
 (.set 7 (.bin .eql (.var 6) (.const (.int .i64 0))))
 (.cond (.var 7)
 (.set 5 (.pick (.var 5) (.bin .eql (.ld none (.offp 1 (.var 2))) (.const (.int .i64 4))) (.const (.bool false))))
 (.seq
 (.seq
 (.set 8 (.bin .eql (.var 6) (.const (.int .i64 1))))
 (.cond (.var 8)
 .skip
 (.set 8 (.bin .eql (.var 6) (.const (.int .i64 2))))))
 (.cond (.var 8)
 (.seq
 (.chk [(.pick (.var 5) (.ld none (.offp 1 (.var 2))) (.const (.bool false)))])
 (.seq
 (.cond (.pick (.var 5) (.const (.bool true)) (.const (.bool false)))
 (.call (some 9) 34 [(.ld none (.offp 1 (.var 2))), (.const (.int .i64 1)), (.const (.int .i64 16))] [])
 (.clr [9]))
 (.set 5 (.pick (.var 5) (.var 9) (.const (.bool false))))))
 (.seq
 (.seq
 (.set 10 (.bin .eql (.var 6) (.const (.int .i64 3))))
 (.cond (.var 10)
 .skip
 (.set 10 (.bin .eql (.var 6) (.const (.int .i64 4))))))
 (.cond (.var 10)
 (.set 5 (.pick (.var 5) (.bin .eql (.ld none (.offp 1 (.var 2))) (.const (.int .i64 0))) (.const (.bool false))))
 (.seq
 (.set 11 (.bin .eql (.var 6) (.const (.int .i64 5))))
 (.cond (.var 11)
 (.seq
 (.chk [(.pick (.var 5) (.ld none (.offp 1 (.var 2))) (.const (.bool false)))])
 (.seq
 (.cond (.pick (.var 5) (.const (.bool true)) (.const (.bool false)))
 (.call (some 12) 34 [(.ld none (.offp 1 (.var 2))), (.const (.int .i64 5)), (.const (.int .i64 16))] [])
 (.clr [12]))
 (.set 5 (.pick (.var 5) (.var 12) (.const (.bool false))))))
 (.set 5 (.const (.bool false)))))))))))))
 (.seq
 (.cond (.un .not (.var 5))
 (.seq
 (.set 1 (.const (.int .i64 22)))
 .ret)
 .skip)
 (.seq
 (.set 1 (.const (.int .i64 0)))
 .ret))))),
  [(.var 1)]⟩
theorem okx_18 : FnOk Tryz.prog 0 161 18 xf18 := fnOk_of Tryz.func18 (np := 1) (V := [0, 2, 1, 6, 10, 3, 13, 14, 22, 29, 31, 40, 46]) (ks := []) (by kernel_rfl)

/- tipstaff/absreg.Start -/
def xf19 : XF := ⟨0, [0, 1],
  (.seq
 (.new (some 0) 73 (.const zA7))
 (.seq
 (.new (some 1) 73 (.const zA7))
 (.seq
 (.seq
 (.chk [(.upd 0 1 (.const zA4) (.const (.int .i64 2)))])
 (.store 11 (.ixArr 11 11 (.offp 0 (.var 1)) (.const (.int .i64 1))) (.upd 0 1 (.const zA4) (.const (.int .i64 2))) []))
 (.seq
 (.seq
 (.chk [(.upd 0 1 (.const zA4) (.const (.int .i64 3)))])
 (.store 11 (.ixArr 11 11 (.offp 0 (.var 1)) (.const (.int .i64 10))) (.upd 0 1 (.const zA4) (.const (.int .i64 3))) []))
 (.seq
 (.store 273 (.var 0) (.ld (some 273) (.var 1)) [])
 .ret))))),
  [(.ld (some 273) (.var 0))]⟩
theorem okx_19 : FnOk Tryz.prog 0 161 19 xf19 := fnOk_of Tryz.func19 (np := 0) (V := [0, 1]) (ks := []) (by kernel_rfl)

/- (*tipstaff/verify.checker).run -/
def xf20 : XF := ⟨2, [0, 1, 4, 5, 6, 7, 8, 29, 41, 61, 63, 64, 65, 52, 54, 58, 60, 71, 9, 10, 86],
  (.seq
 (.seq
 (.new (some 2) 32 (.const (.agg #[(.int .i64 0), (.int .i64 0)])))
 (.set 3 (.const (.int .i64 0))))
 (.seq
 (.set 4 (.const (.int .i64 0)))
 (.seq
 (.block 0
 (.loop [0, 1, 2, 4]
 (.seq
 (.cond (.bin .gtr (.len false (.ld none (.offp 4 (.nn (.var 0))))) (.const (.int .i64 0)))
 .skip
 (.exit 0))
 (.block 1
 (.seq
 (.set 5 (.bin .sub (.len false (.ld none (.offp 4 (.nn (.var 0))))) (.const (.int .i64 1))))
 (.seq
 (.seq
 (.set 7 (.ld (some 274) (.ixSl 274 (.ld none (.offp 4 (.nn (.var 0)))) (.var 5))))
 (.seq
 (.new (some 6) 76 (.const zA8))
 (.store 274 (.var 6) (.var 7) [])))
 (.seq
 (.store 1 (.offp 4 (.nn (.var 0))) (.slSl 274 (.ld none (.offp 4 (.nn (.var 0)))) (.const (.int .i64 0)) (.var 5)) [])
 (.seq
 (.seq
 (.call (some 8) 35 [(.var 0), (.ld (some 274) (.var 6))] [])
 (.cond (.var 8)
 (.exit 1)
 .skip))
 (.seq
 (.cond (.bin .eql (.var 4) (.var 1))
 (.seq
 (.seq
 (.chk [(.upd 1 1 (.upd 0 1 (.const (.agg #[(.int .i64 0), (.int .i64 0)])) (.ld none (.offp 0 (.var 6)))) (.var 4))])
 (.seq
 (.store 2 (.var 2) (.upd 1 1 (.upd 0 1 (.const (.agg #[(.int .i64 0), (.int .i64 0)])) (.ld none (.offp 0 (.var 6)))) (.var 4)) [])
 (.set 3 (.const (.int .i64 7)))))
 .ret)
 .skip)
 (.seq
 (.seq
 .skip
 (.seq
 (.set 13 (.ld none (.offp 5 (.nn (.var 0)))))
 (.seq
 (.set 14 (.ld none (.offp 0 (.var 6))))
 (.seq
 (.set 15 (.ld none (.offp 5 (.nn (.var 0)))))
 (.seq
 (.set 16 (.ld none (.offp 0 (.var 6))))
 (.seq
 (.set 10 (.ld (some 273) (.offp 1 (.var 6))))
 (.seq
 (.resv 1)
 (.seq
 (.seq
 (.set 11 (.const (.bool true)))
 .skip)
 (.seq
 (.chk [(.var 11)])
 (.seq
 (.clr [11])
 (.seq
 (.chk [(.upd 0 273 (.const zA7) (.var 10))])
 (.seq
 (.look (some 9) (.slice none 0 0) false .i64 (.var 15) (.var 16) [(.ld (some 273) (.offp 1 (.var 6))), (.ld none (.offp 0 (.var 6))), (.ld none (.offp 5 (.nn (.var 0)))), (.ld none (.offp 0 (.var 6))), (.ld none (.offp 5 (.nn (.var 0))))])
 (.seq
 (.rowR 0 11 73 1 (.upd 0 273 (.const zA7) (.var 10)))
 (.seq
 (.app (some 12) 73 273 (.var 9) (.var 11) [(.ld none (.offp 0 (.var 6))), (.ld none (.offp 5 (.nn (.var 0))))])
 (.seq
 (.upd .i64 (.var 13) (.var 14) (.var 12) [])
 .skip)))))))))))))))
 (.seq
 (.set 4 (.bin .add (.var 4) (.const (.int .i64 1))))
 (.seq
 (.seq
 (.call (some 17) 36 [(.var 0), (.ld (some 274) (.var 6))] [])
 (.seq
 (.chk [(.proj 1 (.var 17))])
 (.seq
 (.set 18 (.proj 0 (.var 17)))
 (.set 19 (.proj 1 (.var 17))))))
 (.seq
 (.cond (.un .not (.var 19))
 (.seq
 (.seq
 (.chk [(.upd 1 1 (.upd 0 1 (.const (.agg #[(.int .i64 0), (.int .i64 0)])) (.ld none (.offp 0 (.var 6)))) (.var 4))])
 (.seq
 (.store 2 (.var 2) (.upd 1 1 (.upd 0 1 (.const (.agg #[(.int .i64 0), (.int .i64 0)])) (.ld none (.offp 0 (.var 6)))) (.var 4)) [])
 (.set 3 (.const (.int .i64 13)))))
 .ret)
 .skip)
 (.seq
 (.app (some 20) 76 274 (.ld none (.offp 4 (.nn (.var 0)))) (.var 18) [])
 (.store 1 (.offp 4 (.nn (.var 0))) (.var 20) [])))))))))))))))
 (.seq
 (.seq
 (.chk [(.upd 1 1 (.upd 0 1 (.const (.agg #[(.int .i64 0), (.int .i64 0)])) (.const (.int .i64 0))) (.var 4))])
 (.seq
 (.store 2 (.var 2) (.upd 1 1 (.upd 0 1 (.const (.agg #[(.int .i64 0), (.int .i64 0)])) (.const (.int .i64 0))) (.var 4)) [])
 (.set 3 (.const (.int .i64 0)))))
 .ret)))),
  [(.ld (some 2) (.var 2)), (.var 3)]⟩
theorem okx_20 : FnOk Tryz.prog 0 161 20 xf20 := fnOk_of Tryz.func20 (np := 2) (V := [0, 1, 4, 5, 6, 7, 8, 29, 41, 61, 63, 64, 65, 52, 54, 58, 60, 71, 9, 10, 86]) (ks := [[0, 1, 2, 4]]) (by kernel_rfl)

/- tipstaff/tipstaffref18.Key -/
def xf21 : XF := ⟨2, [0, 1, 4, 13],
  (.seq
 (.set 2 (.const (.slice none 0 0)))
 (.seq
 (.seq
 (.chk [(.upd 4 1 (.upd 0 1 (.const zA0) (.const (.int .u8 133))) (.const (.int .i32 1))), (.upd 4 1 (.upd 1 1 (.upd 0 1 (.const zA0) (.const (.int .u8 7))) (.const (.int .u8 2))) (.const (.int .i32 (-8)))), (.upd 2 1 (.upd 1 1 (.upd 0 1 (.const zA0) (.const (.int .u8 191))) (.const (.int .u8 2))) (.const (.int .u8 10))), (.upd 4 1 (.upd 2 1 (.upd 1 1 (.upd 0 1 (.const zA0) (.const (.int .u8 24))) (.const (.int .u8 1))) (.const (.int .u8 1))) (.var 0)), (.upd 4 1 (.upd 3 1 (.upd 1 1 (.upd 0 1 (.const zA0) (.const (.int .u8 98))) (.const (.int .u8 10))) (.const (.int .i16 (-8)))) (.var 1))])
 (.seq
 (.row (some 3) 28 6 (.upd 25 5 (.upd 20 5 (.upd 15 5 (.upd 10 5 (.upd 5 5 (.upd 0 5 (.const zA6) (.upd 4 1 (.upd 3 1 (.upd 1 1 (.upd 0 1 (.const zA0) (.const (.int .u8 98))) (.const (.int .u8 10))) (.const (.int .i16 (-8)))) (.var 1))) (.upd 4 1 (.upd 2 1 (.upd 1 1 (.upd 0 1 (.const zA0) (.const (.int .u8 24))) (.const (.int .u8 1))) (.const (.int .u8 1))) (.var 0))) (.const zA0)) (.upd 2 1 (.upd 1 1 (.upd 0 1 (.const zA0) (.const (.int .u8 191))) (.const (.int .u8 2))) (.const (.int .u8 10)))) (.upd 4 1 (.upd 1 1 (.upd 0 1 (.const zA0) (.const (.int .u8 7))) (.const (.int .u8 2))) (.const (.int .i32 (-8))))) (.upd 4 1 (.upd 0 1 (.const zA0) (.const (.int .u8 133))) (.const (.int .i32 1)))))
 (.set 2 (.var 3))))
 .ret)),
  [(.var 2)]⟩
theorem okx_21 : FnOk Tryz.prog 0 161 21 xf21 := fnOk_of Tryz.func21 (np := 2) (V := [0, 1, 4, 13]) (ks := []) (by kernel_rfl)

/- tipstaff/tipstaffref18.Found -/
def xf22 : XF := ⟨1, [0, 2, 7, 3, 10],
  (.seq
 (.set 1 (.const (.slice none 0 0)))
 (.seq
 (.seq
 (.chk [(.upd 0 1 (.const zA0) (.const (.int .u8 149))), (.upd 1 1 (.upd 0 1 (.const zA0) (.const (.int .u8 183))) (.const (.int .u8 0))), (.upd 3 1 (.upd 1 1 (.upd 0 1 (.const zA0) (.const (.int .u8 85))) (.const (.int .u8 0))) (.const (.int .i16 2)))])
 (.seq
 (.row (some 2) 28 3 (.upd 10 5 (.upd 5 5 (.upd 0 5 (.const (.agg #[(.int .u8 0), (.int .u8 0), (.int .u8 0), (.int .i16 0), (.int .i32 0), (.int .u8 0), (.int .u8 0), (.int .u8 0), (.int .i16 0), (.int .i32 0), (.int .u8 0), (.int .u8 0), (.int .u8 0), (.int .i16 0), (.int .i32 0)])) (.upd 3 1 (.upd 1 1 (.upd 0 1 (.const zA0) (.const (.int .u8 85))) (.const (.int .u8 0))) (.const (.int .i16 2)))) (.upd 1 1 (.upd 0 1 (.const zA0) (.const (.int .u8 183))) (.const (.int .u8 0)))) (.upd 0 1 (.const zA0) (.const (.int .u8 149)))))
 (.set 3 (.var 2))))
 (.seq
 (.seq
 (.app (some 4) 28 5 (.var 3) (.var 0) [])
 (.set 1 (.var 4)))
 .ret))),
  [(.var 1)]⟩
theorem okx_22 : FnOk Tryz.prog 0 161 22 xf22 := fnOk_of Tryz.func22 (np := 1) (V := [0, 2, 7, 3, 10]) (ks := []) (by kernel_rfl)

/- tipstaff/tipstafflaw18.array -/
def xf23 : XF := ⟨3, [0, 1, 2, 6, 9, 11],
  (.seq
 (.new (some 3) 39 (.const (.agg #[(.slice none 0 0), (.slice none 0 0), (.bool false)])))
 (.seq
 (.seq
 (.chk [(.upd 3 1 (.upd 2 1 (.upd 1 1 (.upd 0 1 (.const (.agg (Array.replicate 4 (.int .i64 0)))) (.const (.int .i64 0))) (.const (.int .i64 4))) (.var 0)) (.const (.int .i64 2)))])
 (.seq
 (.row (some 4) 55 1 (.upd 0 4 (.const (.agg (Array.replicate 4 (.int .i64 0)))) (.upd 3 1 (.upd 2 1 (.upd 1 1 (.upd 0 1 (.const (.agg (Array.replicate 4 (.int .i64 0)))) (.const (.int .i64 0))) (.const (.int .i64 4))) (.var 0)) (.const (.int .i64 2)))))
 (.seq
 (.row (some 5) 4 1 (.upd 0 1 (.const (.agg #[(.bool false)])) (.var 1)))
 (.seq
 (.chk [(.upd 2 1 (.upd 1 1 (.upd 0 1 (.const (.agg #[(.slice none 0 0), (.slice none 0 0), (.bool false)])) (.var 4)) (.var 5)) (.var 2))])
 (.store 3 (.var 3) (.upd 2 1 (.upd 1 1 (.upd 0 1 (.const (.agg #[(.slice none 0 0), (.slice none 0 0), (.bool false)])) (.var 4)) (.var 5)) (.var 2)) [])))))
 .ret)),
  [(.ld (some 3) (.var 3))]⟩
theorem okx_23 : FnOk Tryz.prog 0 161 23 xf23 := fnOk_of Tryz.func23 (np := 3) (V := [0, 1, 2, 6, 9, 11]) (ks := []) (by kernel_rfl)

/- tipstaff/insn.Of -/
def xf24 : XF := ⟨1, [0, 2, 4, 5, 9, 10, 14, 15, 20, 21, 22, 25],
  (.seq
 (.new (some 1) 82 (.const zA1))
 (.seq
 (.seq
 (.set 2 (.bin .and (.var 0) (.const (.int .u8 7))))
 (.block 0
 (.seq
 (.seq
 (.set 3 (.bin .eql (.var 2) (.const (.int .u8 4))))
 (.cond (.var 3)
 .skip
 (.set 3 (.bin .eql (.var 2) (.const (.int .u8 7))))))
 (.cond (.var 3)
 (.seq
 (.seq
 (.call (some 4) 37 [(.var 0)] [])
 (.store 5 (.var 1) (.var 4) []))
 .ret)
 (.seq
 (.seq
 (.set 5 (.bin .eql (.var 2) (.const (.int .u8 5))))
 (.cond (.var 5)
 .skip
 (.set 5 (.bin .eql (.var 2) (.const (.int .u8 6))))))
 (.cond (.var 5)
 (.seq
 (.seq
 (.call (some 6) 38 [(.var 0)] [])
 (.store 5 (.var 1) (.var 6) []))
 .ret)
 (.seq
 (.seq
 (.set 7 (.bin .eql (.var 2) (.const (.int .u8 1))))
 (.cond (.var 7)
 .skip
 (.seq
 (.set 7 (.bin .eql (.var 2) (.const (.int .u8 2))))
 (.cond (.var 7)
 .skip
 (.set 7 (.bin .eql (.var 2) (.const (.int .u8 3))))))))
 (.cond (.var 7)
 (.seq
 (.seq
 (.call (some 8) 39 [(.var 0)] [])
 (.store 5 (.var 1) (.var 8) []))
 .ret)
 .skip))))))))
 (.seq
 (.seq
 (.set 9 (.var 0))
 (.block 1
 (.seq
 (.set 10 (.bin .eql (.var 9) (.const (.int .u8 24))))
 (.cond (.var 10)
 (.seq
 (.seq
 (.chk [(.upd 2 1 (.upd 0 1 (.const zA1) (.const (.int .i64 9))) (.const (.int .i64 8)))])
 (.store 5 (.var 1) (.upd 2 1 (.upd 0 1 (.const zA1) (.const (.int .i64 9))) (.const (.int .i64 8))) []))
 .ret)
 (.seq
 (.set 11 (.bin .eql (.var 9) (.const (.int .u8 0))))
 (.cond (.var 11)
 (.seq
 (.seq
 (.chk [(.upd 0 1 (.const zA1) (.const (.int .i64 10)))])
 (.store 5 (.var 1) (.upd 0 1 (.const zA1) (.const (.int .i64 10))) []))
 .ret)
 .skip))))))
 (.seq
 (.store 5 (.var 1) (.const zA1) [])
 .ret)))),
  [(.ld (some 5) (.var 1))]⟩
theorem okx_24 : FnOk Tryz.prog 0 161 24 xf24 := fnOk_of Tryz.func24 (np := 1) (V := [0, 2, 4, 5, 9, 10, 14, 15, 20, 21, 22, 25]) (ks := []) (by kernel_rfl)

/- slices.Sort[[]int,int] -/
def xf27 : XF := ⟨1, [0, 2, 9],
  (.seq
 (.set 1 (.len false (.var 0)))
 (.seq
 (.chk [(.var 0)])
 (.seq
 (.call (some 2) 41 [(.conv .u64 (.var 1))] [])
 (.call none 42 [(.var 0), (.const (.int .i64 0)), (.var 1), (.var 2)] [])))),
  []⟩
theorem okx_27 : FnOk Tryz.prog 0 161 27 xf27 := fnOk_of Tryz.func27 (np := 1) (V := [0, 2, 9]) (ks := []) (by kernel_rfl)

/- slices.Compact[[]int,int] -/
def xf28 : XF := ⟨1, [0, 2, 3, 4, 5],
  (.seq
 (.set 1 (.const (.slice none 0 0)))
 (.seq
 (.cond (.bin .lss (.len false (.var 0)) (.const (.int .i64 2)))
 (.seq
 (.set 1 (.var 0))
 .ret)
 .skip)
 (.seq
 (.seq
 (.set 2 (.const (.int .i64 1)))
 (.block 0
 (.loop [0, 2]
 (.seq
 (.cond (.bin .lss (.var 2) (.len false (.var 0)))
 .skip
 (.exit 0))
 (.seq
 (.block 1
 (.seq
 .skip
 (.cond (.bin .eql (.ld none (.ixSl 1 (.var 0) (.var 2))) (.ld none (.ixSl 1 (.var 0) (.bin .sub (.var 2) (.const (.int .i64 1))))))
 (.seq
 (.set 3 (.slSl 1 (.var 0) (.var 2) (.len false (.var 0))))
 (.seq
 (.seq
 (.set 4 (.const (.int .i64 1)))
 (.block 2
 (.loop [0, 2, 3, 4]
 (.seq
 (.cond (.bin .lss (.var 4) (.len false (.var 3)))
 .skip
 (.exit 2))
 (.seq
 (.block 3
 (.seq
 .skip
 (.cond (.bin .neq (.ld none (.ixSl 1 (.var 3) (.var 4))) (.ld none (.ixSl 1 (.var 3) (.bin .sub (.var 4) (.const (.int .i64 1))))))
 (.seq
 (.store 1 (.ixSl 1 (.var 0) (.var 2)) (.ld none (.ixSl 1 (.var 3) (.var 4))) [])
 (.set 2 (.bin .add (.var 2) (.const (.int .i64 1)))))
 .skip)))
 (.set 4 (.bin .add (.var 4) (.const (.int .i64 1)))))))))
 (.seq
 (.clear [(.int .i64 0)] (.slSl 1 (.var 0) (.var 2) (.len false (.var 0))) [])
 (.seq
 (.set 1 (.slSl 1 (.var 0) (.const (.int .i64 0)) (.var 2)))
 .ret))))
 .skip)))
 (.set 2 (.bin .add (.var 2) (.const (.int .i64 1)))))))))
 (.seq
 (.set 1 (.var 0))
 .ret)))),
  [(.var 1)]⟩
theorem okx_28 : FnOk Tryz.prog 0 161 28 xf28 := fnOk_of Tryz.func28 (np := 1) (V := [0, 2, 3, 4, 5]) (ks := [[0, 2], [0, 2, 3, 4]]) (by kernel_rfl)

/- tipstaff/shape.Check -/
def xf29 : XF := ⟨1, [0, 2, 3, 8, 12, 18, 17, 4, 23, 29, 28, 5, 34, 6, 45, 7],
  (.seq
 (.seq
 (.set 1 (.const (.int .i64 0)))
 (.set 2 (.const (.int .i64 0))))
 (.seq
 (.block 0
 (.seq
 (.set 3 (.bin .gtr (.len false (.var 0)) (.const (.int .i64 256))))
 (.cond (.var 3)
 (.seq
 (.seq
 (.set 1 (.const (.int .i64 0)))
 (.set 2 (.const (.int .i64 7))))
 .ret)
 (.seq
 (.set 4 (.bin .eql (.len false (.var 0)) (.const (.int .i64 0))))
 (.cond (.var 4)
 (.seq
 (.seq
 (.set 1 (.const (.int .i64 0)))
 (.set 2 (.const (.int .i64 22))))
 .ret)
 .skip)))))
 (.seq
 (.seq
 (.seq
 (.set 6 (.len false (.var 0)))
 (.set 5 (.const (.int .i64 0))))
 (.block 1
 (.loop [0, 5, 6]
 (.seq
 (.cond (.bin .lss (.var 5) (.var 6))
 .skip
 (.exit 1))
 (.seq
 (.block 2
 (.seq
 (.set 7 (.var 5))
 (.seq
 (.call (some 8) 43 [(.var 0), (.var 7)] [])
 (.cond (.un .not (.var 8))
 (.seq
 (.seq
 (.set 1 (.var 7))
 (.set 2 (.const (.int .i64 22))))
 .ret)
 .skip))))
 (.set 5 (.bin .add (.var 5) (.const (.int .i64 1)))))))))
 (.seq
 (.seq
 (.seq
 (.set 10 (.len false (.var 0)))
 (.set 9 (.const (.int .i64 0))))
 (.block 3
 (.loop [0, 9, 10]
 (.seq
 (.cond (.bin .lss (.var 9) (.var 10))
 .skip
 (.exit 3))
 (.seq
 (.block 4
 (.seq
 (.set 11 (.var 9))
 (.seq
 (.call (some 12) 44 [(.var 0), (.var 11)] [])
 (.cond (.un .not (.var 12))
 (.seq
 (.seq
 (.set 1 (.var 11))
 (.set 2 (.const (.int .i64 22))))
 .ret)
 .skip))))
 (.set 9 (.bin .add (.var 9) (.const (.int .i64 1)))))))))
 (.seq
 (.set 13 (.bin .sub (.len false (.var 0)) (.const (.int .i64 1))))
 (.seq
 (.seq
 (.seq
 (.call (some 14) 45 [(.ld (some 5) (.ixSl 5 (.var 0) (.var 13)))] [])
 (.set 15 (.var 14)))
 (.cond (.pick (.bin .neq (.var 15) (.const (.int .i64 5))) (.bin .neq (.var 15) (.const (.int .i64 3))) (.const (.bool false)))
 (.seq
 (.seq
 (.set 1 (.var 13))
 (.set 2 (.const (.int .i64 22))))
 .ret)
 .skip))
 (.seq
 (.seq
 (.set 1 (.const (.int .i64 0)))
 (.set 2 (.const (.int .i64 0))))
 .ret))))))),
  [(.var 1), (.var 2)]⟩
theorem okx_29 : FnOk Tryz.prog 0 161 29 xf29 := fnOk_of Tryz.func29 (np := 1) (V := [0, 2, 3, 8, 12, 18, 17, 4, 23, 29, 28, 5, 34, 6, 45, 7]) (ks := [[0, 5, 6], [0, 9, 10]]) (by kernel_rfl)

/- slices.Index[[]bool,bool] -/
def xf30 : XF := ⟨2, [0, 1, 4, 8, 7, 5],
  (.seq
 (.set 2 (.const (.int .i64 0)))
 (.seq
 (.seq
 (.seq
 (.set 4 (.len false (.var 0)))
 (.set 3 (.const (.int .i64 0))))
 (.block 0
 (.loop [0, 1, 3, 4]
 (.seq
 (.cond (.bin .lss (.var 3) (.var 4))
 .skip
 (.exit 0))
 (.seq
 (.block 1
 (.seq
 (.set 5 (.var 3))
 (.cond (.eqx false .bool (.var 1) (.ld none (.ixSl 1 (.var 0) (.var 5))))
 (.seq
 (.set 2 (.var 5))
 .ret)
 .skip)))
 (.set 3 (.bin .add (.var 3) (.const (.int .i64 1)))))))))
 (.seq
 (.set 2 (.const (.int .i64 (-1))))
 .ret))),
  [(.var 2)]⟩
theorem okx_30 : FnOk Tryz.prog 0 161 30 xf30 := fnOk_of Tryz.func30 (np := 2) (V := [0, 1, 4, 8, 7, 5]) (ks := [[0, 1, 3, 4]]) (by kernel_rfl)

/- tipstaff/cfg.Reach -/
def xf31 : XF := ⟨1, [0, 2, 8, 3, 11, 4, 17, 16, 15, 5, 6, 34, 43],
  (.seq
 (.set 1 (.const (.slice none 0 0)))
 (.seq
 (.seq
 (.call (some 2) 46 [(.var 0)] [])
 (.set 3 (.var 2)))
 (.seq
 (.seq
 (.mk (some 4) 4 [(.bool false)] (.len false (.var 0)) (.len false (.var 0)) [])
 (.set 5 (.var 4)))
 (.seq
 (.seq
 (.seq
 (.set 8 (.ld none (.offp 1 (.nn (.var 3)))))
 (.seq
 (.set 7 (.len false (.var 8)))
 (.set 6 (.const (.int .i64 0)))))
 (.block 0
 (.loop [0, 5, 6, 7, 8]
 (.seq
 (.cond (.bin .lss (.var 6) (.var 7))
 .skip
 (.exit 0))
 (.seq
 (.block 1
 (.seq
 (.seq
 (.chk [(.ld none (.ixSl 1 (.var 8) (.var 6)))])
 (.seq
 (.set 9 (.var 6))
 (.set 10 (.ld none (.ixSl 1 (.var 8) (.var 6))))))
 (.seq
 (.store 1 (.ixSl 1 (.var 5) (.var 9)) (.bin .eql (.var 10) (.const (.int .i64 2))) [])
 (.seq
 (.seq
 (.chk [(.pick (.bin .gtr (.var 9) (.const (.int .i64 0))) (.ld (some 5) (.ixSl 5 (.var 0) (.var 9))) (.const (.bool false)))])
 (.seq
 (.cond (.pick (.bin .gtr (.var 9) (.const (.int .i64 0))) (.const (.bool true)) (.const (.bool false)))
 (.call (some 11) 47 [(.ld (some 5) (.ixSl 5 (.var 0) (.var 9)))] [])
 (.clr [11]))
 (.seq
 (.chk [(.pick (.pick (.bin .gtr (.var 9) (.const (.int .i64 0))) (.bin .eql (.var 11) (.const (.int .i64 10))) (.const (.bool false))) (.ld (some 5) (.ixSl 5 (.var 0) (.bin .sub (.var 9) (.const (.int .i64 1))))) (.const (.bool false)))])
 (.cond (.pick (.pick (.bin .gtr (.var 9) (.const (.int .i64 0))) (.bin .eql (.var 11) (.const (.int .i64 10))) (.const (.bool false))) (.const (.bool true)) (.const (.bool false)))
 (.call (some 12) 47 [(.ld (some 5) (.ixSl 5 (.var 0) (.bin .sub (.var 9) (.const (.int .i64 1)))))] [])
 (.clr [12])))))
 (.cond (.pick (.pick (.bin .gtr (.var 9) (.const (.int .i64 0))) (.bin .eql (.var 11) (.const (.int .i64 10))) (.const (.bool false))) (.bin .eql (.var 12) (.const (.int .i64 9))) (.const (.bool false)))
 (.store 1 (.ixSl 1 (.var 5) (.var 9)) (.pick (.ld none (.ixSl 1 (.var 5) (.var 9))) (.const (.bool true)) (.ld none (.ixSl 1 (.var 5) (.bin .sub (.var 9) (.const (.int .i64 1)))))) [])
 .skip)))))
 (.set 6 (.bin .add (.var 6) (.const (.int .i64 1)))))))))
 (.seq
 (.set 1 (.var 5))
 .ret))))),
  [(.var 1)]⟩
theorem okx_31 : FnOk Tryz.prog 0 161 31 xf31 := fnOk_of Tryz.func31 (np := 1) (V := [0, 2, 8, 3, 11, 4, 17, 16, 15, 5, 6, 34, 43]) (ks := [[0, 5, 6, 7, 8]]) (by kernel_rfl)

/- tipstaff/cfg.Loops -/
def xf32 : XF := ⟨1, [0, 2, 4],
  (.seq
 (.set 1 (.const (.bool false)))
 (.seq
 (.seq
 (.call (some 2) 46 [(.var 0)] [])
 (.set 1 (.ld none (.offp 2 (.nn (.var 2))))))
 .ret)),
  [(.var 1)]⟩
theorem okx_32 : FnOk Tryz.prog 0 161 32 xf32 := fnOk_of Tryz.func32 (np := 1) (V := [0, 2, 4]) (ks := []) (by kernel_rfl)

/- slices.IndexFunc[[]tipstaff/bmap.Spec,tipstaff/bmap.Spec] -/
def xf33 : XF := ⟨2, [0, 1, 4, 8, 7, 5, 16],
  (.seq
 (.set 2 (.const (.int .i64 0)))
 (.seq
 (.seq
 (.seq
 (.set 4 (.len false (.var 0)))
 (.set 3 (.const (.int .i64 0))))
 (.block 0
 (.loop [0, 1, 3, 4]
 (.seq
 (.cond (.bin .lss (.var 3) (.var 4))
 .skip
 (.exit 0))
 (.seq
 (.block 1
 (.seq
 (.set 5 (.var 3))
 (.seq
 (.dyn (some 6) (.var 1) [(.ld (some 4) (.ixSl 4 (.var 0) (.var 5)))] [])
 (.cond (.var 6)
 (.seq
 (.set 2 (.var 5))
 .ret)
 .skip))))
 (.set 3 (.bin .add (.var 3) (.const (.int .i64 1)))))))))
 (.seq
 (.set 2 (.const (.int .i64 (-1))))
 .ret))),
  [(.var 2)]⟩
theorem okx_33 : FnOk Tryz.prog 0 161 33 xf33 := fnOk_of Tryz.func33 (np := 2) (V := [0, 1, 4, 8, 7, 5, 16]) (ks := [[0, 1, 3, 4]]) (by kernel_rfl)

/- tipstaff/bmap.within -/
def xf34 : XF := ⟨3, [0, 1, 2, 6],
  (.seq
 (.set 3 (.const (.bool false)))
 (.seq
 (.set 3 (.pick (.bin .geq (.var 0) (.var 1)) (.bin .leq (.var 0) (.var 2)) (.const (.bool false))))
 .ret)),
  [(.var 3)]⟩
theorem okx_34 : FnOk Tryz.prog 0 161 34 xf34 := fnOk_of Tryz.func34 (np := 3) (V := [0, 1, 2, 6]) (ks := []) (by kernel_rfl)

/- (*tipstaff/verify.checker).gone -/
def xf35 : XF := ⟨2, [0, 1, 4, 3, 11, 13],
  (.seq
 (.seq
 (.new (some 3) 76 (.var 1))
 (.set 2 (.const (.bool false))))
 (.seq
 (.seq
 .skip
 (.seq
 (.chk [(.cap1 (.const (.func (.func 49) #[] #[])) (.var 3))])
 (.seq
 (.look (some 4) (.slice none 0 0) false .i64 (.ld none (.offp 5 (.nn (.var 0)))) (.ld none (.offp 0 (.var 3))) [])
 (.seq
 (.call (some 5) 48 [(.var 4), (.cap1 (.const (.func (.func 49) #[] #[])) (.var 3))] [])
 (.set 2 (.var 5))))))
 .ret)),
  [(.var 2)]⟩
theorem okx_35 : FnOk Tryz.prog 0 161 35 xf35 := fnOk_of Tryz.func35 (np := 2) (V := [0, 1, 4, 3, 11, 13]) (ks := []) (by kernel_rfl)

/- (*tipstaff/verify.checker).step -/
def xf36 : XF := ⟨2, [0, 1, 4, 5, 3, 6, 15, 18, 7, 20, 21, 27, 30, 36, 39, 45, 41, 46, 47, 48, 53, 56, 64, 70, 73, 84, 76, 77, 78, 85, 88, 94, 97, 102, 11, 13],
  (.seq
 (.seq
 (.new (some 4) 76 (.var 1))
 (.seq
 (.set 2 (.const (.slice none 0 0)))
 (.set 3 (.const (.bool false)))))
 (.seq
 (.seq
 .skip
 (.seq
 (.set 34 (.ld none (.offp 0 (.nn (.var 0)))))
 (.seq
 (.set 35 (.ld none (.offp 0 (.var 4))))
 (.seq
 (.set 6 (.ld (some 5) (.ixSl 5 (.var 34) (.var 35))))
 (.seq
 (.new (some 5) 28 (.const zA0))
 (.store 5 (.var 5) (.var 6) []))))))
 (.seq
 (.seq
 (.call (some 7) 24 [(.ld none (.offp 0 (.var 5)))] [])
 (.seq
 (.new (some 8) 82 (.const zA1))
 (.store 5 (.var 8) (.var 7) [])))
 (.seq
 (.seq
 (.set 9 (.ld none (.offp 0 (.var 8))))
 (.block 0
 (.seq
 (.set 10 (.bin .eql (.var 9) (.const (.int .i64 1))))
 (.cond (.var 10)
 (.seq
 (.seq
 (.call (some 11) 51 [(.var 0), (.ld (some 274) (.var 4)), (.ld (some 5) (.var 5)), (.ld (some 5) (.var 8))] [])
 (.seq
 (.chk [(.proj 1 (.var 11))])
 (.seq
 (.set 2 (.proj 0 (.var 11)))
 (.set 3 (.proj 1 (.var 11))))))
 .ret)
 (.seq
 (.set 12 (.bin .eql (.var 9) (.const (.int .i64 2))))
 (.cond (.var 12)
 (.seq
 (.seq
 (.call (some 13) 52 [(.var 0), (.ld (some 274) (.var 4)), (.ld (some 5) (.var 5)), (.ld (some 5) (.var 8))] [])
 (.seq
 (.chk [(.proj 1 (.var 13))])
 (.seq
 (.set 2 (.proj 0 (.var 13)))
 (.set 3 (.proj 1 (.var 13))))))
 .ret)
 (.seq
 (.set 14 (.bin .eql (.var 9) (.const (.int .i64 3))))
 (.cond (.var 14)
 (.seq
 (.seq
 .skip
 (.seq
 (.set 16 (.ld (some 274) (.var 4)))
 (.seq
 (.call (some 15) 54 [(.ld none (.offp 0 (.var 4))), (.ld (some 5) (.var 5))] [(.ld (some 274) (.var 4))])
 (.seq
 (.call (some 17) 53 [(.var 16), (.var 15)] [])
 (.seq
 (.row (some 18) 76 1 (.upd 0 274 (.const zA8) (.var 17)))
 (.seq
 (.set 2 (.var 18))
 (.set 3 (.const (.bool true)))))))))
 .ret)
 (.seq
 (.set 19 (.bin .eql (.var 9) (.const (.int .i64 4))))
 (.cond (.var 19)
 (.seq
 (.seq
 (.call (some 20) 55 [(.var 0), (.ld (some 274) (.var 4)), (.ld (some 5) (.var 5))] [])
 (.seq
 (.chk [(.proj 1 (.var 20))])
 (.seq
 (.set 2 (.proj 0 (.var 20)))
 (.set 3 (.proj 1 (.var 20))))))
 .ret)
 (.seq
 (.set 21 (.bin .eql (.var 9) (.const (.int .i64 5))))
 (.cond (.var 21)
 (.seq
 (.seq
 .skip
 (.seq
 (.chk [(.bin .eql (.ld none (.offp 0 (.ixArr 11 11 (.offp 0 (.offp 1 (.var 4))) (.const (.int .i64 0))))) (.const (.int .i64 1)))])
 (.seq
 (.set 2 (.const (.slice none 0 0)))
 (.set 3 (.bin .eql (.ld none (.offp 0 (.ixArr 11 11 (.offp 0 (.offp 1 (.var 4))) (.const (.int .i64 0))))) (.const (.int .i64 1)))))))
 .ret)
 (.seq
 (.set 22 (.bin .eql (.var 9) (.const (.int .i64 6))))
 (.cond (.var 22)
 (.seq
 (.seq
 (.call (some 23) 56 [(.var 0), (.ld (some 274) (.var 4)), (.ld (some 5) (.var 5)), (.ld (some 5) (.var 8))] [])
 (.seq
 (.chk [(.proj 1 (.var 23))])
 (.seq
 (.set 2 (.proj 0 (.var 23)))
 (.set 3 (.proj 1 (.var 23))))))
 .ret)
 (.seq
 (.set 24 (.bin .eql (.var 9) (.const (.int .i64 7))))
 (.cond (.var 24)
 (.seq
 (.seq
 .skip
 (.seq
 (.chk [(.var 0)])
 (.seq
 (.set 26 (.ld (some 274) (.var 4)))
 (.seq
 (.set 27 (.ld (some 5) (.var 5)))
 (.seq
 (.set 28 (.ld (some 5) (.var 8)))
 (.seq
 (.call (some 25) 58 [(.ld (some 273) (.offp 1 (.var 4))), (.ld (some 5) (.var 5)), (.ld none (.offp 4 (.var 8)))] [(.ld (some 5) (.var 8)), (.ld (some 5) (.var 5)), (.ld (some 274) (.var 4))])
 (.seq
 (.call (some 29) 57 [(.var 0), (.var 26), (.var 27), (.var 28), (.var 25)] [])
 (.seq
 (.chk [(.proj 1 (.var 29))])
 (.seq
 (.set 2 (.proj 0 (.var 29)))
 (.set 3 (.proj 1 (.var 29))))))))))))
 .ret)
 (.seq
 (.set 30 (.bin .eql (.var 9) (.const (.int .i64 8))))
 (.cond (.var 30)
 (.seq
 (.seq
 (.call (some 31) 59 [(.var 0), (.ld (some 274) (.var 4)), (.ld (some 5) (.var 5)), (.ld (some 5) (.var 8))] [])
 (.seq
 (.chk [(.proj 1 (.var 31))])
 (.seq
 (.set 2 (.proj 0 (.var 31)))
 (.set 3 (.proj 1 (.var 31))))))
 .ret)
 (.seq
 (.set 32 (.bin .eql (.var 9) (.const (.int .i64 9))))
 (.cond (.var 32)
 (.seq
 (.seq
 (.call (some 33) 60 [(.var 0), (.ld (some 274) (.var 4)), (.ld (some 5) (.var 5))] [])
 (.seq
 (.chk [(.proj 1 (.var 33))])
 (.seq
 (.set 2 (.proj 0 (.var 33)))
 (.set 3 (.proj 1 (.var 33))))))
 .ret)
 .skip))))))))))))))))))))
 (.seq
 (.seq
 (.set 2 (.const (.slice none 0 0)))
 (.set 3 (.const (.bool false))))
 .ret))))),
  [(.var 2), (.var 3)]⟩
theorem okx_36 : FnOk Tryz.prog 0 161 36 xf36 := fnOk_of Tryz.func36 (np := 2) (V := [0, 1, 4, 5, 3, 6, 15, 18, 7, 20, 21, 27, 30, 36, 39, 45, 41, 46, 47, 48, 53, 56, 64, 70, 73, 84, 76, 77, 78, 85, 88, 94, 97, 102, 11, 13]) (ks := []) (by kernel_rfl)

/- tipstaff/insn.alu -/
def xf37 : XF := ⟨1, [0, 2, 3, 13],
  (.seq
 (.new (some 1) 82 (.const zA1))
 (.seq
 (.seq
 (.set 3 (.upd 4 1 (.upd 3 1 (.upd 2 1 (.upd 1 1 (.upd 0 1 (.const zA1) (.const (.int .i64 1))) (.conv .i64 (.bin .shr (.var 0) (.const (.int .u64 4))))) (.const (.int .i64 0))) (.bin .eql (.bin .and (.var 0) (.const (.int .u8 7))) (.const (.int .u8 7)))) (.bin .neq (.bin .and (.var 0) (.const (.int .u8 8))) (.const (.int .u8 0)))))
 (.seq
 (.new (some 2) 82 (.const zA1))
 (.store 5 (.var 2) (.var 3) [])))
 (.seq
 (.cond (.pick (.bin .gtr (.ld none (.offp 1 (.var 2))) (.const (.int .i64 12))) (.const (.bool true)) (.pick (.bin .eql (.ld none (.offp 1 (.var 2))) (.const (.int .i64 8))) (.ld none (.offp 4 (.var 2))) (.const (.bool false))))
 (.seq
 (.store 5 (.var 1) (.const zA1) [])
 .ret)
 .skip)
 (.seq
 (.store 5 (.var 1) (.ld (some 5) (.var 2)) [])
 .ret)))),
  [(.ld (some 5) (.var 1))]⟩
theorem okx_37 : FnOk Tryz.prog 0 161 37 xf37 := fnOk_of Tryz.func37 (np := 1) (V := [0, 2, 3, 13]) (ks := []) (by kernel_rfl)

/- tipstaff/insn.jump -/
def xf38 : XF := ⟨1, [0, 2, 3, 14, 4, 23, 29, 32, 35],
  (.seq
 (.new (some 1) 82 (.const zA1))
 (.seq
 (.seq
 (.set 3 (.upd 4 1 (.upd 3 1 (.upd 2 1 (.upd 1 1 (.upd 0 1 (.const zA1) (.const (.int .i64 2))) (.conv .i64 (.bin .shr (.var 0) (.const (.int .u64 4))))) (.const (.int .i64 0))) (.bin .eql (.bin .and (.var 0) (.const (.int .u8 7))) (.const (.int .u8 5)))) (.bin .neq (.bin .and (.var 0) (.const (.int .u8 8))) (.const (.int .u8 0)))))
 (.seq
 (.new (some 2) 82 (.const zA1))
 (.store 5 (.var 2) (.var 3) [])))
 (.seq
 (.set 4 (.pick (.ld none (.offp 3 (.var 2))) (.un .not (.ld none (.offp 4 (.var 2)))) (.const (.bool false))))
 (.seq
 (.seq
 (.set 5 (.ld none (.offp 1 (.var 2))))
 (.block 0
 (.seq
 (.set 6 (.bin .eql (.var 5) (.const (.int .i64 0))))
 (.cond (.var 6)
 (.seq
 (.chk [(.upd 0 1 (.const zA1) (.const (.int .i64 3)))])
 (.store 5 (.var 2) (.upd 0 1 (.const zA1) (.const (.int .i64 3))) []))
 (.seq
 (.set 7 (.bin .eql (.var 5) (.const (.int .i64 8))))
 (.cond (.var 7)
 (.seq
 (.chk [(.upd 0 1 (.const zA1) (.const (.int .i64 4)))])
 (.store 5 (.var 2) (.upd 0 1 (.const zA1) (.const (.int .i64 4))) []))
 (.seq
 (.set 8 (.bin .eql (.var 5) (.const (.int .i64 9))))
 (.cond (.var 8)
 (.seq
 (.chk [(.upd 0 1 (.const zA1) (.const (.int .i64 5)))])
 (.store 5 (.var 2) (.upd 0 1 (.const zA1) (.const (.int .i64 5))) []))
 (.seq
 (.cond (.bin .gtr (.ld none (.offp 1 (.var 2))) (.const (.int .i64 13)))
 (.seq
 (.store 5 (.var 1) (.const zA1) [])
 .ret)
 .skip)
 (.seq
 (.store 5 (.var 1) (.ld (some 5) (.var 2)) [])
 .ret))))))))))
 (.seq
 (.cond (.un .not (.var 4))
 (.seq
 (.store 5 (.var 1) (.const zA1) [])
 .ret)
 .skip)
 (.seq
 (.store 5 (.var 1) (.ld (some 5) (.var 2)) [])
 .ret)))))),
  [(.ld (some 5) (.var 1))]⟩
theorem okx_38 : FnOk Tryz.prog 0 161 38 xf38 := fnOk_of Tryz.func38 (np := 1) (V := [0, 2, 3, 14, 4, 23, 29, 32, 35]) (ks := []) (by kernel_rfl)

/- tipstaff/insn.memory -/
def xf39 : XF := ⟨1, [0, 2, 5, 3, 14, 4, 17, 25, 28],
  (.seq
 (.new (some 1) 82 (.const zA1))
 (.seq
 (.seq
 (.row (some 2) 3 4 (.upd 3 1 (.upd 2 1 (.upd 1 1 (.upd 0 1 (.const (.agg (Array.replicate 4 (.int .i64 0)))) (.const (.int .i64 4))) (.const (.int .i64 2))) (.const (.int .i64 1))) (.const (.int .i64 8))))
 (.seq
 (.set 4 (.upd 4 1 (.upd 2 1 (.upd 0 1 (.const zA1) (.const (.int .i64 7))) (.ld none (.ixSl 1 (.var 2) (.bin .and (.bin .shr (.var 0) (.const (.int .u64 3))) (.const (.int .u8 3)))))) (.bin .eql (.bin .and (.var 0) (.const (.int .u8 7))) (.const (.int .u8 3)))))
 (.seq
 (.new (some 3) 82 (.const zA1))
 (.store 5 (.var 3) (.var 4) []))))
 (.seq
 (.set 5 (.bin .shr (.var 0) (.const (.int .u64 5))))
 (.seq
 (.block 0
 (.seq
 (.block 3
 (.seq
 (.block 2
 (.seq
 (.block 1
 (.seq
 (.seq
 (.seq
 (.set 6 (.pick (.bin .eql (.var 5) (.const (.int .u8 3))) (.bin .eql (.bin .and (.var 0) (.const (.int .u8 7))) (.const (.int .u8 1))) (.const (.bool false))))
 (.cond (.var 6)
 (.exit 1)
 .skip))
 (.seq
 (.seq
 (.set 7 (.bin .eql (.var 5) (.const (.int .u8 3))))
 (.cond (.var 7)
 (.exit 2)
 .skip))
 (.seq
 (.set 8 (.pick (.pick (.bin .eql (.var 5) (.const (.int .u8 6))) (.ld none (.offp 4 (.var 3))) (.const (.bool false))) (.bin .geq (.ld none (.offp 2 (.var 3))) (.const (.int .i64 4))) (.const (.bool false))))
 (.cond (.var 8)
 (.exit 3)
 .skip))))
 (.exit 0)))
 (.store 1 (.offp 0 (.var 3)) (.const (.int .i64 6)) [])))
 (.seq
 (.seq
 (.store 5 (.var 1) (.ld (some 5) (.var 3)) [])
 .ret)
 (.exit 0))))
 (.seq
 (.seq
 (.store 1 (.offp 0 (.var 3)) (.const (.int .i64 8)) [])
 (.seq
 (.store 5 (.var 1) (.ld (some 5) (.var 3)) [])
 .ret))
 (.exit 0))))
 (.seq
 (.store 5 (.var 1) (.const zA1) [])
 .ret))))),
  [(.ld (some 5) (.var 1))]⟩
theorem okx_39 : FnOk Tryz.prog 0 161 39 xf39 := fnOk_of Tryz.func39 (np := 1) (V := [0, 2, 5, 3, 14, 4, 17, 25, 28]) (ks := []) (by kernel_rfl)

/- math/bits.Len -/
def xf41 : XF := ⟨1, [0, 2, 5, 7],
  (.seq
 (.set 1 (.const (.int .i64 0)))
 (.seq
 (.cond (.const (.bool false))
 (.seq
 (.seq
 (.call (some 2) 70 [(.conv .u32 (.var 0))] [])
 (.set 1 (.var 2)))
 .ret)
 .skip)
 (.seq
 (.seq
 (.call (some 3) 71 [(.var 0)] [])
 (.set 1 (.var 3)))
 .ret))),
  [(.var 1)]⟩
theorem okx_41 : FnOk Tryz.prog 0 161 41 xf41 := fnOk_of Tryz.func41 (np := 1) (V := [0, 2, 5, 7]) (ks := []) (by kernel_rfl)

/- slices.pdqsortOrdered[int] -/
def xf42 : XF := ⟨4, [0, 1, 2, 3, 8, 9, 10, 46, 11, 12, 72, 85, 92, 13, 99, 14, 15, 16, 17, 18],
  (.seq
 (.set 4 (.const (.bool true)))
 (.seq
 (.set 5 (.const (.bool true)))
 (.block 0
 (.loop [0, 1, 2, 3, 4, 5]
 (.block 1
 (.seq
 (.set 6 (.bin .sub (.var 2) (.var 1)))
 (.seq
 (.cond (.bin .leq (.var 6) (.const (.int .i64 12)))
 (.seq
 (.call none 72 [(.var 0), (.var 1), (.var 2)] [])
 .ret)
 .skip)
 (.seq
 (.cond (.bin .eql (.var 3) (.const (.int .i64 0)))
 (.seq
 (.call none 73 [(.var 0), (.var 1), (.var 2)] [])
 .ret)
 .skip)
 (.seq
 (.cond (.un .not (.var 4))
 (.seq
 (.call none 74 [(.var 0), (.var 1), (.var 2)] [])
 (.set 3 (.bin .sub (.var 3) (.const (.int .i64 1)))))
 .skip)
 (.seq
 (.seq
 (.call (some 7) 75 [(.var 0), (.var 1), (.var 2)] [])
 (.seq
 (.chk [(.proj 1 (.var 7))])
 (.seq
 (.set 8 (.proj 0 (.var 7)))
 (.set 9 (.proj 1 (.var 7))))))
 (.seq
 (.cond (.bin .eql (.var 9) (.const (.int .i64 2)))
 (.seq
 (.call none 76 [(.var 0), (.var 1), (.var 2)] [])
 (.seq
 (.set 8 (.bin .sub (.bin .sub (.var 2) (.const (.int .i64 1))) (.bin .sub (.var 8) (.var 1))))
 (.set 9 (.const (.int .i64 1)))))
 .skip)
 (.seq
 (.cond (.pick (.pick (.var 4) (.var 5) (.const (.bool false))) (.bin .eql (.var 9) (.const (.int .i64 1))) (.const (.bool false)))
 (.seq
 (.call (some 10) 77 [(.var 0), (.var 1), (.var 2)] [])
 (.cond (.var 10)
 .ret
 .skip))
 .skip)
 (.seq
 (.seq
 (.seq
 .skip
 (.seq
 (.chk [(.pick (.bin .gtr (.var 1) (.const (.int .i64 0))) (.ld none (.ixSl 1 (.var 0) (.var 8))) (.const (.bool false))), (.pick (.bin .gtr (.var 1) (.const (.int .i64 0))) (.ld none (.ixSl 1 (.var 0) (.bin .sub (.var 1) (.const (.int .i64 1))))) (.const (.bool false)))])
 (.cond (.pick (.bin .gtr (.var 1) (.const (.int .i64 0))) (.const (.bool true)) (.const (.bool false)))
 (.call (some 11) 78 [(.ld none (.ixSl 1 (.var 0) (.bin .sub (.var 1) (.const (.int .i64 1))))), (.ld none (.ixSl 1 (.var 0) (.var 8)))] [])
 (.clr [11]))))
 (.cond (.pick (.bin .gtr (.var 1) (.const (.int .i64 0))) (.un .not (.var 11)) (.const (.bool false)))
 (.seq
 (.seq
 (.call (some 12) 79 [(.var 0), (.var 1), (.var 2), (.var 8)] [])
 (.set 13 (.var 12)))
 (.seq
 (.set 1 (.var 13))
 (.exit 1)))
 .skip))
 (.seq
 (.seq
 (.call (some 14) 80 [(.var 0), (.var 1), (.var 2), (.var 8)] [])
 (.seq
 (.chk [(.proj 1 (.var 14))])
 (.seq
 (.set 15 (.proj 0 (.var 14)))
 (.set 16 (.proj 1 (.var 14))))))
 (.seq
 (.set 5 (.var 16))
 (.seq
 (.seq
 (.chk [(.bin .sub (.var 2) (.var 15))])
 (.seq
 (.set 17 (.bin .sub (.var 15) (.var 1)))
 (.set 18 (.bin .sub (.var 2) (.var 15)))))
 (.seq
 (.set 19 (.bin .quo (.var 6) (.const (.int .i64 8))))
 (.cond (.bin .lss (.var 17) (.var 18))
 (.seq
 (.set 4 (.bin .geq (.var 17) (.var 19)))
 (.seq
 (.call none 42 [(.var 0), (.var 1), (.var 15), (.var 3)] [])
 (.set 1 (.bin .add (.var 15) (.const (.int .i64 1))))))
 (.seq
 (.set 4 (.bin .geq (.var 18) (.var 19)))
 (.seq
 (.call none 42 [(.var 0), (.bin .add (.var 15) (.const (.int .i64 1))), (.var 2), (.var 3)] [])
 (.set 2 (.var 15)))))))))))))))))))))),
  []⟩
theorem okx_42 : FnOk Tryz.prog 0 161 42 xf42 := fnOk_of Tryz.func42 (np := 4) (V := [0, 1, 2, 3, 8, 9, 10, 46, 11, 12, 72, 85, 92, 13, 99, 14, 15, 16, 17, 18]) (ks := [[0, 1, 2, 3, 4, 5]]) (by kernel_rfl)

/- tipstaff/shape.one -/
def xf43 : XF := ⟨2, [0, 1, 4, 5, 12, 15, 6, 22, 20, 19, 23, 29, 26, 37, 38, 43, 44, 49, 7, 8, 53, 57, 58, 62, 63, 73],
  (.seq
 (.set 2 (.const (.bool false)))
 (.seq
 (.seq
 (.set 4 (.ld (some 5) (.ixSl 5 (.var 0) (.var 1))))
 (.seq
 (.new (some 3) 28 (.const zA0))
 (.store 5 (.var 3) (.var 4) [])))
 (.seq
 (.seq
 (.call (some 5) 24 [(.ld none (.offp 0 (.var 3)))] [])
 (.seq
 (.new (some 6) 82 (.const zA1))
 (.store 5 (.var 6) (.var 5) [])))
 (.seq
 (.seq
 (.seq
 .skip
 (.seq
 (.set 9 (.bin .eql (.ld none (.offp 0 (.var 6))) (.const (.int .i64 0))))
 (.seq
 (.cond (.pick (.var 9) (.const (.bool false)) (.const (.bool true)))
 (.set 8 (.ld (some 5) (.var 3)))
 (.clr [8]))
 (.seq
 (.chk [(.pick (.var 9) (.const (.bool false)) (.ld (some 5) (.var 6)))])
 (.seq
 (.cond (.pick (.var 9) (.const (.bool false)) (.const (.bool true)))
 (.call (some 7) 82 [(.ld (some 5) (.var 6))] [(.ld (some 5) (.var 3))])
 (.clr [7]))
 (.seq
 (.cond (.pick (.var 9) (.const (.bool false)) (.const (.bool true)))
 (.call (some 10) 81 [(.var 8), (.var 7)] [])
 (.clr [10]))
 (.seq
 (.set 12 (.pick (.var 9) (.const (.bool true)) (.un .not (.var 10))))
 (.seq
 (.chk [(.pick (.var 12) (.const (.bool false)) (.ld none (.offp 0 (.var 6))))])
 (.cond (.pick (.var 12) (.const (.bool false)) (.const (.bool true)))
 (.call (some 11) 83 [(.ld none (.offp 0 (.var 6)))] [])
 (.clr [11]))))))))))
 (.cond (.pick (.var 12) (.const (.bool true)) (.pick (.var 11) (.bin .eql (.ld none (.offp 1 (.var 3))) (.const (.int .u8 10))) (.const (.bool false))))
 (.seq
 (.set 2 (.const (.bool false)))
 .ret)
 .skip))
 (.seq
 (.seq
 (.set 13 (.ld none (.offp 0 (.var 6))))
 (.block 0
 (.seq
 (.set 14 (.bin .eql (.var 13) (.const (.int .i64 1))))
 (.cond (.var 14)
 (.seq
 (.seq
 (.call (some 15) 84 [(.ld (some 5) (.var 6)), (.ld none (.offp 4 (.var 3)))] [])
 (.set 2 (.var 15)))
 .ret)
 (.seq
 (.set 16 (.bin .eql (.var 13) (.const (.int .i64 4))))
 (.cond (.var 16)
 (.seq
 (.seq
 (.call (some 17) 85 [(.ld none (.offp 4 (.var 3)))] [])
 (.seq
 (.chk [(.proj 1 (.var 17))])
 (.seq
 (.set 18 (.proj 0 (.var 17)))
 (.set 19 (.proj 1 (.var 17))))))
 (.seq
 (.set 2 (.var 19))
 .ret))
 (.seq
 (.set 20 (.bin .eql (.var 13) (.const (.int .i64 8))))
 (.cond (.var 20)
 (.seq
 (.seq
 (.call (some 21) 86 [(.ld none (.offp 4 (.var 3)))] [])
 (.set 2 (.var 21)))
 .ret)
 (.seq
 (.set 22 (.bin .eql (.var 13) (.const (.int .i64 9))))
 (.cond (.var 22)
 (.seq
 (.seq
 (.call (some 23) 87 [(.var 0), (.var 1)] [])
 (.set 2 (.var 23)))
 .ret)
 (.seq
 (.set 24 (.bin .eql (.var 13) (.const (.int .i64 10))))
 (.cond (.var 24)
 (.seq
 (.seq
 (.chk [(.pick (.bin .gtr (.var 1) (.const (.int .i64 0))) (.ld (some 5) (.ixSl 5 (.var 0) (.bin .sub (.var 1) (.const (.int .i64 1))))) (.const (.bool false)))])
 (.seq
 (.cond (.pick (.bin .gtr (.var 1) (.const (.int .i64 0))) (.const (.bool true)) (.const (.bool false)))
 (.call (some 25) 45 [(.ld (some 5) (.ixSl 5 (.var 0) (.bin .sub (.var 1) (.const (.int .i64 1)))))] [])
 (.clr [25]))
 (.set 2 (.pick (.bin .gtr (.var 1) (.const (.int .i64 0))) (.bin .eql (.var 25) (.const (.int .i64 9))) (.const (.bool false))))))
 .ret)
 .skip))))))))))))
 (.seq
 (.set 2 (.const (.bool true)))
 .ret)))))),
  [(.var 2)]⟩
theorem okx_43 : FnOk Tryz.prog 0 161 43 xf43 := fnOk_of Tryz.func43 (np := 2) (V := [0, 1, 4, 5, 12, 15, 6, 22, 20, 19, 23, 29, 26, 37, 38, 43, 44, 49, 7, 8, 53, 57, 58, 62, 63, 73]) (ks := []) (by kernel_rfl)
end Go.Proofs.YtkgpmjjleemdlaaGreat
