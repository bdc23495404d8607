/- The interpreter's functions, part 1: made by program (geny.py). -/
import Derived.Test.YtkgpmjjleemdlaaGreatXnmz
import Derived.Test.YtkgpmjjleemdlaaGreatProg
set_option maxRecDepth 100000
set_option linter.unusedVariables false
namespace Go.Proofs.YtkgpmjjleemdlaaGreat
open Go.Eng
/- tipstaff/shape.lands -/
def xf44 : XF := ⟨2, [0, 1, 4, 11, 5, 23, 6, 37],
  (.seq
 (.set 2 (.const (.bool false)))
 (.seq
 (.seq
 (.seq
 (.call (some 3) 45 [(.ld (some 5) (.ixSl 5 (.var 0) (.var 1)))] [])
 (.set 4 (.var 3)))
 (.cond (.pick (.bin .neq (.var 4) (.const (.int .i64 2))) (.bin .neq (.var 4) (.const (.int .i64 3))) (.const (.bool false)))
 (.seq
 (.set 2 (.const (.bool true)))
 .ret)
 .skip))
 (.seq
 (.seq
 (.call (some 5) 54 [(.var 1), (.ld (some 5) (.ixSl 5 (.var 0) (.var 1)))] [])
 (.set 6 (.var 5)))
 (.seq
 (.seq
 (.chk [(.pick (.pick (.bin .geq (.var 6) (.const (.int .i64 0))) (.bin .lss (.var 6) (.len false (.var 0))) (.const (.bool false))) (.ld (some 5) (.ixSl 5 (.var 0) (.var 6))) (.const (.bool false)))])
 (.seq
 (.cond (.pick (.pick (.bin .geq (.var 6) (.const (.int .i64 0))) (.bin .lss (.var 6) (.len false (.var 0))) (.const (.bool false))) (.const (.bool true)) (.const (.bool false)))
 (.call (some 7) 45 [(.ld (some 5) (.ixSl 5 (.var 0) (.var 6)))] [])
 (.clr [7]))
 (.set 2 (.pick (.pick (.bin .geq (.var 6) (.const (.int .i64 0))) (.bin .lss (.var 6) (.len false (.var 0))) (.const (.bool false))) (.bin .neq (.var 7) (.const (.int .i64 10))) (.const (.bool false))))))
 .ret)))),
  [(.var 2)]⟩
theorem okx_44 : FnOk Tryz.prog 0 161 44 xf44 := fnOk_of Tryz.func44 (np := 2) (V := [0, 1, 4, 11, 5, 23, 6, 37]) (ks := []) (by kernel_rfl)

/- tipstaff/shape.kind -/
def xf45 : XF := ⟨1, [0, 2, 1, 5],
  (.seq
 (.seq
 (.new (some 2) 28 (.var 0))
 (.set 1 (.const (.int .i64 0))))
 (.seq
 (.seq
 (.call (some 3) 24 [(.ld none (.offp 0 (.var 2)))] [])
 (.set 1 (.part none 0 (.var 3))))
 .ret)),
  [(.var 1)]⟩
theorem okx_45 : FnOk Tryz.prog 0 161 45 xf45 := fnOk_of Tryz.func45 (np := 1) (V := [0, 2, 1, 5]) (ks := []) (by kernel_rfl)

/- tipstaff/cfg.walked -/
def xf46 : XF := ⟨1, [0, 2, 7, 9, 3],
  (.seq
 (.set 1 (.const (.pointer none)))
 (.seq
 (.seq
 (.mk (some 2) 3 [(.int .i64 0)] (.len false (.var 0)) (.len false (.var 0)) [])
 (.seq
 (.chk [(.upd 1 1 (.upd 0 1 (.const (.agg #[(.slice none 0 0), (.slice none 0 0), (.bool false)])) (.var 0)) (.var 2))])
 (.seq
 (.new (some 3) 105 (.upd 1 1 (.upd 0 1 (.const (.agg #[(.slice none 0 0), (.slice none 0 0), (.bool false)])) (.var 0)) (.var 2)))
 (.set 4 (.var 3)))))
 (.seq
 (.cond (.bin .gtr (.len false (.var 0)) (.const (.int .i64 0)))
 (.call none 88 [(.var 4), (.const (.int .i64 0))] [])
 .skip)
 (.seq
 (.set 1 (.var 4))
 .ret)))),
  [(.var 1)]⟩
theorem okx_46 : FnOk Tryz.prog 0 161 46 xf46 := fnOk_of Tryz.func46 (np := 1) (V := [0, 2, 7, 9, 3]) (ks := []) (by kernel_rfl)

/- tipstaff/cfg.kind -/
def xf47 : XF := ⟨1, [0, 2, 1, 5],
  (.seq
 (.seq
 (.new (some 2) 28 (.var 0))
 (.set 1 (.const (.int .i64 0))))
 (.seq
 (.seq
 (.call (some 3) 24 [(.ld none (.offp 0 (.var 2)))] [])
 (.set 1 (.part none 0 (.var 3))))
 .ret)),
  [(.var 1)]⟩
theorem okx_47 : FnOk Tryz.prog 0 161 47 xf47 := fnOk_of Tryz.func47 (np := 1) (V := [0, 2, 1, 5]) (ks := []) (by kernel_rfl)

/- slices.ContainsFunc[[]tipstaff/absreg.State,tipstaff/absreg.State] -/
def xf48 : XF := ⟨2, [0, 1, 4, 7],
  (.seq
 (.set 2 (.const (.bool false)))
 (.seq
 (.seq
 (.call (some 3) 89 [(.var 0), (.var 1)] [])
 (.set 2 (.bin .geq (.var 3) (.const (.int .i64 0)))))
 .ret)),
  [(.var 2)]⟩
theorem okx_48 : FnOk Tryz.prog 0 161 48 xf48 := fnOk_of Tryz.func48 (np := 2) (V := [0, 1, 4, 7]) (ks := []) (by kernel_rfl)

/- (*tipstaff/verify.checker).alu -/
def xf51 : XF := ⟨4, [0, 1, 2, 3, 8, 9, 5, 6, 7, 26, 10, 11, 20, 22, 23, 25, 35, 52, 12, 58, 65, 13, 14, 84, 16],
  (.seq
 (.seq
 (.new (some 6) 76 (.var 1))
 (.seq
 (.new (some 7) 28 (.var 2))
 (.seq
 (.new (some 8) 82 (.var 3))
 (.seq
 (.set 4 (.const (.slice none 0 0)))
 (.set 5 (.const (.bool false)))))))
 (.seq
 (.seq
 .skip
 (.seq
 (.set 24 (.ld none (.offp 1 (.var 7))))
 (.seq
 (.set 12 (.ld (some 11) (.ixArr 11 11 (.offp 0 (.offp 1 (.var 6))) (.var 24))))
 (.seq
 (.set 13 (.ld (some 273) (.offp 1 (.var 6))))
 (.seq
 (.set 14 (.ld (some 5) (.var 7)))
 (.seq
 (.set 15 (.ld none (.offp 4 (.var 8))))
 (.seq
 (.resv 2)
 (.seq
 (.seq
 (.set 10 (.const (.bool true)))
 (.seq
 (.set 11 (.const (.bool true)))
 .skip))
 (.seq
 (.chk [(.var 10), (.var 11)])
 (.seq
 (.clr [10, 11])
 (.seq
 (.chk [(.const zA4), (.const zA4)])
 (.seq
 (.call (some 9) 58 [(.var 13), (.var 14), (.var 15)] [(.ld none (.offp 4 (.var 8))), (.ld (some 5) (.var 7)), (.ld (some 273) (.offp 1 (.var 6))), (.ld (some 11) (.ixArr 11 11 (.offp 0 (.offp 1 (.var 6))) (.var 24))), (.ld none (.offp 1 (.var 7)))])
 (.seq
 (.newR 0 10 68 (.const zA4))
 (.seq
 (.newR 1 11 68 (.const zA4))
 (.seq
 (.store 11 (.var 10) (.var 12) [])
 (.seq
 (.store 11 (.var 11) (.var 9) [])
 .skip))))))))))))))))
 (.seq
 (.cond (.pick (.bin .eql (.ld none (.offp 1 (.var 8))) (.const (.int .i64 11))) (.bin .eql (.ld none (.offp 0 (.var 11))) (.const (.int .i64 1))) (.const (.bool false)))
 (.seq
 (.call (some 16) 91 [(.const (.int .u64 0))] [])
 (.store 11 (.var 10) (.var 16) []))
 .skip)
 (.seq
 (.cond (.pick (.bin .eql (.ld none (.offp 0 (.var 10))) (.const (.int .i64 1))) (.bin .eql (.ld none (.offp 0 (.var 11))) (.const (.int .i64 1))) (.const (.bool false)))
 (.seq
 (.seq
 (.call (some 17) 92 [(.ld none (.offp 1 (.var 8))), (.ld none (.offp 3 (.var 8))), (.ld (some 6) (.offp 1 (.var 10))), (.ld (some 6) (.offp 1 (.var 11)))] [])
 (.seq
 (.chk [(.upd 1 6 (.upd 0 1 (.const zA4) (.const (.int .i64 1))) (.var 17))])
 (.seq
 (.new (some 18) 68 (.const zA4))
 (.store 11 (.var 18) (.upd 1 6 (.upd 0 1 (.const zA4) (.const (.int .i64 1))) (.var 17)) []))))
 (.seq
 (.seq
 (.call (some 19) 93 [(.ld (some 274) (.var 6)), (.ld none (.offp 1 (.var 7))), (.ld (some 11) (.var 18)), (.const (.int .i64 1))] [])
 (.seq
 (.set 4 (.var 19))
 (.set 5 (.const (.bool true)))))
 .ret))
 .skip)
 (.seq
 (.seq
 (.call (some 20) 94 [(.var 0), (.ld none (.offp 1 (.var 8))), (.ld (some 11) (.var 10)), (.ld (some 11) (.var 11))] [])
 (.seq
 (.chk [(.proj 1 (.var 20)), (.proj 0 (.var 20))])
 (.seq
 (.new (some 21) 68 (.const zA4))
 (.seq
 (.store 11 (.var 21) (.proj 0 (.var 20)) [])
 (.set 22 (.proj 1 (.var 20)))))))
 (.seq
 (.cond (.pick (.pick (.un .not (.var 22)) (.const (.bool true)) (.un .not (.ld none (.offp 3 (.var 8))))) (.const (.bool true)) (.bin .eql (.ld none (.offp 1 (.var 8))) (.const (.int .i64 8))))
 (.seq
 (.seq
 (.set 4 (.const (.slice none 0 0)))
 (.set 5 (.const (.bool false))))
 .ret)
 .skip)
 (.seq
 (.seq
 (.call (some 23) 93 [(.ld (some 274) (.var 6)), (.ld none (.offp 1 (.var 7))), (.ld (some 11) (.var 21)), (.const (.int .i64 1))] [])
 (.seq
 (.set 4 (.var 23))
 (.set 5 (.const (.bool true)))))
 .ret))))))),
  [(.var 4), (.var 5)]⟩
theorem okx_51 : FnOk Tryz.prog 0 161 51 xf51 := fnOk_of Tryz.func51 (np := 4) (V := [0, 1, 2, 3, 8, 9, 5, 6, 7, 26, 10, 11, 20, 22, 23, 25, 35, 52, 12, 58, 65, 13, 14, 84, 16]) (ks := []) (by kernel_rfl)

/- (tipstaff/verify.way).to -/
def xf53 : XF := ⟨2, [0, 1, 4, 2],
  (.seq
 (.seq
 (.new (some 3) 76 (.var 0))
 (.new (some 2) 76 (.const zA8)))
 (.seq
 (.store 1 (.offp 0 (.var 3)) (.var 1) [])
 (.seq
 (.store 274 (.var 2) (.ld (some 274) (.var 3)) [])
 .ret))),
  [(.ld (some 274) (.var 2))]⟩
theorem okx_53 : FnOk Tryz.prog 0 161 53 xf53 := fnOk_of Tryz.func53 (np := 2) (V := [0, 1, 4, 2]) (ks := []) (by kernel_rfl)

/- tipstaff/shape.Target -/
def xf54 : XF := ⟨2, [0, 1, 4, 3],
  (.seq
 (.seq
 (.new (some 3) 28 (.var 1))
 (.set 2 (.const (.int .i64 0))))
 (.seq
 (.set 2 (.bin .add (.bin .add (.var 0) (.conv .i64 (.ld none (.offp 3 (.var 3))))) (.const (.int .i64 1))))
 .ret)),
  [(.var 2)]⟩
theorem okx_54 : FnOk Tryz.prog 0 161 54 xf54 := fnOk_of Tryz.func54 (np := 2) (V := [0, 1, 4, 3]) (ks := []) (by kernel_rfl)

/- (*tipstaff/verify.checker).call -/
def xf55 : XF := ⟨3, [0, 1, 2, 6, 7, 4, 5, 12, 8, 24, 30, 31, 9, 40, 10, 11, 61, 53, 65, 66, 81, 90, 99, 105, 106],
  (.seq
 (.seq
 (.new (some 5) 76 (.var 1))
 (.seq
 (.new (some 6) 28 (.var 2))
 (.seq
 (.set 3 (.const (.slice none 0 0)))
 (.set 4 (.const (.bool false))))))
 (.seq
 (.seq
 (.call (some 7) 97 [(.const (.int .i64 8))] [])
 (.seq
 (.new (some 8) 68 (.const zA4))
 (.store 11 (.var 8) (.var 7) [])))
 (.seq
 (.cond (.pick (.bin .eql (.ld none (.offp 4 (.var 6))) (.const (.int .i32 5))) (.const (.bool true)) (.bin .eql (.ld none (.offp 4 (.var 6))) (.const (.int .i32 7))))
 (.seq
 (.seq
 (.call (some 9) 98 [(.ld (some 273) (.offp 1 (.var 5))), (.ld (some 11) (.var 8))] [])
 (.store 273 (.offp 1 (.var 5)) (.var 9) []))
 (.seq
 (.seq
 (.call (some 10) 53 [(.ld (some 274) (.var 5)), (.bin .add (.ld none (.offp 0 (.var 5))) (.const (.int .i64 1)))] [])
 (.seq
 (.row (some 11) 76 1 (.upd 0 274 (.const zA8) (.var 10)))
 (.seq
 (.set 3 (.var 11))
 (.set 4 (.const (.bool true))))))
 .ret))
 .skip)
 (.seq
 (.set 12 (.ld none (.offp 7 (.ixArr 11 11 (.offp 0 (.offp 1 (.var 5))) (.const (.int .i64 1))))))
 (.seq
 (.seq
 (.call (some 13) 99 [(.var 0), (.var 12)] [])
 (.seq
 (.chk [(.proj 1 (.var 13)), (.proj 0 (.var 13))])
 (.seq
 (.new (some 14) 55 (.const (.agg (Array.replicate 4 (.int .i64 0)))))
 (.seq
 (.store 4 (.var 14) (.proj 0 (.var 13)) [])
 (.set 15 (.proj 1 (.var 13)))))))
 (.seq
 (.seq
 (.seq
 (.set 17 (.pick (.bin .neq (.ld none (.offp 0 (.ixArr 11 11 (.offp 0 (.offp 1 (.var 5))) (.const (.int .i64 1))))) (.const (.int .i64 4))) (.const (.bool true)) (.un .not (.var 15))))
 (.seq
 (.chk [(.pick (.var 17) (.const (.bool false)) (.ld (some 4) (.var 14))), (.pick (.var 17) (.const (.bool false)) (.var 12)), (.pick (.var 17) (.const (.bool false)) (.ld none (.offp 4 (.var 6)))), (.pick (.var 17) (.const (.bool false)) (.ld (some 273) (.offp 1 (.var 5)))), (.pick (.var 17) (.const (.bool false)) (.var 0))])
 (.cond (.pick (.var 17) (.const (.bool false)) (.const (.bool true)))
 (.call (some 16) 100 [(.var 0), (.ld (some 273) (.offp 1 (.var 5))), (.ld none (.offp 4 (.var 6))), (.var 12), (.ld (some 4) (.var 14))] [])
 (.clr [16]))))
 (.cond (.pick (.var 17) (.const (.bool true)) (.un .not (.var 16)))
 (.seq
 (.seq
 (.set 3 (.const (.slice none 0 0)))
 (.set 4 (.const (.bool false))))
 .ret)
 .skip))
 (.seq
 (.seq
 (.set 18 (.ld none (.offp 4 (.var 6))))
 (.block 0
 (.seq
 (.set 19 (.bin .eql (.var 18) (.const (.int .i32 1))))
 (.cond (.var 19)
 (.seq
 (.store 1 (.offp 6 (.nn (.var 0))) (.bin .add (.ld none (.offp 6 (.nn (.var 0)))) (.const (.int .i64 1))) [])
 (.seq
 (.chk [(.upd 8 1 (.upd 7 1 (.upd 0 1 (.const zA4) (.const (.int .i64 6))) (.var 12)) (.ld none (.offp 6 (.nn (.var 0)))))])
 (.store 11 (.var 8) (.upd 8 1 (.upd 7 1 (.upd 0 1 (.const zA4) (.const (.int .i64 6))) (.var 12)) (.ld none (.offp 6 (.nn (.var 0))))) [])))
 (.seq
 (.seq
 (.set 20 (.bin .eql (.var 18) (.const (.int .i32 88))))
 (.cond (.var 20)
 .skip
 (.set 20 (.bin .eql (.var 18) (.const (.int .i32 89))))))
 (.cond (.var 20)
 (.seq
 (.seq
 (.call (some 21) 101 [(.var 0), (.ld (some 273) (.offp 1 (.var 5))), (.const (.int .i64 2)), (.ld none (.offp 2 (.var 14)))] [])
 (.seq
 (.chk [(.proj 1 (.var 21))])
 (.seq
 (.store 273 (.offp 1 (.var 5)) (.proj 0 (.var 21)) [])
 (.set 15 (.proj 1 (.var 21))))))
 (.cond (.un .not (.var 15))
 (.seq
 (.seq
 (.set 3 (.const (.slice none 0 0)))
 (.set 4 (.const (.bool false))))
 .ret)
 .skip))
 .skip))))))
 (.seq
 (.seq
 (.call (some 22) 98 [(.ld (some 273) (.offp 1 (.var 5))), (.ld (some 11) (.var 8))] [])
 (.store 273 (.offp 1 (.var 5)) (.var 22) []))
 (.seq
 (.seq
 (.call (some 23) 53 [(.ld (some 274) (.var 5)), (.bin .add (.ld none (.offp 0 (.var 5))) (.const (.int .i64 1)))] [])
 (.seq
 (.row (some 24) 76 1 (.upd 0 274 (.const zA8) (.var 23)))
 (.seq
 (.set 3 (.var 24))
 (.set 4 (.const (.bool true))))))
 .ret))))))))),
  [(.var 3), (.var 4)]⟩
theorem okx_55 : FnOk Tryz.prog 0 161 55 xf55 := fnOk_of Tryz.func55 (np := 3) (V := [0, 1, 2, 6, 7, 4, 5, 12, 8, 24, 30, 31, 9, 40, 10, 11, 61, 53, 65, 66, 81, 90, 99, 105, 106]) (ks := []) (by kernel_rfl)

/- (*tipstaff/verify.checker).load -/
def xf56 : XF := ⟨4, [0, 1, 2, 3, 8, 9, 5, 6, 7, 10, 18, 33, 11, 12, 40, 47, 42, 44, 48, 51, 52, 55, 57, 58],
  (.seq
 (.seq
 (.new (some 6) 76 (.var 1))
 (.seq
 (.new (some 7) 28 (.var 2))
 (.seq
 (.new (some 8) 82 (.var 3))
 (.seq
 (.set 4 (.const (.slice none 0 0)))
 (.set 5 (.const (.bool false)))))))
 (.seq
 (.seq
 (.set 10 (.ld (some 11) (.ixArr 11 11 (.offp 0 (.offp 1 (.var 6))) (.ld none (.offp 2 (.var 7))))))
 (.seq
 (.new (some 9) 68 (.const zA4))
 (.store 11 (.var 9) (.var 10) [])))
 (.seq
 (.cond (.bin .eql (.ld none (.offp 0 (.var 9))) (.const (.int .i64 3)))
 (.seq
 (.seq
 (.call (some 11) 102 [(.ld (some 273) (.offp 1 (.var 6))), (.bin .add (.ld none (.offp 9 (.var 9))) (.conv .i64 (.ld none (.offp 3 (.var 7))))), (.ld none (.offp 2 (.var 8)))] [])
 (.seq
 (.chk [(.proj 1 (.var 11)), (.proj 0 (.var 11))])
 (.seq
 (.new (some 12) 68 (.const zA4))
 (.seq
 (.store 11 (.var 12) (.proj 0 (.var 11)) [])
 (.set 13 (.proj 1 (.var 11)))))))
 (.seq
 (.seq
 (.call (some 14) 93 [(.ld (some 274) (.var 6)), (.ld none (.offp 1 (.var 7))), (.ld (some 11) (.var 12)), (.const (.int .i64 1))] [])
 (.seq
 (.chk [(.var 13)])
 (.seq
 (.set 4 (.var 14))
 (.set 5 (.var 13)))))
 .ret))
 .skip)
 (.seq
 (.seq
 .skip
 (.seq
 (.set 16 (.ld (some 274) (.var 6)))
 (.seq
 (.set 17 (.ld none (.offp 1 (.var 7))))
 (.seq
 (.chk [(.var 0), (.ld none (.offp 2 (.var 8)))])
 (.seq
 (.set 19 (.ld (some 273) (.offp 1 (.var 6))))
 (.seq
 (.set 20 (.ld (some 11) (.var 9)))
 (.seq
 (.set 21 (.conv .i64 (.ld none (.offp 3 (.var 7)))))
 (.seq
 (.set 22 (.ld none (.offp 2 (.var 8))))
 (.seq
 (.call (some 15) 97 [(.ld none (.offp 2 (.var 8)))] [(.ld none (.offp 2 (.var 8))), (.ld none (.offp 3 (.var 7))), (.ld (some 11) (.var 9)), (.ld (some 273) (.offp 1 (.var 6))), (.ld none (.offp 1 (.var 7))), (.ld (some 274) (.var 6))])
 (.seq
 (.call (some 18) 93 [(.var 16), (.var 17), (.var 15), (.const (.int .i64 1))] [(.ld none (.offp 2 (.var 8))), (.ld none (.offp 3 (.var 7))), (.ld (some 11) (.var 9)), (.ld (some 273) (.offp 1 (.var 6)))])
 (.seq
 (.call (some 23) 103 [(.var 0), (.var 19), (.var 20), (.var 21), (.var 22)] [])
 (.seq
 (.set 4 (.var 18))
 (.set 5 (.var 23))))))))))))))
 .ret)))),
  [(.var 4), (.var 5)]⟩
theorem okx_56 : FnOk Tryz.prog 0 161 56 xf56 := fnOk_of Tryz.func56 (np := 4) (V := [0, 1, 2, 3, 8, 9, 5, 6, 7, 10, 18, 33, 11, 12, 40, 47, 42, 44, 48, 51, 52, 55, 57, 58]) (ks := []) (by kernel_rfl)

/- (*tipstaff/verify.checker).save -/
def xf57 : XF := ⟨5, [0, 1, 2, 3, 4, 10, 11, 6, 7, 8, 9, 12, 20, 28, 37, 38, 41, 54, 13, 14, 63, 64],
  (.seq
 (.seq
 (.new (some 7) 76 (.var 1))
 (.seq
 (.new (some 8) 28 (.var 2))
 (.seq
 (.new (some 9) 82 (.var 3))
 (.seq
 (.new (some 10) 68 (.var 4))
 (.seq
 (.set 5 (.const (.slice none 0 0)))
 (.set 6 (.const (.bool false))))))))
 (.seq
 (.seq
 (.set 12 (.ld (some 11) (.ixArr 11 11 (.offp 0 (.offp 1 (.var 7))) (.ld none (.offp 1 (.var 8))))))
 (.seq
 (.new (some 11) 68 (.const zA4))
 (.store 11 (.var 11) (.var 12) [])))
 (.seq
 (.seq
 (.call (some 13) 104 [(.var 0), (.ld (some 11) (.var 11)), (.conv .i64 (.ld none (.offp 3 (.var 8)))), (.ld none (.offp 2 (.var 9)))] [])
 (.cond (.un .not (.var 13))
 (.seq
 (.seq
 (.set 5 (.const (.slice none 0 0)))
 (.set 6 (.const (.bool false))))
 .ret)
 .skip))
 (.seq
 (.cond (.bin .eql (.ld none (.offp 0 (.var 11))) (.const (.int .i64 5)))
 (.seq
 (.seq
 .skip
 (.seq
 (.chk [(.bin .add (.ld none (.offp 0 (.var 7))) (.const (.int .i64 1))), (.ld (some 274) (.var 7))])
 (.seq
 (.set 16 (.bin .eql (.ld none (.offp 0 (.var 10))) (.const (.int .i64 1))))
 (.seq
 (.call (some 14) 53 [(.ld (some 274) (.var 7)), (.bin .add (.ld none (.offp 0 (.var 7))) (.const (.int .i64 1)))] [(.ld none (.offp 0 (.var 10)))])
 (.seq
 (.row (some 15) 76 1 (.upd 0 274 (.const zA8) (.var 14)))
 (.seq
 (.set 5 (.var 15))
 (.set 6 (.var 16))))))))
 .ret)
 .skip)
 (.seq
 (.seq
 (.call (some 17) 105 [(.ld (some 273) (.offp 1 (.var 7))), (.bin .add (.ld none (.offp 9 (.var 11))) (.conv .i64 (.ld none (.offp 3 (.var 8))))), (.ld none (.offp 2 (.var 9))), (.ld (some 11) (.var 10))] [])
 (.seq
 (.chk [(.proj 1 (.var 17)), (.proj 0 (.var 17))])
 (.seq
 (.new (some 18) 73 (.const zA7))
 (.seq
 (.store 273 (.var 18) (.proj 0 (.var 17)) [])
 (.set 19 (.proj 1 (.var 17)))))))
 (.seq
 (.store 273 (.offp 1 (.var 7)) (.ld (some 273) (.var 18)) [])
 (.seq
 (.seq
 (.call (some 20) 53 [(.ld (some 274) (.var 7)), (.bin .add (.ld none (.offp 0 (.var 7))) (.const (.int .i64 1)))] [])
 (.seq
 (.row (some 21) 76 1 (.upd 0 274 (.const zA8) (.var 20)))
 (.seq
 (.chk [(.var 19)])
 (.seq
 (.set 5 (.var 21))
 (.set 6 (.var 19))))))
 .ret))))))),
  [(.var 5), (.var 6)]⟩
theorem okx_57 : FnOk Tryz.prog 0 161 57 xf57 := fnOk_of Tryz.func57 (np := 5) (V := [0, 1, 2, 3, 4, 10, 11, 6, 7, 8, 9, 12, 20, 28, 37, 38, 41, 54, 13, 14, 63, 64]) (ks := []) (by kernel_rfl)

/- tipstaff/verify.second -/
def xf58 : XF := ⟨3, [0, 1, 2, 6, 3, 4, 17],
  (.seq
 (.seq
 (.new (some 4) 73 (.var 0))
 (.seq
 (.new (some 5) 28 (.var 1))
 (.new (some 3) 68 (.const zA4))))
 (.seq
 (.cond (.var 2)
 (.seq
 (.store 11 (.var 3) (.ld (some 11) (.ixArr 11 11 (.offp 0 (.var 4)) (.ld none (.offp 2 (.var 5))))) [])
 .ret)
 .skip)
 (.seq
 (.seq
 (.call (some 6) 91 [(.conv .u64 (.conv .i64 (.ld none (.offp 4 (.var 5)))))] [])
 (.store 11 (.var 3) (.var 6) []))
 .ret))),
  [(.ld (some 11) (.var 3))]⟩
theorem okx_58 : FnOk Tryz.prog 0 161 58 xf58 := fnOk_of Tryz.func58 (np := 3) (V := [0, 1, 2, 6, 3, 4, 17]) (ks := []) (by kernel_rfl)

/- (*tipstaff/verify.checker).wide -/
def xf60 : XF := ⟨3, [0, 1, 2, 6, 7, 4, 5, 8, 36, 32, 34, 37, 43, 9, 10, 53],
  (.seq
 (.seq
 (.new (some 5) 76 (.var 1))
 (.seq
 (.new (some 6) 28 (.var 2))
 (.seq
 (.set 3 (.const (.slice none 0 0)))
 (.set 4 (.const (.bool false))))))
 (.seq
 (.cond (.bin .eql (.ld none (.offp 2 (.var 6))) (.const (.int .u8 0)))
 (.seq
 (.seq
 .skip
 (.set 7 (.bin .or (.conv .u64 (.conv .u32 (.ld none (.offp 4 (.var 6))))) (.bin .shl (.conv .u64 (.conv .u32 (.ld none (.offp 4 (.ixSl 5 (.ld none (.offp 0 (.nn (.var 0)))) (.bin .add (.ld none (.offp 0 (.var 5))) (.const (.int .i64 1)))))))) (.const (.int .u64 32))))))
 (.seq
 (.seq
 .skip
 (.seq
 (.set 9 (.ld (some 274) (.var 5)))
 (.seq
 (.set 10 (.ld none (.offp 1 (.var 6))))
 (.seq
 (.call (some 8) 91 [(.var 7)] [(.ld none (.offp 1 (.var 6))), (.ld (some 274) (.var 5))])
 (.seq
 (.call (some 11) 93 [(.var 9), (.var 10), (.var 8), (.const (.int .i64 2))] [])
 (.seq
 (.set 3 (.var 11))
 (.set 4 (.const (.bool true)))))))))
 .ret))
 .skip)
 (.seq
 (.seq
 (.call (some 12) 99 [(.var 0), (.conv .i64 (.ld none (.offp 4 (.var 6))))] [])
 (.seq
 (.chk [(.proj 1 (.var 12)), (.proj 0 (.var 12))])
 (.seq
 (.new (some 13) 55 (.const (.agg (Array.replicate 4 (.int .i64 0)))))
 (.seq
 (.store 4 (.var 13) (.proj 0 (.var 12)) [])
 (.set 14 (.proj 1 (.var 12)))))))
 (.seq
 (.seq
 (.chk [(.upd 7 1 (.upd 0 1 (.const zA4) (.const (.int .i64 4))) (.conv .i64 (.ld none (.offp 4 (.var 6)))))])
 (.seq
 (.call (some 15) 93 [(.ld (some 274) (.var 5)), (.ld none (.offp 1 (.var 6))), (.upd 7 1 (.upd 0 1 (.const zA4) (.const (.int .i64 4))) (.conv .i64 (.ld none (.offp 4 (.var 6))))), (.const (.int .i64 2))] [])
 (.seq
 (.chk [(.var 14)])
 (.seq
 (.set 3 (.var 15))
 (.set 4 (.var 14))))))
 .ret)))),
  [(.var 3), (.var 4)]⟩
theorem okx_60 : FnOk Tryz.prog 0 161 60 xf60 := fnOk_of Tryz.func60 (np := 3) (V := [0, 1, 2, 6, 7, 4, 5, 8, 36, 32, 34, 37, 43, 9, 10, 53]) (ks := []) (by kernel_rfl)

/- math/bits.Len64 -/
def xf71 : XF := ⟨1, [0, 2],
  (.seq
 (.set 1 (.const (.int .i64 0)))
 (.seq
 (.cond (.bin .geq (.var 0) (.const (.int .u64 4294967296)))
 (.seq
 (.set 0 (.bin .shr (.var 0) (.const (.int .u64 32))))
 (.set 1 (.const (.int .i64 32))))
 .skip)
 (.seq
 (.cond (.bin .geq (.var 0) (.const (.int .u64 65536)))
 (.seq
 (.set 0 (.bin .shr (.var 0) (.const (.int .u64 16))))
 (.set 1 (.bin .add (.var 1) (.const (.int .i64 16)))))
 .skip)
 (.seq
 (.cond (.bin .geq (.var 0) (.const (.int .u64 256)))
 (.seq
 (.set 0 (.bin .shr (.var 0) (.const (.int .u64 8))))
 (.set 1 (.bin .add (.var 1) (.const (.int .i64 8)))))
 .skip)
 (.seq
 (.seq
 (.chk [(.bin .add (.var 1) (.conv .i64 (.idxStr (.const (.string ⟨#[0, 1, 2, 2, 3, 3, 3, 3, 4, 4, 4, 4, 4, 4, 4, 4, 5, 5, 5, 5, 5, 5, 5, 5, 5, 5, 5, 5, 5, 5, 5, 5, 6, 6, 6, 6, 6, 6, 6, 6, 6, 6, 6, 6, 6, 6, 6, 6, 6, 6, 6, 6, 6, 6, 6, 6, 6, 6, 6, 6, 6, 6, 6, 6, 7, 7, 7, 7, 7, 7, 7, 7, 7, 7, 7, 7, 7, 7, 7, 7, 7, 7, 7, 7, 7, 7, 7, 7, 7, 7, 7, 7, 7, 7, 7, 7, 7, 7, 7, 7, 7, 7, 7, 7, 7, 7, 7, 7, 7, 7, 7, 7, 7, 7, 7, 7, 7, 7, 7, 7, 7, 7, 7, 7, 7, 7, 7, 7, 8, 8, 8, 8, 8, 8, 8, 8, 8, 8, 8, 8, 8, 8, 8, 8, 8, 8, 8, 8, 8, 8, 8, 8, 8, 8, 8, 8, 8, 8, 8, 8, 8, 8, 8, 8, 8, 8, 8, 8, 8, 8, 8, 8, 8, 8, 8, 8, 8, 8, 8, 8, 8, 8, 8, 8, 8, 8, 8, 8, 8, 8, 8, 8, 8, 8, 8, 8, 8, 8, 8, 8, 8, 8, 8, 8, 8, 8, 8, 8, 8, 8, 8, 8, 8, 8, 8, 8, 8, 8, 8, 8, 8, 8, 8, 8, 8, 8, 8, 8, 8, 8, 8, 8, 8, 8, 8, 8, 8, 8, 8, 8, 8, 8, 8, 8, 8, 8, 8, 8, 8, 8, 8, 8, 8, 8, 8, 8]⟩)) (.conv .u8 (.var 0))))), (.conv .i64 (.idxStr (.const (.string ⟨#[0, 1, 2, 2, 3, 3, 3, 3, 4, 4, 4, 4, 4, 4, 4, 4, 5, 5, 5, 5, 5, 5, 5, 5, 5, 5, 5, 5, 5, 5, 5, 5, 6, 6, 6, 6, 6, 6, 6, 6, 6, 6, 6, 6, 6, 6, 6, 6, 6, 6, 6, 6, 6, 6, 6, 6, 6, 6, 6, 6, 6, 6, 6, 6, 7, 7, 7, 7, 7, 7, 7, 7, 7, 7, 7, 7, 7, 7, 7, 7, 7, 7, 7, 7, 7, 7, 7, 7, 7, 7, 7, 7, 7, 7, 7, 7, 7, 7, 7, 7, 7, 7, 7, 7, 7, 7, 7, 7, 7, 7, 7, 7, 7, 7, 7, 7, 7, 7, 7, 7, 7, 7, 7, 7, 7, 7, 7, 7, 8, 8, 8, 8, 8, 8, 8, 8, 8, 8, 8, 8, 8, 8, 8, 8, 8, 8, 8, 8, 8, 8, 8, 8, 8, 8, 8, 8, 8, 8, 8, 8, 8, 8, 8, 8, 8, 8, 8, 8, 8, 8, 8, 8, 8, 8, 8, 8, 8, 8, 8, 8, 8, 8, 8, 8, 8, 8, 8, 8, 8, 8, 8, 8, 8, 8, 8, 8, 8, 8, 8, 8, 8, 8, 8, 8, 8, 8, 8, 8, 8, 8, 8, 8, 8, 8, 8, 8, 8, 8, 8, 8, 8, 8, 8, 8, 8, 8, 8, 8, 8, 8, 8, 8, 8, 8, 8, 8, 8, 8, 8, 8, 8, 8, 8, 8, 8, 8, 8, 8, 8, 8, 8, 8, 8, 8, 8, 8]⟩)) (.conv .u8 (.var 0)))), (.idxStr (.const (.string ⟨#[0, 1, 2, 2, 3, 3, 3, 3, 4, 4, 4, 4, 4, 4, 4, 4, 5, 5, 5, 5, 5, 5, 5, 5, 5, 5, 5, 5, 5, 5, 5, 5, 6, 6, 6, 6, 6, 6, 6, 6, 6, 6, 6, 6, 6, 6, 6, 6, 6, 6, 6, 6, 6, 6, 6, 6, 6, 6, 6, 6, 6, 6, 6, 6, 7, 7, 7, 7, 7, 7, 7, 7, 7, 7, 7, 7, 7, 7, 7, 7, 7, 7, 7, 7, 7, 7, 7, 7, 7, 7, 7, 7, 7, 7, 7, 7, 7, 7, 7, 7, 7, 7, 7, 7, 7, 7, 7, 7, 7, 7, 7, 7, 7, 7, 7, 7, 7, 7, 7, 7, 7, 7, 7, 7, 7, 7, 7, 7, 8, 8, 8, 8, 8, 8, 8, 8, 8, 8, 8, 8, 8, 8, 8, 8, 8, 8, 8, 8, 8, 8, 8, 8, 8, 8, 8, 8, 8, 8, 8, 8, 8, 8, 8, 8, 8, 8, 8, 8, 8, 8, 8, 8, 8, 8, 8, 8, 8, 8, 8, 8, 8, 8, 8, 8, 8, 8, 8, 8, 8, 8, 8, 8, 8, 8, 8, 8, 8, 8, 8, 8, 8, 8, 8, 8, 8, 8, 8, 8, 8, 8, 8, 8, 8, 8, 8, 8, 8, 8, 8, 8, 8, 8, 8, 8, 8, 8, 8, 8, 8, 8, 8, 8, 8, 8, 8, 8, 8, 8, 8, 8, 8, 8, 8, 8, 8, 8, 8, 8, 8, 8, 8, 8, 8, 8, 8, 8]⟩)) (.conv .u8 (.var 0)))])
 (.set 1 (.bin .add (.var 1) (.conv .i64 (.idxStr (.const (.string ⟨#[0, 1, 2, 2, 3, 3, 3, 3, 4, 4, 4, 4, 4, 4, 4, 4, 5, 5, 5, 5, 5, 5, 5, 5, 5, 5, 5, 5, 5, 5, 5, 5, 6, 6, 6, 6, 6, 6, 6, 6, 6, 6, 6, 6, 6, 6, 6, 6, 6, 6, 6, 6, 6, 6, 6, 6, 6, 6, 6, 6, 6, 6, 6, 6, 7, 7, 7, 7, 7, 7, 7, 7, 7, 7, 7, 7, 7, 7, 7, 7, 7, 7, 7, 7, 7, 7, 7, 7, 7, 7, 7, 7, 7, 7, 7, 7, 7, 7, 7, 7, 7, 7, 7, 7, 7, 7, 7, 7, 7, 7, 7, 7, 7, 7, 7, 7, 7, 7, 7, 7, 7, 7, 7, 7, 7, 7, 7, 7, 8, 8, 8, 8, 8, 8, 8, 8, 8, 8, 8, 8, 8, 8, 8, 8, 8, 8, 8, 8, 8, 8, 8, 8, 8, 8, 8, 8, 8, 8, 8, 8, 8, 8, 8, 8, 8, 8, 8, 8, 8, 8, 8, 8, 8, 8, 8, 8, 8, 8, 8, 8, 8, 8, 8, 8, 8, 8, 8, 8, 8, 8, 8, 8, 8, 8, 8, 8, 8, 8, 8, 8, 8, 8, 8, 8, 8, 8, 8, 8, 8, 8, 8, 8, 8, 8, 8, 8, 8, 8, 8, 8, 8, 8, 8, 8, 8, 8, 8, 8, 8, 8, 8, 8, 8, 8, 8, 8, 8, 8, 8, 8, 8, 8, 8, 8, 8, 8, 8, 8, 8, 8, 8, 8, 8, 8, 8, 8]⟩)) (.conv .u8 (.var 0)))))))
 .ret))))),
  [(.var 1)]⟩
theorem okx_71 : FnOk Tryz.prog 0 161 71 xf71 := fnOk_of Tryz.func71 (np := 1) (V := [0, 2]) (ks := []) (by kernel_rfl)

/- slices.insertionSortOrdered[int] -/
def xf72 : XF := ⟨3, [0, 1, 2, 6, 7, 29, 46],
  (.seq
 (.set 3 (.bin .add (.var 1) (.const (.int .i64 1))))
 (.block 0
 (.loop [0, 1, 2, 3]
 (.seq
 (.cond (.bin .lss (.var 3) (.var 2))
 .skip
 (.exit 0))
 (.seq
 (.block 1
 (.seq
 (.set 4 (.var 3))
 (.block 2
 (.loop [0, 1, 2, 3, 4]
 (.seq
 (.seq
 (.seq
 .skip
 (.seq
 (.chk [(.pick (.bin .gtr (.var 4) (.var 1)) (.ld none (.ixSl 1 (.var 0) (.bin .sub (.var 4) (.const (.int .i64 1))))) (.const (.bool false))), (.pick (.bin .gtr (.var 4) (.var 1)) (.ld none (.ixSl 1 (.var 0) (.var 4))) (.const (.bool false)))])
 (.cond (.pick (.bin .gtr (.var 4) (.var 1)) (.const (.bool true)) (.const (.bool false)))
 (.call (some 5) 78 [(.ld none (.ixSl 1 (.var 0) (.var 4))), (.ld none (.ixSl 1 (.var 0) (.bin .sub (.var 4) (.const (.int .i64 1)))))] [])
 (.clr [5]))))
 (.cond (.pick (.bin .gtr (.var 4) (.var 1)) (.var 5) (.const (.bool false)))
 .skip
 (.exit 2)))
 (.seq
 (.block 3
 (.seq
 .skip
 (.seq
 (.chk [(.ld none (.ixSl 1 (.var 0) (.bin .sub (.var 4) (.const (.int .i64 1)))))])
 (.seq
 (.set 6 (.ld none (.ixSl 1 (.var 0) (.var 4))))
 (.seq
 (.store 1 (.ixSl 1 (.var 0) (.var 4)) (.ld none (.ixSl 1 (.var 0) (.bin .sub (.var 4) (.const (.int .i64 1))))) [])
 (.store 1 (.ixSl 1 (.var 0) (.bin .sub (.var 4) (.const (.int .i64 1)))) (.var 6) []))))))
 (.set 4 (.bin .sub (.var 4) (.const (.int .i64 1))))))))))
 (.set 3 (.bin .add (.var 3) (.const (.int .i64 1))))))))),
  []⟩
theorem okx_72 : FnOk Tryz.prog 0 161 72 xf72 := fnOk_of Tryz.func72 (np := 3) (V := [0, 1, 2, 6, 7, 29, 46]) (ks := [[0, 1, 2, 3], [0, 1, 2, 3, 4]]) (by kernel_rfl)
end Go.Proofs.YtkgpmjjleemdlaaGreat
