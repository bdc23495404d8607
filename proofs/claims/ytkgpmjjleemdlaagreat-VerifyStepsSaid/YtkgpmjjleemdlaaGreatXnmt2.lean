/- The interpreter's functions, part 2: made by program (geny.py). -/
import Derived.Test.YtkgpmjjleemdlaaGreatXnmz
import Derived.Test.YtkgpmjjleemdlaaGreatProg
set_option maxRecDepth 100000
set_option linter.unusedVariables false
namespace Go.Proofs.YtkgpmjjleemdlaaGreat
open Go.Eng
/- cmp.Less[int] -/
def xf78 : XF := ⟨2, [0, 1, 4, 6, 9],
  (.seq
 (.set 2 (.const (.bool false)))
 (.seq
 (.seq
 (.call (some 3) 115 [(.var 0)] [])
 (.seq
 (.chk [(.pick (.var 3) (.var 1) (.const (.bool false)))])
 (.seq
 (.cond (.pick (.var 3) (.const (.bool true)) (.const (.bool false)))
 (.call (some 4) 115 [(.var 1)] [])
 (.clr [4]))
 (.set 2 (.pick (.pick (.var 3) (.un .not (.var 4)) (.const (.bool false))) (.const (.bool true)) (.bin .lss (.var 0) (.var 1)))))))
 .ret)),
  [(.var 2)]⟩
theorem okx_78 : FnOk Tryz.prog 0 161 78 xf78 := fnOk_of Tryz.func78 (np := 2) (V := [0, 1, 4, 6, 9]) (ks := []) (by kernel_rfl)

/- tipstaff/shape.plain -/
def xf81 : XF := ⟨2, [0, 1, 4, 2, 3, 5, 14, 33],
  (.seq
 (.seq
 (.new (some 3) 28 (.var 0))
 (.seq
 (.new (some 4) 135 (.var 1))
 (.set 2 (.const (.bool false)))))
 (.seq
 (.block 0
 (.seq
 (.set 5 (.pick (.bin .geq (.ld none (.offp 1 (.var 3))) (.const (.int .u8 11))) (.const (.bool true)) (.bin .geq (.ld none (.offp 2 (.var 3))) (.const (.int .u8 11)))))
 (.cond (.var 5)
 .skip
 (.seq
 (.set 6 (.pick (.pick (.un .not (.ld none (.offp 0 (.var 4)))) (.bin .neq (.ld none (.offp 1 (.var 3))) (.const (.int .u8 0))) (.const (.bool false))) (.const (.bool true)) (.pick (.un .not (.ld none (.offp 1 (.var 4)))) (.bin .neq (.ld none (.offp 2 (.var 3))) (.const (.int .u8 0))) (.const (.bool false)))))
 (.cond (.var 6)
 .skip
 (.seq
 (.set 7 (.pick (.pick (.un .not (.ld none (.offp 2 (.var 4)))) (.bin .neq (.ld none (.offp 3 (.var 3))) (.const (.int .i16 0))) (.const (.bool false))) (.const (.bool true)) (.pick (.un .not (.ld none (.offp 3 (.var 4)))) (.bin .neq (.ld none (.offp 4 (.var 3))) (.const (.int .i32 0))) (.const (.bool false)))))
 (.cond (.var 7)
 .skip
 (.seq
 (.set 2 (.const (.bool true)))
 .ret))))))))
 (.seq
 (.set 2 (.const (.bool false)))
 .ret))),
  [(.var 2)]⟩
theorem okx_81 : FnOk Tryz.prog 0 161 81 xf81 := fnOk_of Tryz.func81 (np := 2) (V := [0, 1, 4, 2, 3, 5, 14, 33]) (ks := []) (by kernel_rfl)

/- tipstaff/shape.named -/
def xf82 : XF := ⟨1, [0, 2, 1, 4, 5, 18, 27, 30, 34, 37, 40],
  (.seq
 (.seq
 (.new (some 2) 82 (.var 0))
 (.new (some 1) 135 (.const (.agg (Array.replicate 4 (.bool false))))))
 (.seq
 (.seq
 (.set 3 (.ld none (.offp 0 (.var 2))))
 (.block 0
 (.seq
 (.set 4 (.bin .eql (.var 3) (.const (.int .i64 1))))
 (.cond (.var 4)
 (.seq
 (.seq
 (.chk [(.upd 3 1 (.upd 2 1 (.upd 1 1 (.upd 0 1 (.const (.agg (Array.replicate 4 (.bool false)))) (.const (.bool true))) (.ld none (.offp 4 (.var 2)))) (.const (.bool false))) (.pick (.un .not (.ld none (.offp 4 (.var 2)))) (.bin .neq (.ld none (.offp 1 (.var 2))) (.const (.int .i64 8))) (.const (.bool false))))])
 (.store 4 (.var 1) (.upd 3 1 (.upd 2 1 (.upd 1 1 (.upd 0 1 (.const (.agg (Array.replicate 4 (.bool false)))) (.const (.bool true))) (.ld none (.offp 4 (.var 2)))) (.const (.bool false))) (.pick (.un .not (.ld none (.offp 4 (.var 2)))) (.bin .neq (.ld none (.offp 1 (.var 2))) (.const (.int .i64 8))) (.const (.bool false)))) []))
 .ret)
 (.seq
 (.seq
 (.set 5 (.bin .eql (.var 3) (.const (.int .i64 2))))
 (.cond (.var 5)
 .skip
 (.set 5 (.bin .eql (.var 3) (.const (.int .i64 7))))))
 (.cond (.var 5)
 (.seq
 (.seq
 (.chk [(.upd 3 1 (.upd 2 1 (.upd 1 1 (.upd 0 1 (.const (.agg (Array.replicate 4 (.bool false)))) (.const (.bool true))) (.ld none (.offp 4 (.var 2)))) (.const (.bool true))) (.un .not (.ld none (.offp 4 (.var 2)))))])
 (.store 4 (.var 1) (.upd 3 1 (.upd 2 1 (.upd 1 1 (.upd 0 1 (.const (.agg (Array.replicate 4 (.bool false)))) (.const (.bool true))) (.ld none (.offp 4 (.var 2)))) (.const (.bool true))) (.un .not (.ld none (.offp 4 (.var 2))))) []))
 .ret)
 (.seq
 (.set 6 (.bin .eql (.var 3) (.const (.int .i64 3))))
 (.cond (.var 6)
 (.seq
 (.seq
 (.chk [(.upd 2 1 (.const (.agg (Array.replicate 4 (.bool false)))) (.const (.bool true)))])
 (.store 4 (.var 1) (.upd 2 1 (.const (.agg (Array.replicate 4 (.bool false)))) (.const (.bool true))) []))
 .ret)
 (.seq
 (.seq
 (.set 7 (.bin .eql (.var 3) (.const (.int .i64 4))))
 (.cond (.var 7)
 .skip
 (.set 7 (.bin .eql (.var 3) (.const (.int .i64 10))))))
 (.cond (.var 7)
 (.seq
 (.seq
 (.chk [(.upd 3 1 (.const (.agg (Array.replicate 4 (.bool false)))) (.const (.bool true)))])
 (.store 4 (.var 1) (.upd 3 1 (.const (.agg (Array.replicate 4 (.bool false)))) (.const (.bool true))) []))
 .ret)
 (.seq
 (.set 8 (.bin .eql (.var 3) (.const (.int .i64 6))))
 (.cond (.var 8)
 (.seq
 (.seq
 (.chk [(.upd 3 1 (.upd 2 1 (.upd 1 1 (.upd 0 1 (.const (.agg (Array.replicate 4 (.bool false)))) (.const (.bool true))) (.const (.bool true))) (.const (.bool true))) (.const (.bool false)))])
 (.store 4 (.var 1) (.upd 3 1 (.upd 2 1 (.upd 1 1 (.upd 0 1 (.const (.agg (Array.replicate 4 (.bool false)))) (.const (.bool true))) (.const (.bool true))) (.const (.bool true))) (.const (.bool false))) []))
 .ret)
 (.seq
 (.set 9 (.bin .eql (.var 3) (.const (.int .i64 8))))
 (.cond (.var 9)
 (.seq
 (.seq
 (.chk [(.upd 3 1 (.upd 2 1 (.upd 1 1 (.upd 0 1 (.const (.agg (Array.replicate 4 (.bool false)))) (.const (.bool true))) (.const (.bool true))) (.const (.bool true))) (.const (.bool true)))])
 (.store 4 (.var 1) (.upd 3 1 (.upd 2 1 (.upd 1 1 (.upd 0 1 (.const (.agg (Array.replicate 4 (.bool false)))) (.const (.bool true))) (.const (.bool true))) (.const (.bool true))) (.const (.bool true))) []))
 .ret)
 (.seq
 (.set 10 (.bin .eql (.var 3) (.const (.int .i64 9))))
 (.cond (.var 10)
 (.seq
 (.seq
 (.chk [(.upd 3 1 (.upd 2 1 (.upd 1 1 (.upd 0 1 (.const (.agg (Array.replicate 4 (.bool false)))) (.const (.bool true))) (.const (.bool true))) (.const (.bool false))) (.const (.bool true)))])
 (.store 4 (.var 1) (.upd 3 1 (.upd 2 1 (.upd 1 1 (.upd 0 1 (.const (.agg (Array.replicate 4 (.bool false)))) (.const (.bool true))) (.const (.bool true))) (.const (.bool false))) (.const (.bool true))) []))
 .ret)
 .skip))))))))))))))))
 (.seq
 (.store 4 (.var 1) (.const (.agg (Array.replicate 4 (.bool false)))) [])
 .ret))),
  [(.ld (some 4) (.var 1))]⟩
theorem okx_82 : FnOk Tryz.prog 0 161 82 xf82 := fnOk_of Tryz.func82 (np := 1) (V := [0, 2, 1, 4, 5, 18, 27, 30, 34, 37, 40]) (ks := []) (by kernel_rfl)

/- tipstaff/shape.writes -/
def xf83 : XF := ⟨1, [0, 2],
  (.seq
 (.set 1 (.const (.bool false)))
 (.seq
 (.set 1 (.pick (.pick (.bin .eql (.var 0) (.const (.int .i64 1))) (.const (.bool true)) (.bin .eql (.var 0) (.const (.int .i64 6)))) (.const (.bool true)) (.bin .eql (.var 0) (.const (.int .i64 9)))))
 .ret)),
  [(.var 1)]⟩
theorem okx_83 : FnOk Tryz.prog 0 161 83 xf83 := fnOk_of Tryz.func83 (np := 1) (V := [0, 2]) (ks := []) (by kernel_rfl)

/- tipstaff/shape.constant -/
def xf84 : XF := ⟨2, [0, 1, 4, 2, 9, 10, 15, 5],
  (.seq
 (.seq
 (.new (some 3) 82 (.var 0))
 (.set 2 (.const (.bool false))))
 (.seq
 (.cond (.ld none (.offp 4 (.var 3)))
 (.seq
 (.set 2 (.const (.bool true)))
 .ret)
 .skip)
 (.seq
 (.seq
 (.set 4 (.ld none (.offp 1 (.var 3))))
 (.block 0
 (.seq
 (.seq
 (.set 5 (.bin .eql (.var 4) (.const (.int .i64 3))))
 (.cond (.var 5)
 .skip
 (.set 5 (.bin .eql (.var 4) (.const (.int .i64 9))))))
 (.cond (.var 5)
 (.seq
 (.set 2 (.bin .neq (.var 1) (.const (.int .i32 0))))
 .ret)
 (.seq
 (.seq
 (.set 6 (.bin .eql (.var 4) (.const (.int .i64 6))))
 (.cond (.var 6)
 .skip
 (.seq
 (.set 6 (.bin .eql (.var 4) (.const (.int .i64 7))))
 (.cond (.var 6)
 .skip
 (.set 6 (.bin .eql (.var 4) (.const (.int .i64 12))))))))
 (.cond (.var 6)
 (.seq
 (.set 7 (.const (.int .i32 31)))
 (.seq
 (.cond (.ld none (.offp 3 (.var 3)))
 (.set 7 (.const (.int .i32 63)))
 .skip)
 (.seq
 (.set 2 (.pick (.bin .geq (.var 1) (.const (.int .i32 0))) (.bin .leq (.var 1) (.var 7)) (.const (.bool false))))
 .ret)))
 .skip))))))
 (.seq
 (.set 2 (.const (.bool true)))
 .ret)))),
  [(.var 2)]⟩
theorem okx_84 : FnOk Tryz.prog 0 161 84 xf84 := fnOk_of Tryz.func84 (np := 2) (V := [0, 1, 4, 2, 9, 10, 15, 5]) (ks := []) (by kernel_rfl)

/- tipstaff/shape.Args -/
def xf85 : XF := ⟨1, [0, 2, 3, 4, 5, 10, 12, 15],
  (.seq
 (.seq
 (.set 1 (.const (.int .i64 0)))
 (.set 2 (.const (.bool false))))
 (.seq
 (.seq
 (.set 3 (.var 0))
 (.block 0
 (.seq
 (.seq
 (.set 4 (.bin .eql (.var 3) (.const (.int .i32 1))))
 (.cond (.var 4)
 .skip
 (.seq
 (.set 4 (.bin .eql (.var 3) (.const (.int .i32 3))))
 (.cond (.var 4)
 .skip
 (.seq
 (.set 4 (.bin .eql (.var 3) (.const (.int .i32 88))))
 (.cond (.var 4)
 .skip
 (.set 4 (.bin .eql (.var 3) (.const (.int .i32 89))))))))))
 (.cond (.var 4)
 (.seq
 (.seq
 (.set 1 (.const (.int .i64 2)))
 (.set 2 (.const (.bool true))))
 .ret)
 (.seq
 (.set 5 (.bin .eql (.var 3) (.const (.int .i32 2))))
 (.cond (.var 5)
 (.seq
 (.seq
 (.set 1 (.const (.int .i64 4)))
 (.set 2 (.const (.bool true))))
 .ret)
 (.seq
 (.seq
 (.set 6 (.bin .eql (.var 3) (.const (.int .i32 5))))
 (.cond (.var 6)
 .skip
 (.set 6 (.bin .eql (.var 3) (.const (.int .i32 7))))))
 (.cond (.var 6)
 (.seq
 (.seq
 (.set 1 (.const (.int .i64 0)))
 (.set 2 (.const (.bool true))))
 .ret)
 (.seq
 (.set 7 (.bin .eql (.var 3) (.const (.int .i32 87))))
 (.cond (.var 7)
 (.seq
 (.seq
 (.set 1 (.const (.int .i64 3)))
 (.set 2 (.const (.bool true))))
 .ret)
 .skip))))))))))
 (.seq
 (.seq
 (.set 1 (.const (.int .i64 0)))
 (.set 2 (.const (.bool false))))
 .ret))),
  [(.var 1), (.var 2)]⟩
theorem okx_85 : FnOk Tryz.prog 0 161 85 xf85 := fnOk_of Tryz.func85 (np := 1) (V := [0, 2, 3, 4, 5, 10, 12, 15]) (ks := []) (by kernel_rfl)

/- tipstaff/shape.wide -/
def xf87 : XF := ⟨2, [0, 1, 4, 5, 9, 21],
  (.seq
 (.set 2 (.const (.bool false)))
 (.seq
 (.seq
 (.set 4 (.ld (some 5) (.ixSl 5 (.var 0) (.var 1))))
 (.seq
 (.new (some 3) 28 (.const zA0))
 (.store 5 (.var 3) (.var 4) [])))
 (.seq
 (.seq
 (.seq
 (.chk [(.pick (.bin .geq (.bin .add (.var 1) (.const (.int .i64 1))) (.len false (.var 0))) (.const (.bool false)) (.ld (some 5) (.ixSl 5 (.var 0) (.bin .add (.var 1) (.const (.int .i64 1))))))])
 (.cond (.pick (.bin .geq (.bin .add (.var 1) (.const (.int .i64 1))) (.len false (.var 0))) (.const (.bool false)) (.const (.bool true)))
 (.call (some 5) 45 [(.ld (some 5) (.ixSl 5 (.var 0) (.bin .add (.var 1) (.const (.int .i64 1)))))] [])
 (.clr [5])))
 (.cond (.pick (.pick (.bin .geq (.bin .add (.var 1) (.const (.int .i64 1))) (.len false (.var 0))) (.const (.bool true)) (.bin .neq (.var 5) (.const (.int .i64 10)))) (.const (.bool true)) (.bin .gtr (.ld none (.offp 2 (.var 3))) (.const (.int .u8 1))))
 (.seq
 (.set 2 (.const (.bool false)))
 .ret)
 .skip))
 (.seq
 (.set 2 (.pick (.bin .eql (.ld none (.offp 2 (.var 3))) (.const (.int .u8 0))) (.const (.bool true)) (.pick (.pick (.bin .geq (.ld none (.offp 4 (.var 3))) (.const (.int .i32 0))) (.bin .lss (.ld none (.offp 4 (.var 3))) (.const (.int .i32 4))) (.const (.bool false))) (.bin .eql (.ld none (.offp 4 (.ixSl 5 (.var 0) (.bin .add (.var 1) (.const (.int .i64 1)))))) (.const (.int .i32 0))) (.const (.bool false)))))
 .ret)))),
  [(.var 2)]⟩
theorem okx_87 : FnOk Tryz.prog 0 161 87 xf87 := fnOk_of Tryz.func87 (np := 2) (V := [0, 1, 4, 5, 9, 21]) (ks := []) (by kernel_rfl)

/- (*tipstaff/cfg.walk).visit -/
def xf88 : XF := ⟨2, [0, 1, 17, 19, 18, 5, 29, 30, 35],
  (.seq
 (.store 1 (.ixSl 1 (.ld none (.offp 1 (.nn (.var 0)))) (.var 1)) (.const (.int .i64 1)) [])
 (.seq
 (.seq
 (.seq
 (.call (some 2) 116 [(.ld none (.offp 0 (.nn (.var 0)))), (.var 1)] [])
 (.seq
 (.set 4 (.len false (.var 2)))
 (.set 3 (.const (.int .i64 0)))))
 (.block 0
 (.loop [0, 1, 2, 3, 4]
 (.seq
 (.cond (.bin .lss (.var 3) (.var 4))
 .skip
 (.exit 0))
 (.seq
 (.block 1
 (.seq
 (.set 5 (.ld none (.ixSl 1 (.var 2) (.var 3))))
 (.seq
 (.set 6 (.ld none (.ixSl 1 (.ld none (.offp 1 (.nn (.var 0)))) (.var 5))))
 (.block 2
 (.seq
 (.set 7 (.bin .eql (.var 6) (.const (.int .i64 1))))
 (.cond (.var 7)
 (.store 1 (.offp 2 (.nn (.var 0))) (.const (.bool true)) [])
 (.seq
 (.set 8 (.bin .eql (.var 6) (.const (.int .i64 0))))
 (.cond (.var 8)
 (.call none 88 [(.var 0), (.var 5)] [])
 .skip))))))))
 (.set 3 (.bin .add (.var 3) (.const (.int .i64 1)))))))))
 (.store 1 (.ixSl 1 (.ld none (.offp 1 (.nn (.var 0)))) (.var 1)) (.const (.int .i64 2)) []))),
  []⟩
theorem okx_88 : FnOk Tryz.prog 0 161 88 xf88 := fnOk_of Tryz.func88 (np := 2) (V := [0, 1, 17, 19, 18, 5, 29, 30, 35]) (ks := [[0, 1, 2, 3, 4]]) (by kernel_rfl)

/- slices.IndexFunc[[]tipstaff/absreg.State,tipstaff/absreg.State] -/
def xf89 : XF := ⟨2, [0, 1, 4, 8, 7, 5, 16],
  (.seq
 (.set 2 (.const (.int .i64 0)))
 (.seq
 (.seq
 (.seq
 (.set 4 (.len false (.var 0)))
 (.set 3 (.const (.int .i64 0))))
 (.block 0
 (.loop [0, 1, 3, 4]
 (.seq
 (.cond (.bin .lss (.var 3) (.var 4))
 .skip
 (.exit 0))
 (.seq
 (.block 1
 (.seq
 (.set 5 (.var 3))
 (.seq
 (.dyn (some 6) (.var 1) [(.ld (some 273) (.ixSl 273 (.var 0) (.var 5)))] [])
 (.cond (.var 6)
 (.seq
 (.set 2 (.var 5))
 .ret)
 .skip))))
 (.set 3 (.bin .add (.var 3) (.const (.int .i64 1)))))))))
 (.seq
 (.set 2 (.const (.int .i64 (-1))))
 .ret))),
  [(.var 2)]⟩
theorem okx_89 : FnOk Tryz.prog 0 161 89 xf89 := fnOk_of Tryz.func89 (np := 2) (V := [0, 1, 4, 8, 7, 5, 16]) (ks := [[0, 1, 3, 4]]) (by kernel_rfl)

/- tipstaff/verify.known -/
def xf91 : XF := ⟨1, [0, 2, 4],
  (.seq
 (.new (some 1) 68 (.const zA4))
 (.seq
 (.seq
 (.call (some 2) 119 [(.var 0)] [])
 (.seq
 (.chk [(.upd 1 6 (.upd 0 1 (.const zA4) (.const (.int .i64 1))) (.var 2))])
 (.store 11 (.var 1) (.upd 1 6 (.upd 0 1 (.const zA4) (.const (.int .i64 1))) (.var 2)) [])))
 .ret)),
  [(.ld (some 11) (.var 1))]⟩
theorem okx_91 : FnOk Tryz.prog 0 161 91 xf91 := fnOk_of Tryz.func91 (np := 1) (V := [0, 2, 4]) (ks := []) (by kernel_rfl)

/- tipstaff/scalar.Do -/
def xf92 : XF := ⟨4, [0, 1, 2, 3, 8, 6, 7, 10, 13, 21, 22, 27, 30, 31, 32, 33, 34],
  (.seq
 (.seq
 (.new (some 5) 66 (.var 2))
 (.seq
 (.new (some 6) 66 (.var 3))
 (.new (some 4) 66 (.const zA2))))
 (.seq
 (.seq
 (.seq
 (.call (some 7) 120 [(.ld (some 6) (.var 5))] [])
 (.seq
 (.chk [(.pick (.var 7) (.ld (some 6) (.var 6)) (.const (.bool false)))])
 (.cond (.pick (.var 7) (.const (.bool true)) (.const (.bool false)))
 (.call (some 8) 120 [(.ld (some 6) (.var 6))] [])
 (.clr [8]))))
 (.cond (.pick (.var 7) (.var 8) (.const (.bool false)))
 (.seq
 (.seq
 (.call (some 9) 121 [(.var 0), (.var 1), (.ld none (.offp 2 (.var 5))), (.ld none (.offp 2 (.var 6)))] [])
 (.seq
 (.call (some 10) 119 [(.var 9)] [])
 (.store 6 (.var 4) (.var 10) [])))
 .ret)
 .skip))
 (.seq
 (.cond (.var 1)
 (.seq
 (.seq
 (.call (some 11) 122 [(.var 0), (.const (.bool true)), (.ld (some 6) (.var 5)), (.ld (some 6) (.var 6))] [])
 (.store 6 (.var 4) (.var 11) []))
 .ret)
 .skip)
 (.seq
 (.seq
 .skip
 (.seq
 (.chk [(.ld (some 6) (.var 5)), (.var 0)])
 (.seq
 (.set 13 (.ld (some 6) (.var 6)))
 (.seq
 (.call (some 12) 123 [(.ld (some 6) (.var 5)), (.const (.int .i64 4))] [(.ld (some 6) (.var 6))])
 (.seq
 (.call (some 14) 123 [(.var 13), (.const (.int .i64 4))] [])
 (.seq
 (.call (some 15) 122 [(.var 0), (.const (.bool false)), (.var 12), (.var 14)] [])
 (.seq
 (.call (some 16) 123 [(.var 15), (.const (.int .i64 4))] [])
 (.store 6 (.var 4) (.var 16) []))))))))
 .ret)))),
  [(.ld (some 6) (.var 4))]⟩
theorem okx_92 : FnOk Tryz.prog 0 161 92 xf92 := fnOk_of Tryz.func92 (np := 4) (V := [0, 1, 2, 3, 8, 6, 7, 10, 13, 21, 22, 27, 30, 31, 32, 33, 34]) (ks := []) (by kernel_rfl)

/- (tipstaff/verify.way).set -/
def xf93 : XF := ⟨4, [0, 1, 2, 3, 8, 4, 6, 20],
  (.seq
 (.seq
 (.new (some 5) 76 (.var 0))
 (.seq
 (.new (some 6) 68 (.var 2))
 (.set 4 (.const (.slice none 0 0)))))
 (.seq
 (.store 11 (.ixArr 11 11 (.offp 0 (.offp 1 (.var 5))) (.var 1)) (.ld (some 11) (.var 6)) [])
 (.seq
 (.store 1 (.offp 0 (.var 5)) (.bin .add (.ld none (.offp 0 (.var 5))) (.var 3)) [])
 (.seq
 (.seq
 (.row (some 7) 76 1 (.upd 0 274 (.const zA8) (.ld (some 274) (.var 5))))
 (.set 4 (.var 7)))
 .ret)))),
  [(.var 4)]⟩
theorem okx_93 : FnOk Tryz.prog 0 161 93 xf93 := fnOk_of Tryz.func93 (np := 4) (V := [0, 1, 2, 3, 8, 4, 6, 20]) (ks := []) (by kernel_rfl)

/- (*tipstaff/verify.checker).onPlace -/
def xf94 : XF := ⟨4, [0, 1, 2, 3, 8, 9, 6, 7, 10, 16, 22, 17, 33, 41, 36, 52, 60, 55, 71],
  (.seq
 (.seq
 (.new (some 6) 68 (.var 2))
 (.seq
 (.new (some 7) 68 (.var 3))
 (.seq
 (.new (some 4) 68 (.const zA4))
 (.set 5 (.const (.bool false))))))
 (.seq
 (.block 0
 (.seq
 (.set 8 (.bin .eql (.var 1) (.const (.int .i64 11))))
 (.cond (.var 8)
 (.seq
 (.seq
 .skip
 (.seq
 (.chk [(.ld (some 11) (.var 7))])
 (.seq
 (.set 9 (.bin .neq (.ld none (.offp 0 (.var 7))) (.const (.int .i64 0))))
 (.seq
 (.store 11 (.var 4) (.ld (some 11) (.var 7)) [(.ld none (.offp 0 (.var 7)))])
 (.set 5 (.var 9))))))
 .ret)
 (.seq
 (.seq
 (.chk [(.pick (.bin .eql (.var 1) (.const (.int .i64 0))) (.ld (some 11) (.var 6)) (.const (.bool false)))])
 (.seq
 (.cond (.pick (.bin .eql (.var 1) (.const (.int .i64 0))) (.const (.bool true)) (.const (.bool false)))
 (.call (some 10) 124 [(.ld (some 11) (.var 6))] [])
 (.clr [10]))
 (.set 11 (.pick (.pick (.bin .eql (.var 1) (.const (.int .i64 0))) (.var 10) (.const (.bool false))) (.bin .eql (.ld none (.offp 0 (.var 7))) (.const (.int .i64 1))) (.const (.bool false))))))
 (.cond (.var 11)
 (.seq
 (.seq
 (.call (some 12) 125 [(.var 0), (.ld (some 11) (.var 6)), (.ld (some 6) (.offp 1 (.var 7))), (.const (.bool false))] [])
 (.seq
 (.chk [(.proj 1 (.var 12))])
 (.seq
 (.store 11 (.var 4) (.proj 0 (.var 12)) [])
 (.set 5 (.proj 1 (.var 12))))))
 .ret)
 (.seq
 (.seq
 (.chk [(.pick (.bin .eql (.var 1) (.const (.int .i64 1))) (.ld (some 11) (.var 6)) (.const (.bool false)))])
 (.seq
 (.cond (.pick (.bin .eql (.var 1) (.const (.int .i64 1))) (.const (.bool true)) (.const (.bool false)))
 (.call (some 13) 124 [(.ld (some 11) (.var 6))] [])
 (.clr [13]))
 (.set 14 (.pick (.pick (.bin .eql (.var 1) (.const (.int .i64 1))) (.var 13) (.const (.bool false))) (.bin .eql (.ld none (.offp 0 (.var 7))) (.const (.int .i64 1))) (.const (.bool false))))))
 (.cond (.var 14)
 (.seq
 (.seq
 (.call (some 15) 125 [(.var 0), (.ld (some 11) (.var 6)), (.ld (some 6) (.offp 1 (.var 7))), (.const (.bool true))] [])
 (.seq
 (.chk [(.proj 1 (.var 15))])
 (.seq
 (.store 11 (.var 4) (.proj 0 (.var 15)) [])
 (.set 5 (.proj 1 (.var 15))))))
 .ret)
 (.seq
 (.seq
 (.chk [(.pick (.bin .eql (.var 1) (.const (.int .i64 0))) (.ld (some 11) (.var 7)) (.const (.bool false)))])
 (.seq
 (.cond (.pick (.bin .eql (.var 1) (.const (.int .i64 0))) (.const (.bool true)) (.const (.bool false)))
 (.call (some 16) 124 [(.ld (some 11) (.var 7))] [])
 (.clr [16]))
 (.set 17 (.pick (.pick (.bin .eql (.var 1) (.const (.int .i64 0))) (.var 16) (.const (.bool false))) (.bin .eql (.ld none (.offp 0 (.var 6))) (.const (.int .i64 1))) (.const (.bool false))))))
 (.cond (.var 17)
 (.seq
 (.seq
 (.call (some 18) 125 [(.var 0), (.ld (some 11) (.var 7)), (.ld (some 6) (.offp 1 (.var 6))), (.const (.bool false))] [])
 (.seq
 (.chk [(.proj 1 (.var 18))])
 (.seq
 (.store 11 (.var 4) (.proj 0 (.var 18)) [])
 (.set 5 (.proj 1 (.var 18))))))
 .ret)
 .skip)))))))))
 (.seq
 (.seq
 (.store 11 (.var 4) (.const zA4) [])
 (.set 5 (.const (.bool false))))
 .ret))),
  [(.ld (some 11) (.var 4)), (.var 5)]⟩
theorem okx_94 : FnOk Tryz.prog 0 161 94 xf94 := fnOk_of Tryz.func94 (np := 4) (V := [0, 1, 2, 3, 8, 9, 6, 7, 10, 16, 22, 17, 33, 41, 36, 52, 60, 55, 71]) (ks := []) (by kernel_rfl)

/- tipstaff/absreg.Settle -/
def xf96 : XF := ⟨3, [0, 1, 2, 6, 3, 14, 13, 8, 7, 22, 28, 27, 10, 9, 36, 49, 11],
  (.seq
 (.seq
 (.new (some 4) 73 (.var 0))
 (.new (some 3) 73 (.const zA7)))
 (.seq
 (.seq
 (.seq
 (.set 6 (.ld (some 121) (.offp 0 (.var 4))))
 (.set 5 (.const (.int .i64 0))))
 (.block 0
 (.loop [1, 2, 3, 4, 5, 6]
 (.seq
 (.cond (.bin .lss (.var 5) (.const (.int .i64 11)))
 .skip
 (.exit 0))
 (.seq
 (.block 1
 (.seq
 (.seq
 (.chk [(.idxAgg (some 11) 11 11 (.var 6) (.var 5))])
 (.seq
 (.new (some 7) 68 (.const zA4))
 (.seq
 (.set 8 (.var 5))
 (.store 11 (.var 7) (.idxAgg (some 11) 11 11 (.var 6) (.var 5)) []))))
 (.seq
 (.chk [(.var 8)])
 (.seq
 (.call (some 9) 127 [(.ld (some 11) (.var 7)), (.var 1), (.var 2)] [])
 (.store 11 (.ixArr 11 11 (.offp 0 (.var 4)) (.var 8)) (.var 9) [])))))
 (.set 5 (.bin .add (.var 5) (.const (.int .i64 1)))))))))
 (.seq
 (.seq
 (.seq
 (.set 11 (.ld (some 88) (.offp 185 (.var 4))))
 (.set 10 (.const (.int .i64 0))))
 (.block 2
 (.loop [1, 2, 3, 4, 10, 11]
 (.seq
 (.cond (.bin .lss (.var 10) (.const (.int .i64 8)))
 .skip
 (.exit 2))
 (.seq
 (.block 3
 (.seq
 (.seq
 (.chk [(.idxAgg (some 11) 11 8 (.var 11) (.var 10))])
 (.seq
 (.new (some 12) 68 (.const zA4))
 (.seq
 (.set 13 (.var 10))
 (.store 11 (.var 12) (.idxAgg (some 11) 11 8 (.var 11) (.var 10)) []))))
 (.seq
 (.seq
 (.chk [(.var 13)])
 (.seq
 (.call (some 14) 127 [(.ld (some 11) (.var 12)), (.var 1), (.var 2)] [])
 (.store 11 (.ixArr 8 11 (.offp 185 (.var 4)) (.var 13)) (.var 14) [])))
 (.seq
 (.cond (.bin .neq (.ld none (.offp 0 (.ixArr 8 11 (.offp 185 (.var 4)) (.var 13)))) (.const (.int .i64 1)))
 (.exit 3)
 .skip)
 (.seq
 (.store 11 (.ixArr 8 11 (.offp 185 (.var 4)) (.var 13)) (.const zA4) [])
 (.seq
 (.set 15 (.const (.int .i64 0)))
 (.block 4
 (.loop [1, 2, 3, 4, 10, 11, 13, 15]
 (.seq
 (.cond (.bin .lss (.var 15) (.const (.int .i64 8)))
 .skip
 (.exit 4))
 (.seq
 (.block 5
 (.seq
 (.set 16 (.var 15))
 (.store 1 (.ixArr 64 1 (.offp 121 (.var 4)) (.bin .add (.bin .mul (.var 13) (.const (.int .i64 8))) (.var 16))) (.const (.bool true)) [])))
 (.set 15 (.bin .add (.var 15) (.const (.int .i64 1))))))))))))))
 (.set 10 (.bin .add (.var 10) (.const (.int .i64 1)))))))))
 (.seq
 (.store 273 (.var 3) (.ld (some 273) (.var 4)) [])
 .ret)))),
  [(.ld (some 273) (.var 3))]⟩
theorem okx_96 : FnOk Tryz.prog 0 161 96 xf96 := fnOk_of Tryz.func96 (np := 3) (V := [0, 1, 2, 6, 3, 14, 13, 8, 7, 22, 28, 27, 10, 9, 36, 49, 11]) (ks := [[1, 2, 3, 4, 5, 6], [1, 2, 3, 4, 10, 11], [1, 2, 3, 4, 10, 11, 13, 15]]) (by kernel_rfl)

/- tipstaff/verify.unknown -/
def xf97 : XF := ⟨1, [0, 2, 3, 5],
  (.seq
 (.new (some 1) 68 (.const zA4))
 (.seq
 (.seq
 (.call (some 2) 128 [] [])
 (.seq
 (.call (some 3) 123 [(.var 2), (.var 0)] [])
 (.seq
 (.chk [(.upd 1 6 (.upd 0 1 (.const zA4) (.const (.int .i64 1))) (.var 3))])
 (.store 11 (.var 1) (.upd 1 6 (.upd 0 1 (.const zA4) (.const (.int .i64 1))) (.var 3)) []))))
 .ret)),
  [(.ld (some 11) (.var 1))]⟩
theorem okx_97 : FnOk Tryz.prog 0 161 97 xf97 := fnOk_of Tryz.func97 (np := 1) (V := [0, 2, 3, 5]) (ks := []) (by kernel_rfl)

/- tipstaff/verify.called -/
def xf98 : XF := ⟨2, [0, 1, 4, 2, 3, 5],
  (.seq
 (.seq
 (.new (some 3) 73 (.var 0))
 (.seq
 (.new (some 4) 68 (.var 1))
 (.new (some 2) 73 (.const zA7))))
 (.seq
 (.seq
 (.set 5 (.const (.int .i64 1)))
 (.block 0
 (.loop [2, 3, 4, 5]
 (.seq
 (.cond (.bin .leq (.var 5) (.const (.int .i64 5)))
 .skip
 (.exit 0))
 (.seq
 (.block 1
 (.store 11 (.ixArr 11 11 (.offp 0 (.var 3)) (.var 5)) (.const zA4) []))
 (.set 5 (.bin .add (.var 5) (.const (.int .i64 1)))))))))
 (.seq
 (.store 11 (.ixArr 11 11 (.offp 0 (.var 3)) (.const (.int .i64 0))) (.ld (some 11) (.var 4)) [])
 (.seq
 (.store 273 (.var 2) (.ld (some 273) (.var 3)) [])
 .ret)))),
  [(.ld (some 273) (.var 2))]⟩
theorem okx_98 : FnOk Tryz.prog 0 161 98 xf98 := fnOk_of Tryz.func98 (np := 2) (V := [0, 1, 4, 2, 3, 5]) (ks := [[2, 3, 4, 5]]) (by kernel_rfl)

/- (*tipstaff/verify.checker).spec -/
def xf99 : XF := ⟨2, [0, 1, 4, 5],
  (.seq
 (.seq
 (.new (some 2) 55 (.const (.agg (Array.replicate 4 (.int .i64 0)))))
 (.set 3 (.const (.bool false))))
 (.seq
 (.cond (.pick (.bin .lss (.var 1) (.const (.int .i64 0))) (.const (.bool true)) (.bin .geq (.var 1) (.len false (.ld none (.offp 0 (.offp 1 (.nn (.var 0))))))))
 (.seq
 (.seq
 (.store 4 (.var 2) (.const (.agg (Array.replicate 4 (.int .i64 0)))) [])
 (.set 3 (.const (.bool false))))
 .ret)
 .skip)
 (.seq
 (.seq
 (.store 4 (.var 2) (.ld (some 4) (.ixSl 4 (.ld none (.offp 0 (.offp 1 (.nn (.var 0))))) (.var 1))) [])
 (.set 3 (.const (.bool true))))
 .ret))),
  [(.ld (some 4) (.var 2)), (.var 3)]⟩
theorem okx_99 : FnOk Tryz.prog 0 161 99 xf99 := fnOk_of Tryz.func99 (np := 2) (V := [0, 1, 4, 5]) (ks := []) (by kernel_rfl)

/- (*tipstaff/verify.checker).arguments -/
def xf100 : XF := ⟨5, [0, 1, 2, 3, 4, 10, 6, 9, 19, 11, 20, 21, 24, 29, 32, 40, 48, 51, 59, 70, 79, 82, 86, 97, 106, 109, 113, 116, 119],
  (.seq
 (.seq
 (.new (some 6) 73 (.var 1))
 (.seq
 (.new (some 7) 55 (.var 4))
 (.set 5 (.const (.bool false)))))
 (.seq
 (.seq
 (.call (some 8) 103 [(.var 0), (.ld (some 273) (.var 6)), (.ld (some 11) (.ixArr 11 11 (.offp 0 (.var 6)) (.const (.int .i64 2)))), (.const (.int .i64 0)), (.ld none (.offp 1 (.var 7)))] [])
 (.set 9 (.var 8)))
 (.seq
 (.seq
 (.set 10 (.var 2))
 (.block 0
 (.seq
 (.set 11 (.bin .eql (.var 10) (.const (.int .i32 1))))
 (.cond (.var 11)
 (.seq
 (.seq
 (.call (some 12) 129 [(.ld (some 4) (.var 7))] [])
 (.set 5 (.pick (.un .not (.var 12)) (.var 9) (.const (.bool false)))))
 .ret)
 (.seq
 (.set 13 (.bin .eql (.var 10) (.const (.int .i32 3))))
 (.cond (.var 13)
 (.seq
 (.seq
 (.call (some 14) 129 [(.ld (some 4) (.var 7))] [])
 (.seq
 (.chk [(.pick (.pick (.un .not (.var 14)) (.var 9) (.const (.bool false))) (.var 3) (.const (.bool false))), (.pick (.pick (.un .not (.var 14)) (.var 9) (.const (.bool false))) (.var 0) (.const (.bool false)))])
 (.seq
 (.cond (.pick (.pick (.un .not (.var 14)) (.var 9) (.const (.bool false))) (.const (.bool true)) (.const (.bool false)))
 (.call (some 15) 130 [(.var 0), (.var 3)] [])
 (.clr [15]))
 (.set 5 (.pick (.pick (.pick (.un .not (.var 14)) (.var 9) (.const (.bool false))) (.un .not (.var 15)) (.const (.bool false))) (.bin .neq (.ld none (.offp 0 (.var 7))) (.const (.int .i64 0))) (.const (.bool false)))))))
 .ret)
 (.seq
 (.set 16 (.bin .eql (.var 10) (.const (.int .i32 2))))
 (.cond (.var 16)
 (.seq
 (.seq
 (.call (some 17) 129 [(.ld (some 4) (.var 7))] [])
 (.seq
 (.chk [(.pick (.pick (.un .not (.var 17)) (.var 9) (.const (.bool false))) (.var 3) (.const (.bool false))), (.pick (.pick (.un .not (.var 17)) (.var 9) (.const (.bool false))) (.var 0) (.const (.bool false)))])
 (.seq
 (.cond (.pick (.pick (.un .not (.var 17)) (.var 9) (.const (.bool false))) (.const (.bool true)) (.const (.bool false)))
 (.call (some 18) 130 [(.var 0), (.var 3)] [])
 (.clr [18]))
 (.seq
 (.chk [(.pick (.pick (.pick (.un .not (.var 17)) (.var 9) (.const (.bool false))) (.un .not (.var 18)) (.const (.bool false))) (.ld none (.offp 2 (.var 7))) (.const (.bool false))), (.pick (.pick (.pick (.un .not (.var 17)) (.var 9) (.const (.bool false))) (.un .not (.var 18)) (.const (.bool false))) (.ld (some 11) (.ixArr 11 11 (.offp 0 (.var 6)) (.const (.int .i64 3)))) (.const (.bool false))), (.pick (.pick (.pick (.un .not (.var 17)) (.var 9) (.const (.bool false))) (.un .not (.var 18)) (.const (.bool false))) (.ld (some 273) (.var 6)) (.const (.bool false))), (.pick (.pick (.pick (.un .not (.var 17)) (.var 9) (.const (.bool false))) (.un .not (.var 18)) (.const (.bool false))) (.var 0) (.const (.bool false)))])
 (.seq
 (.cond (.pick (.pick (.pick (.un .not (.var 17)) (.var 9) (.const (.bool false))) (.un .not (.var 18)) (.const (.bool false))) (.const (.bool true)) (.const (.bool false)))
 (.call (some 19) 103 [(.var 0), (.ld (some 273) (.var 6)), (.ld (some 11) (.ixArr 11 11 (.offp 0 (.var 6)) (.const (.int .i64 3)))), (.const (.int .i64 0)), (.ld none (.offp 2 (.var 7)))] [])
 (.clr [19]))
 (.set 5 (.pick (.pick (.pick (.pick (.un .not (.var 17)) (.var 9) (.const (.bool false))) (.un .not (.var 18)) (.const (.bool false))) (.var 19) (.const (.bool false))) (.bin .eql (.ld none (.offp 0 (.ixArr 11 11 (.offp 0 (.var 6)) (.const (.int .i64 4))))) (.const (.int .i64 1))) (.const (.bool false)))))))))
 .ret)
 (.seq
 (.set 20 (.bin .eql (.var 10) (.const (.int .i32 87))))
 (.cond (.var 20)
 (.seq
 (.seq
 (.call (some 21) 129 [(.ld (some 4) (.var 7))] [])
 (.seq
 (.chk [(.pick (.var 21) (.var 3) (.const (.bool false))), (.pick (.var 21) (.var 0) (.const (.bool false)))])
 (.seq
 (.cond (.pick (.var 21) (.const (.bool true)) (.const (.bool false)))
 (.call (some 22) 130 [(.var 0), (.var 3)] [])
 (.clr [22]))
 (.seq
 (.chk [(.pick (.pick (.var 21) (.un .not (.var 22)) (.const (.bool false))) (.ld none (.offp 2 (.var 7))) (.const (.bool false))), (.pick (.pick (.var 21) (.un .not (.var 22)) (.const (.bool false))) (.ld (some 11) (.ixArr 11 11 (.offp 0 (.var 6)) (.const (.int .i64 2)))) (.const (.bool false))), (.pick (.pick (.var 21) (.un .not (.var 22)) (.const (.bool false))) (.ld (some 273) (.var 6)) (.const (.bool false))), (.pick (.pick (.var 21) (.un .not (.var 22)) (.const (.bool false))) (.var 0) (.const (.bool false)))])
 (.seq
 (.cond (.pick (.pick (.var 21) (.un .not (.var 22)) (.const (.bool false))) (.const (.bool true)) (.const (.bool false)))
 (.call (some 23) 103 [(.var 0), (.ld (some 273) (.var 6)), (.ld (some 11) (.ixArr 11 11 (.offp 0 (.var 6)) (.const (.int .i64 2)))), (.const (.int .i64 0)), (.ld none (.offp 2 (.var 7)))] [])
 (.clr [23]))
 (.set 5 (.pick (.pick (.pick (.var 21) (.un .not (.var 22)) (.const (.bool false))) (.var 23) (.const (.bool false))) (.bin .eql (.ld none (.offp 0 (.ixArr 11 11 (.offp 0 (.var 6)) (.const (.int .i64 3))))) (.const (.int .i64 1))) (.const (.bool false)))))))))
 .ret)
 (.seq
 (.set 24 (.bin .eql (.var 10) (.const (.int .i32 88))))
 (.cond (.var 24)
 (.seq
 (.seq
 (.call (some 25) 129 [(.ld (some 4) (.var 7))] [])
 (.seq
 (.chk [(.pick (.var 25) (.var 3) (.const (.bool false))), (.pick (.var 25) (.var 0) (.const (.bool false)))])
 (.seq
 (.cond (.pick (.var 25) (.const (.bool true)) (.const (.bool false)))
 (.call (some 26) 130 [(.var 0), (.var 3)] [])
 (.clr [26]))
 (.set 5 (.pick (.var 25) (.un .not (.var 26)) (.const (.bool false)))))))
 .ret)
 (.seq
 (.set 27 (.bin .eql (.var 10) (.const (.int .i32 89))))
 (.cond (.var 27)
 (.seq
 (.seq
 (.call (some 28) 129 [(.ld (some 4) (.var 7))] [])
 (.set 5 (.var 28)))
 .ret)
 .skip))))))))))))))
 (.seq
 (.set 5 (.const (.bool false)))
 .ret)))),
  [(.var 5)]⟩
theorem okx_100 : FnOk Tryz.prog 0 161 100 xf100 := fnOk_of Tryz.func100 (np := 5) (V := [0, 1, 2, 3, 4, 10, 6, 9, 19, 11, 20, 21, 24, 29, 32, 40, 48, 51, 59, 70, 79, 82, 86, 97, 106, 109, 113, 116, 119]) (ks := []) (by kernel_rfl)

/- (*tipstaff/verify.checker).reads -/
def xf103 : XF := ⟨5, [0, 1, 2, 3, 4, 10, 6, 7, 14, 15, 20, 21, 29, 30, 36, 11, 12, 46],
  (.seq
 (.seq
 (.new (some 6) 73 (.var 1))
 (.seq
 (.new (some 7) 68 (.var 2))
 (.set 5 (.const (.bool false)))))
 (.seq
 (.seq
 (.set 8 (.ld none (.offp 0 (.var 7))))
 (.block 0
 (.seq
 (.set 9 (.bin .eql (.var 8) (.const (.int .i64 2))))
 (.cond (.var 9)
 (.seq
 (.seq
 (.call (some 10) 134 [(.ld (some 11) (.var 7)), (.var 3), (.var 4), (.const (.int .i64 0)), (.const (.int .i64 32))] [])
 (.set 5 (.var 10)))
 .ret)
 (.seq
 (.set 11 (.bin .eql (.var 8) (.const (.int .i64 3))))
 (.cond (.var 11)
 (.seq
 (.seq
 (.call (some 12) 133 [(.ld (some 273) (.var 6)), (.bin .add (.ld none (.offp 9 (.var 7))) (.var 3)), (.var 4)] [])
 (.set 5 (.var 12)))
 .ret)
 (.seq
 (.set 13 (.bin .eql (.var 8) (.const (.int .i64 5))))
 (.cond (.var 13)
 (.seq
 (.seq
 (.call (some 14) 99 [(.var 0), (.ld none (.offp 7 (.var 7)))] [])
 (.seq
 (.chk [(.proj 1 (.var 14)), (.proj 0 (.var 14))])
 (.seq
 (.new (some 15) 55 (.const (.agg (Array.replicate 4 (.int .i64 0)))))
 (.seq
 (.store 4 (.var 15) (.proj 0 (.var 14)) [])
 (.set 16 (.proj 1 (.var 14)))))))
 (.seq
 (.seq
 (.chk [(.pick (.var 16) (.ld none (.offp 2 (.var 15))) (.const (.bool false))), (.pick (.var 16) (.var 4) (.const (.bool false))), (.pick (.var 16) (.var 3) (.const (.bool false))), (.pick (.var 16) (.ld (some 11) (.var 7)) (.const (.bool false)))])
 (.seq
 (.cond (.pick (.var 16) (.const (.bool true)) (.const (.bool false)))
 (.call (some 17) 134 [(.ld (some 11) (.var 7)), (.var 3), (.var 4), (.const (.int .i64 0)), (.ld none (.offp 2 (.var 15)))] [])
 (.clr [17]))
 (.set 5 (.pick (.var 16) (.var 17) (.const (.bool false))))))
 .ret))
 .skip))))))))
 (.seq
 (.set 5 (.const (.bool false)))
 .ret))),
  [(.var 5)]⟩
theorem okx_103 : FnOk Tryz.prog 0 161 103 xf103 := fnOk_of Tryz.func103 (np := 5) (V := [0, 1, 2, 3, 4, 10, 6, 7, 14, 15, 20, 21, 29, 30, 36, 11, 12, 46]) (ks := []) (by kernel_rfl)

/- (*tipstaff/verify.checker).writes -/
def xf104 : XF := ⟨4, [0, 1, 2, 3, 8, 5, 12, 13, 18, 19, 25, 9, 10, 33, 42],
  (.seq
 (.seq
 (.new (some 5) 68 (.var 1))
 (.set 4 (.const (.bool false))))
 (.seq
 (.seq
 (.set 6 (.ld none (.offp 0 (.var 5))))
 (.block 0
 (.seq
 (.set 7 (.bin .eql (.var 6) (.const (.int .i64 3))))
 (.cond (.var 7)
 (.seq
 (.seq
 (.call (some 8) 134 [(.ld (some 11) (.var 5)), (.var 2), (.var 3), (.const (.int .i64 (-64))), (.const (.int .i64 0))] [])
 (.set 4 (.var 8)))
 .ret)
 (.seq
 (.set 9 (.bin .eql (.var 6) (.const (.int .i64 5))))
 (.cond (.var 9)
 (.seq
 (.seq
 (.call (some 10) 99 [(.var 0), (.ld none (.offp 7 (.var 5)))] [])
 (.seq
 (.chk [(.proj 1 (.var 10)), (.proj 0 (.var 10))])
 (.seq
 (.new (some 11) 55 (.const (.agg (Array.replicate 4 (.int .i64 0)))))
 (.seq
 (.store 4 (.var 11) (.proj 0 (.var 10)) [])
 (.set 12 (.proj 1 (.var 10)))))))
 (.seq
 (.seq
 (.chk [(.pick (.var 12) (.ld none (.offp 7 (.var 5))) (.const (.bool false))), (.pick (.var 12) (.var 0) (.const (.bool false)))])
 (.seq
 (.cond (.pick (.var 12) (.const (.bool true)) (.const (.bool false)))
 (.call (some 13) 130 [(.var 0), (.ld none (.offp 7 (.var 5)))] [])
 (.clr [13]))
 (.seq
 (.chk [(.pick (.pick (.var 12) (.un .not (.var 13)) (.const (.bool false))) (.ld none (.offp 2 (.var 11))) (.const (.bool false))), (.pick (.pick (.var 12) (.un .not (.var 13)) (.const (.bool false))) (.var 3) (.const (.bool false))), (.pick (.pick (.var 12) (.un .not (.var 13)) (.const (.bool false))) (.var 2) (.const (.bool false))), (.pick (.pick (.var 12) (.un .not (.var 13)) (.const (.bool false))) (.ld (some 11) (.var 5)) (.const (.bool false)))])
 (.seq
 (.cond (.pick (.pick (.var 12) (.un .not (.var 13)) (.const (.bool false))) (.const (.bool true)) (.const (.bool false)))
 (.call (some 14) 134 [(.ld (some 11) (.var 5)), (.var 2), (.var 3), (.const (.int .i64 0)), (.ld none (.offp 2 (.var 11)))] [])
 (.clr [14]))
 (.set 4 (.pick (.pick (.var 12) (.un .not (.var 13)) (.const (.bool false))) (.var 14) (.const (.bool false))))))))
 .ret))
 .skip))))))
 (.seq
 (.set 4 (.const (.bool false)))
 .ret))),
  [(.var 4)]⟩
theorem okx_104 : FnOk Tryz.prog 0 161 104 xf104 := fnOk_of Tryz.func104 (np := 4) (V := [0, 1, 2, 3, 8, 5, 12, 13, 18, 19, 25, 9, 10, 33, 42]) (ks := []) (by kernel_rfl)

/- tipstaff/absreg.Save -/
def xf105 : XF := ⟨4, [0, 1, 2, 3, 8, 9, 4, 7, 19, 10, 11, 12, 30, 13, 14, 15],
  (.seq
 (.seq
 (.new (some 6) 73 (.var 0))
 (.seq
 (.new (some 7) 68 (.var 3))
 (.seq
 (.new (some 4) 73 (.const zA7))
 (.set 5 (.const (.bool false))))))
 (.seq
 (.seq
 (.call (some 8) 131 [(.var 1), (.var 2)] [])
 (.seq
 (.chk [(.proj 1 (.var 8))])
 (.seq
 (.set 9 (.proj 0 (.var 8)))
 (.set 10 (.proj 1 (.var 8))))))
 (.seq
 (.set 11 (.pick (.bin .eql (.var 2) (.const (.int .i64 8))) (.bin .eql (.bin .rem (.var 9) (.const (.int .i64 8))) (.const (.int .i64 0))) (.const (.bool false))))
 (.seq
 (.seq
 (.call (some 12) 132 [(.var 2)] [])
 (.cond (.pick (.pick (.pick (.un .not (.var 12)) (.const (.bool true)) (.un .not (.var 10))) (.const (.bool true)) (.bin .eql (.ld none (.offp 0 (.var 7))) (.const (.int .i64 0)))) (.const (.bool true)) (.pick (.bin .neq (.ld none (.offp 0 (.var 7))) (.const (.int .i64 1))) (.un .not (.var 11)) (.const (.bool false))))
 (.seq
 (.seq
 (.store 273 (.var 4) (.ld (some 273) (.var 6)) [])
 (.set 5 (.const (.bool false))))
 .ret)
 .skip))
 (.seq
 (.seq
 (.set 13 (.var 9))
 (.block 0
 (.loop [2, 4, 6, 7, 9, 13]
 (.seq
 (.cond (.bin .lss (.var 13) (.bin .add (.var 9) (.var 2)))
 .skip
 (.exit 0))
 (.seq
 (.block 1
 (.seq
 (.set 14 (.bin .quo (.var 13) (.const (.int .i64 8))))
 (.seq
 (.cond (.bin .eql (.ld none (.offp 0 (.ixArr 8 11 (.offp 185 (.var 6)) (.var 14)))) (.const (.int .i64 0)))
 (.exit 1)
 .skip)
 (.seq
 (.store 11 (.ixArr 8 11 (.offp 185 (.var 6)) (.var 14)) (.const zA4) [])
 (.clear [(.bool false)] (.slArr 64 1 (.offp 121 (.var 6)) (.bin .mul (.var 14) (.const (.int .i64 8))) (.bin .mul (.bin .add (.var 14) (.const (.int .i64 1))) (.const (.int .i64 8)))) [])))))
 (.set 13 (.bin .add (.var 13) (.const (.int .i64 1)))))))))
 (.seq
 (.seq
 (.set 15 (.var 9))
 (.block 2
 (.loop [2, 4, 6, 7, 9, 15]
 (.seq
 (.cond (.bin .lss (.var 15) (.bin .add (.var 9) (.var 2)))
 .skip
 (.exit 2))
 (.seq
 (.block 3
 (.store 1 (.ixArr 64 1 (.offp 121 (.var 6)) (.var 15)) (.bin .eql (.ld none (.offp 0 (.var 7))) (.const (.int .i64 1))) []))
 (.set 15 (.bin .add (.var 15) (.const (.int .i64 1)))))))))
 (.seq
 (.cond (.bin .neq (.ld none (.offp 0 (.var 7))) (.const (.int .i64 1)))
 (.store 11 (.ixArr 8 11 (.offp 185 (.var 6)) (.bin .quo (.var 9) (.const (.int .i64 8)))) (.ld (some 11) (.var 7)) [])
 .skip)
 (.seq
 (.seq
 (.store 273 (.var 4) (.ld (some 273) (.var 6)) [])
 (.set 5 (.const (.bool true))))
 .ret)))))))),
  [(.ld (some 273) (.var 4)), (.var 5)]⟩
theorem okx_105 : FnOk Tryz.prog 0 161 105 xf105 := fnOk_of Tryz.func105 (np := 4) (V := [0, 1, 2, 3, 8, 9, 4, 7, 19, 10, 11, 12, 30, 13, 14, 15]) (ks := [[2, 4, 6, 7, 9, 13], [2, 4, 6, 7, 9, 15]]) (by kernel_rfl)

/- cmp.isNaN[int] -/
def xf115 : XF := ⟨1, [0, 2],
  (.seq
 (.set 1 (.const (.bool false)))
 (.seq
 (.set 1 (.bin .neq (.var 0) (.var 0)))
 .ret)),
  [(.var 1)]⟩
theorem okx_115 : FnOk Tryz.prog 0 161 115 xf115 := fnOk_of Tryz.func115 (np := 1) (V := [0, 2]) (ks := []) (by kernel_rfl)

/- tipstaff/cfg.Next -/
def xf116 : XF := ⟨2, [0, 1, 4, 2, 18, 20],
  (.seq
 (.seq
 (.new (some 3) 29 (.var 0))
 (.set 2 (.const (.slice none 0 0))))
 (.seq
 (.cond (.pick (.bin .lss (.var 1) (.const (.int .i64 0))) (.const (.bool true)) (.bin .geq (.var 1) (.len false (.ld none (.var 3)))))
 (.seq
 (.set 2 (.const (.slice none 0 0)))
 .ret)
 .skip)
 (.seq
 (.seq
 (.call (some 4) 138 [(.var 1), (.ld (some 5) (.ixSl 5 (.ld none (.var 3)) (.var 1)))] [])
 (.seq
 (.chk [(.cap1 (.const (.func (.func 139) #[] #[])) (.var 3))])
 (.seq
 (.call (some 5) 137 [(.var 4), (.cap1 (.const (.func (.func 139) #[] #[])) (.var 3))] [])
 (.set 2 (.var 5)))))
 .ret))),
  [(.var 2)]⟩
theorem okx_116 : FnOk Tryz.prog 0 161 116 xf116 := fnOk_of Tryz.func116 (np := 2) (V := [0, 1, 4, 2, 18, 20]) (ks := []) (by kernel_rfl)

/- tipstaff/scalar.Const -/
def xf119 : XF := ⟨1, [0, 2, 4],
  (.seq
 (.new (some 1) 66 (.const zA2))
 (.seq
 (.seq
 (.call (some 2) 141 [(.var 0)] [])
 (.seq
 (.chk [(.upd 5 1 (.upd 4 1 (.upd 3 1 (.upd 2 1 (.upd 0 2 (.const zA2) (.var 2)) (.var 0)) (.var 0)) (.conv .i64 (.var 0))) (.conv .i64 (.var 0)))])
 (.store 6 (.var 1) (.upd 5 1 (.upd 4 1 (.upd 3 1 (.upd 2 1 (.upd 0 2 (.const zA2) (.var 2)) (.var 0)) (.var 0)) (.conv .i64 (.var 0))) (.conv .i64 (.var 0))) [])))
 .ret)),
  [(.ld (some 6) (.var 1))]⟩
theorem okx_119 : FnOk Tryz.prog 0 161 119 xf119 := fnOk_of Tryz.func119 (np := 1) (V := [0, 2, 4]) (ks := []) (by kernel_rfl)

/- tipstaff/scalar.alone -/
def xf120 : XF := ⟨1, [0, 2, 1, 25, 21],
  (.seq
 (.seq
 (.new (some 2) 66 (.var 0))
 (.set 1 (.const (.bool false))))
 (.seq
 (.seq
 (.set 4 (.pick (.pick (.bin .eql (.ld none (.offp 1 (.offp 0 (.var 2)))) (.const (.int .u64 0))) (.bin .eql (.ld none (.offp 2 (.var 2))) (.ld none (.offp 3 (.var 2)))) (.const (.bool false))) (.bin .eql (.ld none (.offp 4 (.var 2))) (.ld none (.offp 5 (.var 2)))) (.const (.bool false))))
 (.seq
 (.chk [(.pick (.var 4) (.ld none (.offp 2 (.var 2))) (.const (.bool false))), (.pick (.var 4) (.ld (some 6) (.var 2)) (.const (.bool false)))])
 (.seq
 (.cond (.pick (.var 4) (.const (.bool true)) (.const (.bool false)))
 (.call (some 3) 142 [(.ld (some 6) (.var 2)), (.ld none (.offp 2 (.var 2)))] [])
 (.clr [3]))
 (.set 1 (.pick (.var 4) (.var 3) (.const (.bool false)))))))
 .ret)),
  [(.var 1)]⟩
theorem okx_120 : FnOk Tryz.prog 0 161 120 xf120 := fnOk_of Tryz.func120 (np := 1) (V := [0, 2, 1, 25, 21]) (ks := []) (by kernel_rfl)

/- tipstaff/scalar.Eval -/
def xf121 : XF := ⟨4, [0, 1, 2, 3, 8, 9, 18, 23, 31, 22],
  (.seq
 (.set 4 (.const (.int .u64 0)))
 (.seq
 (.cond (.un .not (.var 1))
 (.seq
 (.chk [(.conv .u64 (.conv .u32 (.var 3)))])
 (.seq
 (.set 2 (.conv .u64 (.conv .u32 (.var 2))))
 (.set 3 (.conv .u64 (.conv .u32 (.var 3))))))
 .skip)
 (.seq
 (.set 5 (.const (.int .u64 0)))
 (.seq
 (.seq
 (.set 6 (.var 0))
 (.block 0
 (.seq
 (.seq
 (.set 7 (.bin .eql (.var 6) (.const (.int .i64 6))))
 (.cond (.var 7)
 .skip
 (.seq
 (.set 7 (.bin .eql (.var 6) (.const (.int .i64 7))))
 (.cond (.var 7)
 .skip
 (.set 7 (.bin .eql (.var 6) (.const (.int .i64 12))))))))
 (.cond (.var 7)
 (.seq
 (.call (some 8) 143 [(.var 0), (.var 1), (.var 2), (.var 3)] [])
 (.set 5 (.var 8)))
 (.seq
 (.call (some 9) 144 [(.var 0), (.var 2), (.var 3)] [])
 (.set 5 (.var 9)))))))
 (.seq
 (.cond (.un .not (.var 1))
 (.set 5 (.conv .u64 (.conv .u32 (.var 5))))
 .skip)
 (.seq
 (.set 4 (.var 5))
 .ret)))))),
  [(.var 4)]⟩
theorem okx_121 : FnOk Tryz.prog 0 161 121 xf121 := fnOk_of Tryz.func121 (np := 4) (V := [0, 1, 2, 3, 8, 9, 18, 23, 31, 22]) (ks := []) (by kernel_rfl)

/- tipstaff/scalar.Low -/
def xf123 : XF := ⟨2, [0, 1, 4, 2, 8, 10, 17, 5, 6, 30, 7, 34, 36],
  (.seq
 (.seq
 (.new (some 3) 66 (.var 0))
 (.new (some 2) 66 (.const zA2)))
 (.seq
 (.seq
 (.set 4 (.var 1))
 (.block 0
 (.seq
 (.seq
 (.set 5 (.bin .eql (.var 4) (.const (.int .i64 1))))
 (.cond (.var 5)
 .skip
 (.seq
 (.set 5 (.bin .eql (.var 4) (.const (.int .i64 2))))
 (.cond (.var 5)
 .skip
 (.set 5 (.bin .eql (.var 4) (.const (.int .i64 4))))))))
 (.cond (.var 5)
 .skip
 (.seq
 (.store 6 (.var 2) (.ld (some 6) (.var 3)) [])
 .ret)))))
 (.seq
 (.seq
 (.call (some 6) 151 [(.ld (some 2) (.offp 0 (.var 3))), (.var 1)] [])
 (.seq
 (.new (some 7) 64 (.const (.agg #[(.int .u64 0), (.int .u64 0)])))
 (.store 2 (.var 7) (.var 6) [])))
 (.seq
 (.set 8 (.bin .sub (.bin .shl (.const (.int .u64 1)) (.bin .mul (.const (.int .i64 8)) (.var 1))) (.const (.int .u64 1))))
 (.seq
 (.cond (.bin .leq (.ld none (.offp 3 (.var 3))) (.var 8))
 (.seq
 (.seq
 (.call (some 9) 152 [(.ld none (.offp 2 (.var 3))), (.ld none (.offp 3 (.var 3)))] [])
 (.seq
 (.new (some 10) 66 (.const zA2))
 (.store 6 (.var 10) (.var 9) [])))
 (.seq
 (.store 2 (.offp 0 (.var 10)) (.ld (some 2) (.var 7)) [])
 (.seq
 (.seq
 (.call (some 11) 153 [(.ld (some 6) (.var 10))] [])
 (.store 6 (.var 2) (.var 11) []))
 .ret)))
 .skip)
 (.seq
 (.seq
 (.call (some 12) 154 [(.ld (some 2) (.var 7))] [])
 (.store 6 (.var 2) (.var 12) []))
 .ret)))))),
  [(.ld (some 6) (.var 2))]⟩
theorem okx_123 : FnOk Tryz.prog 0 161 123 xf123 := fnOk_of Tryz.func123 (np := 2) (V := [0, 1, 4, 2, 8, 10, 17, 5, 6, 30, 7, 34, 36]) (ks := []) (by kernel_rfl)

/- tipstaff/verify.place -/
def xf124 : XF := ⟨1, [0, 2, 1],
  (.seq
 (.seq
 (.new (some 2) 68 (.var 0))
 (.set 1 (.const (.bool false))))
 (.seq
 (.set 1 (.pick (.pick (.bin .eql (.ld none (.offp 0 (.var 2))) (.const (.int .i64 2))) (.const (.bool true)) (.bin .eql (.ld none (.offp 0 (.var 2))) (.const (.int .i64 3)))) (.const (.bool true)) (.bin .eql (.ld none (.offp 0 (.var 2))) (.const (.int .i64 5)))))
 .ret)),
  [(.var 1)]⟩
theorem okx_124 : FnOk Tryz.prog 0 161 124 xf124 := fnOk_of Tryz.func124 (np := 1) (V := [0, 2, 1]) (ks := []) (by kernel_rfl)

/- (*tipstaff/verify.checker).moved -/
def xf125 : XF := ⟨4, [0, 1, 2, 3, 8, 9, 5, 6, 28, 54, 66, 10, 80],
  (.seq
 (.seq
 (.new (some 6) 68 (.var 1))
 (.seq
 (.new (some 7) 66 (.var 2))
 (.seq
 (.new (some 4) 68 (.const zA4))
 (.set 5 (.const (.bool false))))))
 (.seq
 (.cond (.pick (.pick (.bin .lss (.ld none (.offp 4 (.var 7))) (.const (.int .i64 (-64)))) (.const (.bool true)) (.bin .gtr (.ld none (.offp 5 (.var 7))) (.const (.int .i64 64)))) (.const (.bool true)) (.bin .gtr (.ld none (.offp 4 (.var 7))) (.ld none (.offp 5 (.var 7)))))
 (.seq
 (.seq
 (.store 11 (.var 4) (.ld (some 11) (.var 6)) [])
 (.set 5 (.const (.bool false))))
 .ret)
 .skip)
 (.seq
 (.seq
 (.call (some 8) 155 [(.ld (some 6) (.var 7))] [])
 (.cond (.pick (.un .not (.var 8)) (.pick (.bin .neq (.ld none (.offp 0 (.var 6))) (.const (.int .i64 5))) (.const (.bool true)) (.un .not (.ld none (.offp 2 (.offp 1 (.nn (.var 0))))))) (.const (.bool false)))
 (.seq
 (.seq
 (.store 11 (.var 4) (.ld (some 11) (.var 6)) [])
 (.set 5 (.const (.bool false))))
 .ret)
 .skip))
 (.seq
 (.cond (.var 3)
 (.seq
 .skip
 (.seq
 (.chk [(.bin .sub (.ld none (.offp 9 (.var 6))) (.ld none (.offp 5 (.var 7))))])
 (.seq
 (.set 9 (.bin .sub (.ld none (.offp 10 (.var 6))) (.ld none (.offp 4 (.var 7)))))
 (.seq
 (.store 1 (.offp 9 (.var 6)) (.bin .sub (.ld none (.offp 9 (.var 6))) (.ld none (.offp 5 (.var 7)))) [(.ld none (.offp 4 (.var 7)))])
 (.store 1 (.offp 10 (.var 6)) (.var 9) [])))))
 (.seq
 .skip
 (.seq
 (.chk [(.bin .add (.ld none (.offp 9 (.var 6))) (.ld none (.offp 4 (.var 7))))])
 (.seq
 (.set 10 (.bin .add (.ld none (.offp 10 (.var 6))) (.ld none (.offp 5 (.var 7)))))
 (.seq
 (.store 1 (.offp 9 (.var 6)) (.bin .add (.ld none (.offp 9 (.var 6))) (.ld none (.offp 4 (.var 7)))) [(.ld none (.offp 5 (.var 7)))])
 (.store 1 (.offp 10 (.var 6)) (.var 10) []))))))
 (.seq
 (.set 11 (.const (.int .i64 131072)))
 (.seq
 (.seq
 .skip
 (.seq
 (.chk [(.ld (some 11) (.var 6))])
 (.seq
 (.set 12 (.pick (.bin .geq (.ld none (.offp 9 (.var 6))) (.un .neg (.var 11))) (.bin .leq (.ld none (.offp 10 (.var 6))) (.var 11)) (.const (.bool false))))
 (.seq
 (.store 11 (.var 4) (.ld (some 11) (.var 6)) [(.ld none (.offp 10 (.var 6)))])
 (.set 5 (.var 12))))))
 .ret)))))),
  [(.ld (some 11) (.var 4)), (.var 5)]⟩
theorem okx_125 : FnOk Tryz.prog 0 161 125 xf125 := fnOk_of Tryz.func125 (np := 4) (V := [0, 1, 2, 3, 8, 9, 5, 6, 28, 54, 66, 10, 80]) (ks := []) (by kernel_rfl)

/- tipstaff/absreg.settled -/
def xf127 : XF := ⟨3, [0, 1, 2, 6, 3, 7, 18, 23],
  (.seq
 (.seq
 (.new (some 4) 68 (.var 0))
 (.new (some 3) 68 (.const zA4)))
 (.seq
 (.block 0
 (.seq
 (.set 5 (.pick (.bin .neq (.ld none (.offp 0 (.var 4))) (.const (.int .i64 6))) (.const (.bool true)) (.bin .neq (.ld none (.offp 8 (.var 4))) (.var 1))))
 (.cond (.var 5)
 (.seq
 (.store 11 (.var 3) (.ld (some 11) (.var 4)) [])
 .ret)
 (.seq
 (.set 6 (.var 2))
 (.cond (.var 6)
 (.seq
 (.seq
 (.chk [(.upd 7 1 (.upd 0 1 (.const zA4) (.const (.int .i64 5))) (.ld none (.offp 7 (.var 4))))])
 (.store 11 (.var 3) (.upd 7 1 (.upd 0 1 (.const zA4) (.const (.int .i64 5))) (.ld none (.offp 7 (.var 4)))) []))
 .ret)
 .skip)))))
 (.seq
 (.seq
 (.call (some 7) 119 [(.const (.int .u64 0))] [])
 (.seq
 (.chk [(.upd 1 6 (.upd 0 1 (.const zA4) (.const (.int .i64 1))) (.var 7))])
 (.store 11 (.var 3) (.upd 1 6 (.upd 0 1 (.const zA4) (.const (.int .i64 1))) (.var 7)) [])))
 .ret))),
  [(.ld (some 11) (.var 3))]⟩
theorem okx_127 : FnOk Tryz.prog 0 161 127 xf127 := fnOk_of Tryz.func127 (np := 3) (V := [0, 1, 2, 6, 3, 7, 18, 23]) (ks := []) (by kernel_rfl)

/- tipstaff/scalar.Any -/
def xf128 : XF := ⟨0, [0, 1],
  (.seq
 (.new (some 0) 66 (.const zA2))
 (.seq
 (.seq
 (.call (some 1) 157 [] [])
 (.seq
 (.chk [(.upd 5 1 (.upd 4 1 (.upd 3 1 (.upd 2 1 (.upd 0 2 (.const zA2) (.var 1)) (.const (.int .u64 0))) (.const (.int .u64 18446744073709551615))) (.const (.int .i64 (-9223372036854775808)))) (.const (.int .i64 9223372036854775807)))])
 (.store 6 (.var 0) (.upd 5 1 (.upd 4 1 (.upd 3 1 (.upd 2 1 (.upd 0 2 (.const zA2) (.var 1)) (.const (.int .u64 0))) (.const (.int .u64 18446744073709551615))) (.const (.int .i64 (-9223372036854775808)))) (.const (.int .i64 9223372036854775807))) [])))
 .ret)),
  [(.ld (some 6) (.var 0))]⟩
theorem okx_128 : FnOk Tryz.prog 0 161 128 xf128 := fnOk_of Tryz.func128 (np := 0) (V := [0, 1]) (ks := []) (by kernel_rfl)

/- tipstaff/verify.lined -/
def xf129 : XF := ⟨1, [0, 2, 1],
  (.seq
 (.seq
 (.new (some 2) 55 (.var 0))
 (.set 1 (.const (.bool false))))
 (.seq
 (.set 1 (.pick (.bin .eql (.ld none (.offp 0 (.var 2))) (.const (.int .i64 3))) (.const (.bool true)) (.bin .eql (.ld none (.offp 0 (.var 2))) (.const (.int .i64 4)))))
 .ret)),
  [(.var 1)]⟩
theorem okx_129 : FnOk Tryz.prog 0 161 129 xf129 := fnOk_of Tryz.func129 (np := 1) (V := [0, 2, 1]) (ks := []) (by kernel_rfl)

/- tipstaff/absreg.first -/
def xf131 : XF := ⟨2, [0, 1, 4, 5],
  (.seq
 (.seq
 (.set 2 (.const (.int .i64 0)))
 (.set 3 (.const (.bool false))))
 (.seq
 (.cond (.pick (.pick (.pick (.bin .lss (.var 0) (.const (.int .i64 (-64)))) (.const (.bool true)) (.bin .gtr (.var 0) (.const (.int .i64 0)))) (.const (.bool true)) (.bin .lss (.var 1) (.const (.int .i64 0)))) (.const (.bool true)) (.bin .gtr (.var 1) (.un .neg (.var 0))))
 (.seq
 (.seq
 (.set 2 (.const (.int .i64 0)))
 (.set 3 (.const (.bool false))))
 .ret)
 .skip)
 (.seq
 (.seq
 (.set 2 (.bin .add (.var 0) (.const (.int .i64 64))))
 (.set 3 (.const (.bool true))))
 .ret))),
  [(.var 2), (.var 3)]⟩
theorem okx_131 : FnOk Tryz.prog 0 161 131 xf131 := fnOk_of Tryz.func131 (np := 2) (V := [0, 1, 4, 5]) (ks := []) (by kernel_rfl)

/- tipstaff/absreg.sized -/
def xf132 : XF := ⟨1, [0, 2],
  (.seq
 (.set 1 (.const (.bool false)))
 (.seq
 (.set 1 (.pick (.pick (.pick (.bin .eql (.var 0) (.const (.int .i64 1))) (.const (.bool true)) (.bin .eql (.var 0) (.const (.int .i64 2)))) (.const (.bool true)) (.bin .eql (.var 0) (.const (.int .i64 4)))) (.const (.bool true)) (.bin .eql (.var 0) (.const (.int .i64 8)))))
 .ret)),
  [(.var 1)]⟩
theorem okx_132 : FnOk Tryz.prog 0 161 132 xf132 := fnOk_of Tryz.func132 (np := 1) (V := [0, 2]) (ks := []) (by kernel_rfl)

/- tipstaff/absreg.Ready -/
def xf133 : XF := ⟨3, [0, 1, 2, 6, 3, 13, 7, 8, 9],
  (.seq
 (.seq
 (.new (some 4) 73 (.var 0))
 (.set 3 (.const (.bool false))))
 (.seq
 (.seq
 (.call (some 5) 131 [(.var 1), (.var 2)] [])
 (.seq
 (.chk [(.proj 1 (.var 5))])
 (.seq
 (.set 6 (.proj 0 (.var 5)))
 (.set 7 (.proj 1 (.var 5))))))
 (.seq
 (.cond (.un .not (.var 7))
 (.seq
 (.set 3 (.const (.bool false)))
 .ret)
 .skip)
 (.seq
 (.seq
 (.set 8 (.var 6))
 (.block 0
 (.loop [2, 4, 6, 8]
 (.seq
 (.cond (.bin .lss (.var 8) (.bin .add (.var 6) (.var 2)))
 .skip
 (.exit 0))
 (.seq
 (.block 1
 (.cond (.un .not (.ld none (.ixArr 64 1 (.offp 121 (.var 4)) (.var 8))))
 (.seq
 (.set 3 (.const (.bool false)))
 .ret)
 .skip))
 (.set 8 (.bin .add (.var 8) (.const (.int .i64 1)))))))))
 (.seq
 (.set 3 (.const (.bool true)))
 .ret))))),
  [(.var 3)]⟩
theorem okx_133 : FnOk Tryz.prog 0 161 133 xf133 := fnOk_of Tryz.func133 (np := 3) (V := [0, 1, 2, 6, 3, 13, 7, 8, 9]) (ks := [[2, 4, 6, 8]]) (by kernel_rfl)

/- tipstaff/verify.inside -/
def xf134 : XF := ⟨5, [0, 1, 2, 3, 4, 10, 5],
  (.seq
 (.seq
 (.new (some 6) 68 (.var 0))
 (.set 5 (.const (.bool false))))
 (.seq
 (.set 5 (.pick (.bin .geq (.bin .add (.ld none (.offp 9 (.var 6))) (.var 1)) (.var 3)) (.bin .leq (.bin .add (.bin .add (.ld none (.offp 10 (.var 6))) (.var 1)) (.var 2)) (.var 4)) (.const (.bool false))))
 .ret)),
  [(.var 5)]⟩
theorem okx_134 : FnOk Tryz.prog 0 161 134 xf134 := fnOk_of Tryz.func134 (np := 5) (V := [0, 1, 2, 3, 4, 10, 5]) (ks := []) (by kernel_rfl)

/- slices.DeleteFunc[[]int,int] -/
def xf137 : XF := ⟨2, [0, 1, 4, 10, 5, 6, 7, 28],
  (.seq
 (.set 2 (.const (.slice none 0 0)))
 (.seq
 (.seq
 (.call (some 3) 158 [(.var 0), (.var 1)] [])
 (.set 4 (.var 3)))
 (.seq
 (.cond (.bin .eql (.var 4) (.const (.int .i64 (-1))))
 (.seq
 (.set 2 (.var 0))
 .ret)
 .skip)
 (.seq
 (.seq
 (.set 5 (.bin .add (.var 4) (.const (.int .i64 1))))
 (.block 0
 (.loop [0, 1, 4, 5]
 (.seq
 (.cond (.bin .lss (.var 5) (.len false (.var 0)))
 .skip
 (.exit 0))
 (.seq
 (.block 1
 (.seq
 (.set 6 (.ld none (.ixSl 1 (.var 0) (.var 5))))
 (.seq
 (.dyn (some 7) (.var 1) [(.var 6)] [])
 (.cond (.un .not (.var 7))
 (.seq
 (.store 1 (.ixSl 1 (.var 0) (.var 4)) (.var 6) [])
 (.set 4 (.bin .add (.var 4) (.const (.int .i64 1)))))
 .skip))))
 (.set 5 (.bin .add (.var 5) (.const (.int .i64 1)))))))))
 (.seq
 (.clear [(.int .i64 0)] (.slSl 1 (.var 0) (.var 4) (.len false (.var 0))) [])
 (.seq
 (.set 2 (.slSl 1 (.var 0) (.const (.int .i64 0)) (.var 4)))
 .ret)))))),
  [(.var 2)]⟩
theorem okx_137 : FnOk Tryz.prog 0 161 137 xf137 := fnOk_of Tryz.func137 (np := 2) (V := [0, 1, 4, 10, 5, 6, 7, 28]) (ks := [[0, 1, 4, 5]]) (by kernel_rfl)

/- tipstaff/cfg.behind -/
def xf138 : XF := ⟨2, [0, 1, 4, 3, 7, 8, 12, 16, 17, 18, 24, 25, 5, 29, 30, 34, 37],
  (.seq
 (.seq
 (.new (some 3) 28 (.var 1))
 (.set 2 (.const (.slice none 0 0))))
 (.seq
 (.seq
 (.call (some 4) 47 [(.ld (some 5) (.var 3))] [])
 (.block 0
 (.seq
 (.seq
 (.set 5 (.bin .eql (.var 4) (.const (.int .i64 0))))
 (.cond (.var 5)
 .skip
 (.seq
 (.set 5 (.bin .eql (.var 4) (.const (.int .i64 5))))
 (.cond (.var 5)
 .skip
 (.set 5 (.bin .eql (.var 4) (.const (.int .i64 10))))))))
 (.cond (.var 5)
 (.seq
 (.set 2 (.const (.slice none 0 0)))
 .ret)
 (.seq
 (.set 6 (.bin .eql (.var 4) (.const (.int .i64 3))))
 (.cond (.var 6)
 (.seq
 (.seq
 (.call (some 7) 54 [(.var 0), (.ld (some 5) (.var 3))] [])
 (.seq
 (.row (some 8) 3 1 (.upd 0 1 (.const (.agg #[(.int .i64 0)])) (.var 7)))
 (.set 2 (.var 8))))
 .ret)
 (.seq
 (.set 9 (.bin .eql (.var 4) (.const (.int .i64 2))))
 (.cond (.var 9)
 (.seq
 (.seq
 (.chk [(.bin .add (.var 0) (.const (.int .i64 1)))])
 (.seq
 (.call (some 10) 54 [(.var 0), (.ld (some 5) (.var 3))] [])
 (.seq
 (.row (some 11) 3 2 (.upd 1 1 (.upd 0 1 (.const (.agg #[(.int .i64 0), (.int .i64 0)])) (.bin .add (.var 0) (.const (.int .i64 1)))) (.var 10)))
 (.set 12 (.var 11)))))
 (.seq
 (.call none 27 [(.var 12)] [])
 (.seq
 (.seq
 (.call (some 13) 28 [(.var 12)] [])
 (.set 2 (.var 13)))
 .ret)))
 (.seq
 (.set 14 (.bin .eql (.var 4) (.const (.int .i64 9))))
 (.cond (.var 14)
 (.seq
 (.seq
 (.row (some 15) 3 1 (.upd 0 1 (.const (.agg #[(.int .i64 0)])) (.bin .add (.var 0) (.const (.int .i64 2)))))
 (.set 2 (.var 15)))
 .ret)
 .skip))))))))))
 (.seq
 (.seq
 (.row (some 16) 3 1 (.upd 0 1 (.const (.agg #[(.int .i64 0)])) (.bin .add (.var 0) (.const (.int .i64 1)))))
 (.set 2 (.var 16)))
 .ret))),
  [(.var 2)]⟩
theorem okx_138 : FnOk Tryz.prog 0 161 138 xf138 := fnOk_of Tryz.func138 (np := 2) (V := [0, 1, 4, 3, 7, 8, 12, 16, 17, 18, 24, 25, 5, 29, 30, 34, 37]) (ks := []) (by kernel_rfl)

/- tipstaff/cfg.Next$1 -/
def xf139 : XF := ⟨2, [0, 1, 3],
  (.seq
 (.set 2 (.const (.bool false)))
 (.seq
 (.set 2 (.pick (.bin .lss (.var 0) (.const (.int .i64 0))) (.const (.bool true)) (.bin .geq (.var 0) (.len false (.ld none (.var 1))))))
 .ret)),
  [(.var 2)]⟩
theorem okx_139 : FnOk Tryz.prog 0 161 139 xf139 := fnOk_of Tryz.func139 (np := 2) (V := [0, 1, 3]) (ks := []) (by kernel_rfl)

/- tipstaff/tnum.Const -/
def xf141 : XF := ⟨1, [0, 2],
  (.seq
 (.new (some 1) 64 (.const (.agg #[(.int .u64 0), (.int .u64 0)])))
 (.seq
 (.seq
 (.chk [(.upd 0 1 (.const (.agg #[(.int .u64 0), (.int .u64 0)])) (.var 0))])
 (.store 2 (.var 1) (.upd 0 1 (.const (.agg #[(.int .u64 0), (.int .u64 0)])) (.var 0)) []))
 .ret)),
  [(.ld (some 2) (.var 1))]⟩
theorem okx_141 : FnOk Tryz.prog 0 161 141 xf141 := fnOk_of Tryz.func141 (np := 1) (V := [0, 2]) (ks := []) (by kernel_rfl)

/- tipstaff/scalar.Has -/
def xf142 : XF := ⟨2, [0, 1, 4, 2, 8],
  (.seq
 (.seq
 (.new (some 3) 66 (.var 0))
 (.set 2 (.const (.bool false))))
 (.seq
 (.seq
 (.call (some 4) 159 [(.ld (some 2) (.offp 0 (.var 3))), (.var 1)] [])
 (.set 2 (.pick (.pick (.pick (.pick (.var 4) (.bin .leq (.ld none (.offp 2 (.var 3))) (.var 1)) (.const (.bool false))) (.bin .leq (.var 1) (.ld none (.offp 3 (.var 3)))) (.const (.bool false))) (.bin .leq (.ld none (.offp 4 (.var 3))) (.conv .i64 (.var 1))) (.const (.bool false))) (.bin .leq (.conv .i64 (.var 1)) (.ld none (.offp 5 (.var 3)))) (.const (.bool false)))))
 .ret)),
  [(.var 2)]⟩
theorem okx_142 : FnOk Tryz.prog 0 161 142 xf142 := fnOk_of Tryz.func142 (np := 2) (V := [0, 1, 4, 2, 8]) (ks := []) (by kernel_rfl)

/- tipstaff/scalar.plain -/
def xf144 : XF := ⟨3, [0, 1, 2, 6, 7, 8, 13, 18, 23, 28, 33, 37, 42, 45, 52],
  (.seq
 (.set 3 (.const (.int .u64 0)))
 (.seq
 (.seq
 (.set 4 (.var 0))
 (.block 0
 (.seq
 (.set 5 (.bin .eql (.var 4) (.const (.int .i64 0))))
 (.cond (.var 5)
 (.seq
 (.set 3 (.bin .add (.var 1) (.var 2)))
 .ret)
 (.seq
 (.set 6 (.bin .eql (.var 4) (.const (.int .i64 1))))
 (.cond (.var 6)
 (.seq
 (.set 3 (.bin .sub (.var 1) (.var 2)))
 .ret)
 (.seq
 (.set 7 (.bin .eql (.var 4) (.const (.int .i64 2))))
 (.cond (.var 7)
 (.seq
 (.set 3 (.bin .mul (.var 1) (.var 2)))
 .ret)
 (.seq
 (.set 8 (.bin .eql (.var 4) (.const (.int .i64 4))))
 (.cond (.var 8)
 (.seq
 (.set 3 (.bin .or (.var 1) (.var 2)))
 .ret)
 (.seq
 (.set 9 (.bin .eql (.var 4) (.const (.int .i64 5))))
 (.cond (.var 9)
 (.seq
 (.set 3 (.bin .and (.var 1) (.var 2)))
 .ret)
 (.seq
 (.set 10 (.bin .eql (.var 4) (.const (.int .i64 8))))
 (.cond (.var 10)
 (.seq
 (.set 3 (.un .neg (.var 1)))
 .ret)
 (.seq
 (.set 11 (.bin .eql (.var 4) (.const (.int .i64 10))))
 (.cond (.var 11)
 (.seq
 (.set 3 (.bin .xor (.var 1) (.var 2)))
 .ret)
 (.seq
 (.set 12 (.bin .eql (.var 4) (.const (.int .i64 11))))
 (.cond (.var 12)
 (.seq
 (.set 3 (.var 2))
 .ret)
 (.seq
 (.set 13 (.bin .eql (.var 4) (.const (.int .i64 3))))
 (.cond (.var 13)
 (.cond (.bin .neq (.var 2) (.const (.int .u64 0)))
 (.seq
 (.set 3 (.bin .quo (.var 1) (.var 2)))
 .ret)
 .skip)
 (.seq
 (.set 14 (.bin .eql (.var 4) (.const (.int .i64 9))))
 (.cond (.var 14)
 (.seq
 (.cond (.bin .neq (.var 2) (.const (.int .u64 0)))
 (.seq
 (.set 3 (.bin .rem (.var 1) (.var 2)))
 .ret)
 .skip)
 (.seq
 (.set 3 (.var 1))
 .ret))
 .skip))))))))))))))))))))))
 (.seq
 (.set 3 (.const (.int .u64 0)))
 .ret))),
  [(.var 3)]⟩
theorem okx_144 : FnOk Tryz.prog 0 161 144 xf144 := fnOk_of Tryz.func144 (np := 3) (V := [0, 1, 2, 6, 7, 8, 13, 18, 23, 28, 33, 37, 42, 45, 52]) (ks := []) (by kernel_rfl)

/- tipstaff/tnum.Low -/
def xf151 : XF := ⟨2, [0, 1, 4, 2, 6, 7, 5, 23, 28],
  (.seq
 (.seq
 (.new (some 3) 64 (.var 0))
 (.new (some 2) 64 (.const (.agg #[(.int .u64 0), (.int .u64 0)]))))
 (.seq
 (.seq
 (.set 4 (.var 1))
 (.block 0
 (.seq
 (.seq
 (.set 5 (.bin .eql (.var 4) (.const (.int .i64 1))))
 (.cond (.var 5)
 .skip
 (.seq
 (.set 5 (.bin .eql (.var 4) (.const (.int .i64 2))))
 (.cond (.var 5)
 .skip
 (.set 5 (.bin .eql (.var 4) (.const (.int .i64 4))))))))
 (.cond (.var 5)
 (.seq
 (.set 6 (.bin .sub (.bin .shl (.const (.int .u64 1)) (.bin .mul (.const (.int .i64 8)) (.var 1))) (.const (.int .u64 1))))
 (.seq
 (.seq
 (.call (some 7) 169 [(.bin .and (.ld none (.offp 0 (.var 3))) (.var 6)), (.bin .and (.ld none (.offp 1 (.var 3))) (.var 6))] [])
 (.store 2 (.var 2) (.var 7) []))
 .ret))
 .skip))))
 (.seq
 (.seq
 (.call (some 8) 169 [(.ld none (.offp 0 (.var 3))), (.ld none (.offp 1 (.var 3)))] [])
 (.store 2 (.var 2) (.var 8) []))
 .ret))),
  [(.ld (some 2) (.var 2))]⟩
theorem okx_151 : FnOk Tryz.prog 0 161 151 xf151 := fnOk_of Tryz.func151 (np := 2) (V := [0, 1, 4, 2, 6, 7, 5, 23, 28]) (ks := []) (by kernel_rfl)

/- tipstaff/scalar.settled -/
def xf153 : XF := ⟨1, [0, 2, 1, 7, 3, 4],
  (.seq
 (.seq
 (.new (some 2) 66 (.var 0))
 (.new (some 1) 66 (.const zA2)))
 (.seq
 (.seq
 (.call (some 3) 170 [(.ld (some 6) (.var 2))] [])
 (.seq
 (.chk [(.proj 1 (.var 3)), (.proj 0 (.var 3))])
 (.seq
 (.new (some 4) 66 (.const zA2))
 (.seq
 (.store 6 (.var 4) (.proj 0 (.var 3)) [])
 (.set 5 (.proj 1 (.var 3)))))))
 (.seq
 (.cond (.un .not (.var 5))
 (.seq
 (.store 6 (.var 1) (.ld (some 6) (.var 2)) [])
 .ret)
 .skip)
 (.seq
 (.store 6 (.var 1) (.ld (some 6) (.var 4)) [])
 .ret)))),
  [(.ld (some 6) (.var 1))]⟩
theorem okx_153 : FnOk Tryz.prog 0 161 153 xf153 := fnOk_of Tryz.func153 (np := 1) (V := [0, 2, 1, 7, 3, 4]) (ks := []) (by kernel_rfl)

/- tipstaff/scalar.ofBits -/
def xf154 : XF := ⟨1, [0, 2, 1, 4, 3, 8],
  (.seq
 (.seq
 (.new (some 2) 64 (.var 0))
 (.new (some 1) 66 (.const zA2)))
 (.seq
 (.seq
 (.call (some 3) 128 [] [])
 (.seq
 (.new (some 4) 66 (.const zA2))
 (.store 6 (.var 4) (.var 3) [])))
 (.seq
 (.store 2 (.offp 0 (.var 4)) (.ld (some 2) (.var 2)) [])
 (.seq
 (.seq
 (.call (some 5) 153 [(.ld (some 6) (.var 4))] [])
 (.store 6 (.var 1) (.var 5) []))
 .ret)))),
  [(.ld (some 6) (.var 1))]⟩
theorem okx_154 : FnOk Tryz.prog 0 161 154 xf154 := fnOk_of Tryz.func154 (np := 1) (V := [0, 2, 1, 4, 3, 8]) (ks := []) (by kernel_rfl)

/- tipstaff/verify.alone -/
def xf155 : XF := ⟨1, [0, 2, 1],
  (.seq
 (.seq
 (.new (some 2) 66 (.var 0))
 (.set 1 (.const (.bool false))))
 (.seq
 (.set 1 (.bin .eql (.ld none (.offp 4 (.var 2))) (.ld none (.offp 5 (.var 2)))))
 .ret)),
  [(.var 1)]⟩
theorem okx_155 : FnOk Tryz.prog 0 161 155 xf155 := fnOk_of Tryz.func155 (np := 1) (V := [0, 2, 1]) (ks := []) (by kernel_rfl)

/- tipstaff/tnum.Any -/
def xf157 : XF := ⟨0, [0],
  (.seq
 (.new (some 0) 64 (.const (.agg #[(.int .u64 0), (.int .u64 0)])))
 (.seq
 (.seq
 (.chk [(.upd 1 1 (.const (.agg #[(.int .u64 0), (.int .u64 0)])) (.const (.int .u64 18446744073709551615)))])
 (.store 2 (.var 0) (.upd 1 1 (.const (.agg #[(.int .u64 0), (.int .u64 0)])) (.const (.int .u64 18446744073709551615))) []))
 .ret)),
  [(.ld (some 2) (.var 0))]⟩
theorem okx_157 : FnOk Tryz.prog 0 161 157 xf157 := fnOk_of Tryz.func157 (np := 0) (V := [0]) (ks := []) (by kernel_rfl)

/- slices.IndexFunc[[]int,int] -/
def xf158 : XF := ⟨2, [0, 1, 4, 8, 7, 5, 16],
  (.seq
 (.set 2 (.const (.int .i64 0)))
 (.seq
 (.seq
 (.seq
 (.set 4 (.len false (.var 0)))
 (.set 3 (.const (.int .i64 0))))
 (.block 0
 (.loop [0, 1, 3, 4]
 (.seq
 (.cond (.bin .lss (.var 3) (.var 4))
 .skip
 (.exit 0))
 (.seq
 (.block 1
 (.seq
 (.set 5 (.var 3))
 (.seq
 (.dyn (some 6) (.var 1) [(.ld none (.ixSl 1 (.var 0) (.var 5)))] [])
 (.cond (.var 6)
 (.seq
 (.set 2 (.var 5))
 .ret)
 .skip))))
 (.set 3 (.bin .add (.var 3) (.const (.int .i64 1)))))))))
 (.seq
 (.set 2 (.const (.int .i64 (-1))))
 .ret))),
  [(.var 2)]⟩
theorem okx_158 : FnOk Tryz.prog 0 161 158 xf158 := fnOk_of Tryz.func158 (np := 2) (V := [0, 1, 4, 8, 7, 5, 16]) (ks := [[0, 1, 3, 4]]) (by kernel_rfl)

/- tipstaff/tnum.Has -/
def xf159 : XF := ⟨2, [0, 1, 4, 2],
  (.seq
 (.seq
 (.new (some 3) 64 (.var 0))
 (.set 2 (.const (.bool false))))
 (.seq
 (.set 2 (.bin .eql (.bin .andNot (.var 1) (.ld none (.offp 1 (.var 3)))) (.ld none (.offp 0 (.var 3)))))
 .ret)),
  [(.var 2)]⟩
theorem okx_159 : FnOk Tryz.prog 0 161 159 xf159 := fnOk_of Tryz.func159 (np := 2) (V := [0, 1, 4, 2]) (ks := []) (by kernel_rfl)

/- tipstaff/tnum.of -/
def xf169 : XF := ⟨2, [0, 1, 4],
  (.seq
 (.new (some 2) 64 (.const (.agg #[(.int .u64 0), (.int .u64 0)])))
 (.seq
 (.seq
 (.chk [(.upd 1 1 (.upd 0 1 (.const (.agg #[(.int .u64 0), (.int .u64 0)])) (.bin .andNot (.var 0) (.var 1))) (.var 1))])
 (.store 2 (.var 2) (.upd 1 1 (.upd 0 1 (.const (.agg #[(.int .u64 0), (.int .u64 0)])) (.bin .andNot (.var 0) (.var 1))) (.var 1)) []))
 .ret)),
  [(.ld (some 2) (.var 2))]⟩
theorem okx_169 : FnOk Tryz.prog 0 161 169 xf169 := fnOk_of Tryz.func169 (np := 2) (V := [0, 1, 4]) (ks := []) (by kernel_rfl)

/- tipstaff/scalar.Settle -/
def xf170 : XF := ⟨1, [0, 2, 3, 1, 9, 4, 26, 42, 72, 67, 73, 5, 6, 69, 71],
  (.seq
 (.seq
 (.new (some 3) 66 (.var 0))
 (.seq
 (.new (some 1) 66 (.const zA2))
 (.set 2 (.const (.bool false)))))
 (.seq
 (.seq
 (.call (some 4) 181 [(.ld (some 2) (.offp 0 (.var 3)))] [])
 (.cond (.pick (.pick (.un .not (.var 4)) (.const (.bool true)) (.bin .gtr (.ld none (.offp 2 (.var 3))) (.ld none (.offp 3 (.var 3))))) (.const (.bool true)) (.bin .gtr (.ld none (.offp 4 (.var 3))) (.ld none (.offp 5 (.var 3)))))
 (.seq
 (.seq
 (.store 6 (.var 1) (.const zA2) [])
 (.set 2 (.const (.bool false))))
 .ret)
 .skip))
 (.seq
 (.seq
 (.set 6 (.ld (some 6) (.var 3)))
 (.seq
 (.new (some 5) 66 (.const zA2))
 (.store 6 (.var 5) (.var 6) [])))
 (.seq
 (.seq
 (.chk [(.mx (.ld none (.offp 2 (.var 5))) (.ld none (.offp 0 (.offp 0 (.var 5)))))])
 (.seq
 (.set 7 (.mn (.ld none (.offp 3 (.var 5))) (.bin .or (.ld none (.offp 0 (.offp 0 (.var 5)))) (.ld none (.offp 1 (.offp 0 (.var 5)))))))
 (.seq
 (.store 1 (.offp 2 (.var 5)) (.mx (.ld none (.offp 2 (.var 5))) (.ld none (.offp 0 (.offp 0 (.var 5))))) [])
 (.store 1 (.offp 3 (.var 5)) (.var 7) []))))
 (.seq
 (.cond (.bin .gtr (.ld none (.offp 2 (.var 5))) (.ld none (.offp 3 (.var 5))))
 (.seq
 (.seq
 (.store 6 (.var 1) (.const zA2) [])
 (.set 2 (.const (.bool false))))
 .ret)
 .skip)
 (.seq
 (.call none 182 [(.var 5)] [])
 (.seq
 (.cond (.pick (.bin .gtr (.ld none (.offp 2 (.var 5))) (.ld none (.offp 3 (.var 5)))) (.const (.bool true)) (.bin .gtr (.ld none (.offp 4 (.var 5))) (.ld none (.offp 5 (.var 5)))))
 (.seq
 (.seq
 (.store 6 (.var 1) (.const zA2) [])
 (.set 2 (.const (.bool false))))
 .ret)
 .skip)
 (.seq
 (.seq
 .skip
 (.seq
 (.set 9 (.ld (some 2) (.offp 0 (.var 5))))
 (.seq
 (.set 13 (.ld none (.offp 2 (.var 5))))
 (.seq
 (.set 14 (.ld none (.offp 3 (.var 5))))
 (.seq
 (.resv 1)
 (.seq
 (.seq
 (.set 11 (.const (.bool true)))
 .skip)
 (.seq
 (.chk [(.var 11)])
 (.seq
 (.clr [11])
 (.seq
 (.chk [(.const (.agg #[(.int .u64 0), (.int .u64 0)]))])
 (.seq
 (.call (some 8) 184 [(.var 13), (.var 14)] [(.ld none (.offp 3 (.var 5))), (.ld none (.offp 2 (.var 5))), (.ld (some 2) (.offp 0 (.var 5)))])
 (.seq
 (.call (some 10) 183 [(.var 9), (.var 8)] [(.ld none (.offp 3 (.var 5))), (.ld none (.offp 2 (.var 5))), (.ld (some 2) (.offp 0 (.var 5)))])
 (.seq
 (.chk [(.proj 1 (.var 10)), (.proj 0 (.var 10))])
 (.seq
 (.newR 0 11 64 (.const (.agg #[(.int .u64 0), (.int .u64 0)])))
 (.seq
 (.store 2 (.var 11) (.proj 0 (.var 10)) [])
 (.seq
 (.set 12 (.proj 1 (.var 10)))
 .skip)))))))))))))))
 (.seq
 (.cond (.un .not (.var 12))
 (.seq
 (.seq
 (.store 6 (.var 1) (.const zA2) [])
 (.set 2 (.const (.bool false))))
 .ret)
 .skip)
 (.seq
 (.store 2 (.offp 0 (.var 5)) (.ld (some 2) (.var 11)) [])
 (.seq
 (.seq
 (.store 6 (.var 1) (.ld (some 6) (.var 5)) [])
 (.set 2 (.const (.bool true))))
 .ret))))))))))),
  [(.ld (some 6) (.var 1)), (.var 2)]⟩
theorem okx_170 : FnOk Tryz.prog 0 161 170 xf170 := fnOk_of Tryz.func170 (np := 1) (V := [0, 2, 3, 1, 9, 4, 26, 42, 72, 67, 73, 5, 6, 69, 71]) (ks := []) (by kernel_rfl)

/- tipstaff/tnum.Right -/
def xf181 : XF := ⟨1, [0, 2, 1],
  (.seq
 (.seq
 (.new (some 2) 64 (.var 0))
 (.set 1 (.const (.bool false))))
 (.seq
 (.set 1 (.bin .eql (.bin .and (.ld none (.offp 0 (.var 2))) (.ld none (.offp 1 (.var 2)))) (.const (.int .u64 0))))
 .ret)),
  [(.var 1)]⟩
theorem okx_181 : FnOk Tryz.prog 0 161 181 xf181 := fnOk_of Tryz.func181 (np := 1) (V := [0, 2, 1]) (ks := []) (by kernel_rfl)

/- (*tipstaff/scalar.Range).signs -/
def xf182 : XF := ⟨1, [0, 34, 72],
  (.seq
 (.seq
 .skip
 (.cond (.bin .leq (.conv .i64 (.ld none (.offp 2 (.nn (.var 0))))) (.conv .i64 (.ld none (.offp 3 (.nn (.var 0))))))
 (.seq
 .skip
 (.seq
 (.chk [(.mx (.ld none (.offp 4 (.nn (.var 0)))) (.conv .i64 (.ld none (.offp 2 (.nn (.var 0))))))])
 (.seq
 (.set 1 (.mn (.ld none (.offp 5 (.nn (.var 0)))) (.conv .i64 (.ld none (.offp 3 (.nn (.var 0)))))))
 (.seq
 (.store 1 (.offp 4 (.nn (.var 0))) (.mx (.ld none (.offp 4 (.nn (.var 0)))) (.conv .i64 (.ld none (.offp 2 (.nn (.var 0)))))) [])
 (.store 1 (.offp 5 (.nn (.var 0))) (.var 1) [])))))
 .skip))
 (.cond (.pick (.bin .geq (.ld none (.offp 4 (.nn (.var 0)))) (.const (.int .i64 0))) (.const (.bool true)) (.bin .lss (.ld none (.offp 5 (.nn (.var 0)))) (.const (.int .i64 0))))
 (.seq
 .skip
 (.seq
 (.chk [(.mx (.ld none (.offp 2 (.nn (.var 0)))) (.conv .u64 (.ld none (.offp 4 (.nn (.var 0))))))])
 (.seq
 (.set 2 (.mn (.ld none (.offp 3 (.nn (.var 0)))) (.conv .u64 (.ld none (.offp 5 (.nn (.var 0)))))))
 (.seq
 (.store 1 (.offp 2 (.nn (.var 0))) (.mx (.ld none (.offp 2 (.nn (.var 0)))) (.conv .u64 (.ld none (.offp 4 (.nn (.var 0)))))) [])
 (.store 1 (.offp 3 (.nn (.var 0))) (.var 2) [])))))
 .skip)),
  []⟩
theorem okx_182 : FnOk Tryz.prog 0 161 182 xf182 := fnOk_of Tryz.func182 (np := 1) (V := [0, 34, 72]) (ks := []) (by kernel_rfl)

/- tipstaff/tnum.Meet -/
def xf183 : XF := ⟨2, [0, 1, 4, 5, 2, 3, 6, 32],
  (.seq
 (.seq
 (.new (some 4) 64 (.var 0))
 (.seq
 (.new (some 5) 64 (.var 1))
 (.seq
 (.new (some 2) 64 (.const (.agg #[(.int .u64 0), (.int .u64 0)])))
 (.set 3 (.const (.bool false))))))
 (.seq
 (.set 6 (.un .xor (.bin .or (.ld none (.offp 1 (.var 4))) (.ld none (.offp 1 (.var 5))))))
 (.seq
 (.cond (.bin .neq (.bin .and (.bin .xor (.ld none (.offp 0 (.var 4))) (.ld none (.offp 0 (.var 5)))) (.var 6)) (.const (.int .u64 0)))
 (.seq
 (.seq
 (.store 2 (.var 2) (.const (.agg #[(.int .u64 0), (.int .u64 0)])) [])
 (.set 3 (.const (.bool false))))
 .ret)
 .skip)
 (.seq
 (.seq
 (.call (some 7) 169 [(.bin .or (.ld none (.offp 0 (.var 4))) (.ld none (.offp 0 (.var 5)))), (.bin .and (.ld none (.offp 1 (.var 4))) (.ld none (.offp 1 (.var 5))))] [])
 (.seq
 (.store 2 (.var 2) (.var 7) [])
 (.set 3 (.const (.bool true)))))
 .ret)))),
  [(.ld (some 2) (.var 2)), (.var 3)]⟩
theorem okx_183 : FnOk Tryz.prog 0 161 183 xf183 := fnOk_of Tryz.func183 (np := 2) (V := [0, 1, 4, 5, 2, 3, 6, 32]) (ks := []) (by kernel_rfl)

/- tipstaff/scalar.common -/
def xf184 : XF := ⟨2, [0, 1, 4, 10, 5, 6],
  (.seq
 (.new (some 2) 64 (.const (.agg #[(.int .u64 0), (.int .u64 0)])))
 (.seq
 (.seq
 (.call (some 3) 71 [(.bin .xor (.var 0) (.var 1))] [])
 (.set 4 (.var 3)))
 (.seq
 (.set 5 (.bin .sub (.bin .shl (.const (.int .u64 1)) (.var 4)) (.const (.int .u64 1))))
 (.seq
 (.cond (.bin .eql (.var 4) (.const (.int .i64 64)))
 (.set 5 (.const (.int .u64 18446744073709551615)))
 .skip)
 (.seq
 (.seq
 (.chk [(.upd 1 1 (.upd 0 1 (.const (.agg #[(.int .u64 0), (.int .u64 0)])) (.bin .andNot (.var 0) (.var 5))) (.var 5))])
 (.store 2 (.var 2) (.upd 1 1 (.upd 0 1 (.const (.agg #[(.int .u64 0), (.int .u64 0)])) (.bin .andNot (.var 0) (.var 5))) (.var 5)) []))
 .ret))))),
  [(.ld (some 2) (.var 2))]⟩
theorem okx_184 : FnOk Tryz.prog 0 161 184 xf184 := fnOk_of Tryz.func184 (np := 2) (V := [0, 1, 4, 10, 5, 6]) (ks := []) (by kernel_rfl)
end Go.Proofs.YtkgpmjjleemdlaaGreat
