/- The interpreter's functions, part 2: made by program (geny.py). -/
import Derived.Test.YtfdeipckfdogfaaGreatXz
import Derived.Test.YtfdeipckfdogfaaGreatProg
set_option maxRecDepth 100000
set_option linter.unusedVariables false
namespace Go.Proofs.YtfdeipckfdogfaaGreat
open Go.Eng
/- tipstaff/shape.named -/
def xf53 : XF := ⟨1, [0, 2, 1, 4, 5, 18, 27, 30, 34, 37, 40],
  (.seq
 (.seq
 (.new (some 2) 105 (.var 0))
 (.new (some 1) 115 (.const (.agg (Array.replicate 4 (.bool false))))))
 (.seq
 (.seq
 (.set 3 (.ld none (.offp 0 (.var 2))))
 (.block 0
 (.seq
 (.set 4 (.bin .eql (.var 3) (.const (.int .i64 1))))
 (.cond (.var 4)
 (.seq
 (.seq
 (.chk [(.upd 3 1 (.upd 2 1 (.upd 1 1 (.upd 0 1 (.const (.agg (Array.replicate 4 (.bool false)))) (.const (.bool true))) (.ld none (.offp 4 (.var 2)))) (.const (.bool false))) (.pick (.un .not (.ld none (.offp 4 (.var 2)))) (.bin .neq (.ld none (.offp 1 (.var 2))) (.const (.int .i64 8))) (.const (.bool false))))])
 (.store 4 (.var 1) (.upd 3 1 (.upd 2 1 (.upd 1 1 (.upd 0 1 (.const (.agg (Array.replicate 4 (.bool false)))) (.const (.bool true))) (.ld none (.offp 4 (.var 2)))) (.const (.bool false))) (.pick (.un .not (.ld none (.offp 4 (.var 2)))) (.bin .neq (.ld none (.offp 1 (.var 2))) (.const (.int .i64 8))) (.const (.bool false)))) []))
 .ret)
 (.seq
 (.seq
 (.set 5 (.bin .eql (.var 3) (.const (.int .i64 2))))
 (.cond (.var 5)
 .skip
 (.set 5 (.bin .eql (.var 3) (.const (.int .i64 7))))))
 (.cond (.var 5)
 (.seq
 (.seq
 (.chk [(.upd 3 1 (.upd 2 1 (.upd 1 1 (.upd 0 1 (.const (.agg (Array.replicate 4 (.bool false)))) (.const (.bool true))) (.ld none (.offp 4 (.var 2)))) (.const (.bool true))) (.un .not (.ld none (.offp 4 (.var 2)))))])
 (.store 4 (.var 1) (.upd 3 1 (.upd 2 1 (.upd 1 1 (.upd 0 1 (.const (.agg (Array.replicate 4 (.bool false)))) (.const (.bool true))) (.ld none (.offp 4 (.var 2)))) (.const (.bool true))) (.un .not (.ld none (.offp 4 (.var 2))))) []))
 .ret)
 (.seq
 (.set 6 (.bin .eql (.var 3) (.const (.int .i64 3))))
 (.cond (.var 6)
 (.seq
 (.seq
 (.chk [(.upd 2 1 (.const (.agg (Array.replicate 4 (.bool false)))) (.const (.bool true)))])
 (.store 4 (.var 1) (.upd 2 1 (.const (.agg (Array.replicate 4 (.bool false)))) (.const (.bool true))) []))
 .ret)
 (.seq
 (.seq
 (.set 7 (.bin .eql (.var 3) (.const (.int .i64 4))))
 (.cond (.var 7)
 .skip
 (.set 7 (.bin .eql (.var 3) (.const (.int .i64 10))))))
 (.cond (.var 7)
 (.seq
 (.seq
 (.chk [(.upd 3 1 (.const (.agg (Array.replicate 4 (.bool false)))) (.const (.bool true)))])
 (.store 4 (.var 1) (.upd 3 1 (.const (.agg (Array.replicate 4 (.bool false)))) (.const (.bool true))) []))
 .ret)
 (.seq
 (.set 8 (.bin .eql (.var 3) (.const (.int .i64 6))))
 (.cond (.var 8)
 (.seq
 (.seq
 (.chk [(.upd 3 1 (.upd 2 1 (.upd 1 1 (.upd 0 1 (.const (.agg (Array.replicate 4 (.bool false)))) (.const (.bool true))) (.const (.bool true))) (.const (.bool true))) (.const (.bool false)))])
 (.store 4 (.var 1) (.upd 3 1 (.upd 2 1 (.upd 1 1 (.upd 0 1 (.const (.agg (Array.replicate 4 (.bool false)))) (.const (.bool true))) (.const (.bool true))) (.const (.bool true))) (.const (.bool false))) []))
 .ret)
 (.seq
 (.set 9 (.bin .eql (.var 3) (.const (.int .i64 8))))
 (.cond (.var 9)
 (.seq
 (.seq
 (.chk [(.upd 3 1 (.upd 2 1 (.upd 1 1 (.upd 0 1 (.const (.agg (Array.replicate 4 (.bool false)))) (.const (.bool true))) (.const (.bool true))) (.const (.bool true))) (.const (.bool true)))])
 (.store 4 (.var 1) (.upd 3 1 (.upd 2 1 (.upd 1 1 (.upd 0 1 (.const (.agg (Array.replicate 4 (.bool false)))) (.const (.bool true))) (.const (.bool true))) (.const (.bool true))) (.const (.bool true))) []))
 .ret)
 (.seq
 (.set 10 (.bin .eql (.var 3) (.const (.int .i64 9))))
 (.cond (.var 10)
 (.seq
 (.seq
 (.chk [(.upd 3 1 (.upd 2 1 (.upd 1 1 (.upd 0 1 (.const (.agg (Array.replicate 4 (.bool false)))) (.const (.bool true))) (.const (.bool true))) (.const (.bool false))) (.const (.bool true)))])
 (.store 4 (.var 1) (.upd 3 1 (.upd 2 1 (.upd 1 1 (.upd 0 1 (.const (.agg (Array.replicate 4 (.bool false)))) (.const (.bool true))) (.const (.bool true))) (.const (.bool false))) (.const (.bool true))) []))
 .ret)
 .skip))))))))))))))))
 (.seq
 (.store 4 (.var 1) (.const (.agg (Array.replicate 4 (.bool false)))) [])
 .ret))),
  [(.ld (some 4) (.var 1))]⟩
theorem okx_53 : FnOk Tryz.prog 0 125 53 xf53 := fnOk_of Tryz.func53 (np := 1) (V := [0, 2, 1, 4, 5, 18, 27, 30, 34, 37, 40]) (ks := []) (by kernel_rfl)

/- tipstaff/shape.writes -/
def xf54 : XF := ⟨1, [0, 2],
  (.seq
 (.set 1 (.const (.bool false)))
 (.seq
 (.set 1 (.pick (.pick (.bin .eql (.var 0) (.const (.int .i64 1))) (.const (.bool true)) (.bin .eql (.var 0) (.const (.int .i64 6)))) (.const (.bool true)) (.bin .eql (.var 0) (.const (.int .i64 9)))))
 .ret)),
  [(.var 1)]⟩
theorem okx_54 : FnOk Tryz.prog 0 125 54 xf54 := fnOk_of Tryz.func54 (np := 1) (V := [0, 2]) (ks := []) (by kernel_rfl)

/- tipstaff/shape.constant -/
def xf55 : XF := ⟨2, [0, 1, 4, 2, 9, 10, 15, 5],
  (.seq
 (.seq
 (.new (some 3) 105 (.var 0))
 (.set 2 (.const (.bool false))))
 (.seq
 (.cond (.ld none (.offp 4 (.var 3)))
 (.seq
 (.set 2 (.const (.bool true)))
 .ret)
 .skip)
 (.seq
 (.seq
 (.set 4 (.ld none (.offp 1 (.var 3))))
 (.block 0
 (.seq
 (.seq
 (.set 5 (.bin .eql (.var 4) (.const (.int .i64 3))))
 (.cond (.var 5)
 .skip
 (.set 5 (.bin .eql (.var 4) (.const (.int .i64 9))))))
 (.cond (.var 5)
 (.seq
 (.set 2 (.bin .neq (.var 1) (.const (.int .i32 0))))
 .ret)
 (.seq
 (.seq
 (.set 6 (.bin .eql (.var 4) (.const (.int .i64 6))))
 (.cond (.var 6)
 .skip
 (.seq
 (.set 6 (.bin .eql (.var 4) (.const (.int .i64 7))))
 (.cond (.var 6)
 .skip
 (.set 6 (.bin .eql (.var 4) (.const (.int .i64 12))))))))
 (.cond (.var 6)
 (.seq
 (.set 7 (.const (.int .i32 31)))
 (.seq
 (.cond (.ld none (.offp 3 (.var 3)))
 (.set 7 (.const (.int .i32 63)))
 .skip)
 (.seq
 (.set 2 (.pick (.bin .geq (.var 1) (.const (.int .i32 0))) (.bin .leq (.var 1) (.var 7)) (.const (.bool false))))
 .ret)))
 .skip))))))
 (.seq
 (.set 2 (.const (.bool true)))
 .ret)))),
  [(.var 2)]⟩
theorem okx_55 : FnOk Tryz.prog 0 125 55 xf55 := fnOk_of Tryz.func55 (np := 2) (V := [0, 1, 4, 2, 9, 10, 15, 5]) (ks := []) (by kernel_rfl)

/- tipstaff/shape.Args -/
def xf56 : XF := ⟨1, [0, 2, 3, 4, 5, 10, 12, 15],
  (.seq
 (.seq
 (.set 1 (.const (.int .i64 0)))
 (.set 2 (.const (.bool false))))
 (.seq
 (.seq
 (.set 3 (.var 0))
 (.block 0
 (.seq
 (.seq
 (.set 4 (.bin .eql (.var 3) (.const (.int .i32 1))))
 (.cond (.var 4)
 .skip
 (.seq
 (.set 4 (.bin .eql (.var 3) (.const (.int .i32 3))))
 (.cond (.var 4)
 .skip
 (.seq
 (.set 4 (.bin .eql (.var 3) (.const (.int .i32 88))))
 (.cond (.var 4)
 .skip
 (.set 4 (.bin .eql (.var 3) (.const (.int .i32 89))))))))))
 (.cond (.var 4)
 (.seq
 (.seq
 (.set 1 (.const (.int .i64 2)))
 (.set 2 (.const (.bool true))))
 .ret)
 (.seq
 (.set 5 (.bin .eql (.var 3) (.const (.int .i32 2))))
 (.cond (.var 5)
 (.seq
 (.seq
 (.set 1 (.const (.int .i64 4)))
 (.set 2 (.const (.bool true))))
 .ret)
 (.seq
 (.seq
 (.set 6 (.bin .eql (.var 3) (.const (.int .i32 5))))
 (.cond (.var 6)
 .skip
 (.set 6 (.bin .eql (.var 3) (.const (.int .i32 7))))))
 (.cond (.var 6)
 (.seq
 (.seq
 (.set 1 (.const (.int .i64 0)))
 (.set 2 (.const (.bool true))))
 .ret)
 (.seq
 (.set 7 (.bin .eql (.var 3) (.const (.int .i32 87))))
 (.cond (.var 7)
 (.seq
 (.seq
 (.set 1 (.const (.int .i64 3)))
 (.set 2 (.const (.bool true))))
 .ret)
 .skip))))))))))
 (.seq
 (.seq
 (.set 1 (.const (.int .i64 0)))
 (.set 2 (.const (.bool false))))
 .ret))),
  [(.var 1), (.var 2)]⟩
theorem okx_56 : FnOk Tryz.prog 0 125 56 xf56 := fnOk_of Tryz.func56 (np := 1) (V := [0, 2, 3, 4, 5, 10, 12, 15]) (ks := []) (by kernel_rfl)

/- tipstaff/shape.atomic -/
def xf57 : XF := ⟨1, [0, 2],
  (.seq
 (.set 1 (.const (.bool false)))
 (.seq
 (.set 1 (.pick (.pick (.pick (.bin .eql (.var 0) (.const (.int .i32 0))) (.const (.bool true)) (.bin .eql (.var 0) (.const (.int .i32 64)))) (.const (.bool true)) (.bin .eql (.var 0) (.const (.int .i32 80)))) (.const (.bool true)) (.bin .eql (.var 0) (.const (.int .i32 160)))))
 .ret)),
  [(.var 1)]⟩
theorem okx_57 : FnOk Tryz.prog 0 125 57 xf57 := fnOk_of Tryz.func57 (np := 1) (V := [0, 2]) (ks := []) (by kernel_rfl)

/- tipstaff/shape.wide -/
def xf58 : XF := ⟨2, [0, 1, 4, 5, 9, 21],
  (.seq
 (.set 2 (.const (.bool false)))
 (.seq
 (.seq
 (.set 4 (.ld (some 5) (.ixSl 5 (.var 0) (.var 1))))
 (.seq
 (.new (some 3) 27 (.const zA0))
 (.store 5 (.var 3) (.var 4) [])))
 (.seq
 (.seq
 (.seq
 (.chk [(.pick (.bin .geq (.bin .add (.var 1) (.const (.int .i64 1))) (.len false (.var 0))) (.const (.bool false)) (.ld (some 5) (.ixSl 5 (.var 0) (.bin .add (.var 1) (.const (.int .i64 1))))))])
 (.cond (.pick (.bin .geq (.bin .add (.var 1) (.const (.int .i64 1))) (.len false (.var 0))) (.const (.bool false)) (.const (.bool true)))
 (.call (some 5) 35 [(.ld (some 5) (.ixSl 5 (.var 0) (.bin .add (.var 1) (.const (.int .i64 1)))))] [])
 (.clr [5])))
 (.cond (.pick (.pick (.bin .geq (.bin .add (.var 1) (.const (.int .i64 1))) (.len false (.var 0))) (.const (.bool true)) (.bin .neq (.var 5) (.const (.int .i64 10)))) (.const (.bool true)) (.bin .gtr (.ld none (.offp 2 (.var 3))) (.const (.int .u8 1))))
 (.seq
 (.set 2 (.const (.bool false)))
 .ret)
 .skip))
 (.seq
 (.set 2 (.pick (.bin .eql (.ld none (.offp 2 (.var 3))) (.const (.int .u8 0))) (.const (.bool true)) (.pick (.pick (.bin .geq (.ld none (.offp 4 (.var 3))) (.const (.int .i32 0))) (.bin .lss (.ld none (.offp 4 (.var 3))) (.const (.int .i32 4))) (.const (.bool false))) (.bin .eql (.ld none (.offp 4 (.ixSl 5 (.var 0) (.bin .add (.var 1) (.const (.int .i64 1)))))) (.const (.int .i32 0))) (.const (.bool false)))))
 .ret)))),
  [(.var 2)]⟩
theorem okx_58 : FnOk Tryz.prog 0 125 58 xf58 := fnOk_of Tryz.func58 (np := 2) (V := [0, 1, 4, 5, 9, 21]) (ks := []) (by kernel_rfl)

/- (*tipstaff/cfg.walk).visit -/
def xf59 : XF := ⟨2, [0, 1, 17, 19, 18, 5, 29, 30, 35],
  (.seq
 (.store 1 (.ixSl 1 (.ld none (.offp 1 (.nn (.var 0)))) (.var 1)) (.const (.int .i64 1)) [])
 (.seq
 (.seq
 (.seq
 (.call (some 2) 80 [(.ld none (.offp 0 (.nn (.var 0)))), (.var 1)] [])
 (.seq
 (.set 4 (.len false (.var 2)))
 (.set 3 (.const (.int .i64 0)))))
 (.block 0
 (.loop [0, 1, 2, 3, 4]
 (.seq
 (.cond (.bin .lss (.var 3) (.var 4))
 .skip
 (.exit 0))
 (.seq
 (.block 1
 (.seq
 (.set 5 (.ld none (.ixSl 1 (.var 2) (.var 3))))
 (.seq
 (.set 6 (.ld none (.ixSl 1 (.ld none (.offp 1 (.nn (.var 0)))) (.var 5))))
 (.block 2
 (.seq
 (.set 7 (.bin .eql (.var 6) (.const (.int .i64 1))))
 (.cond (.var 7)
 (.store 1 (.offp 2 (.nn (.var 0))) (.const (.bool true)) [])
 (.seq
 (.set 8 (.bin .eql (.var 6) (.const (.int .i64 0))))
 (.cond (.var 8)
 (.call none 59 [(.var 0), (.var 5)] [])
 .skip))))))))
 (.set 3 (.bin .add (.var 3) (.const (.int .i64 1)))))))))
 (.store 1 (.ixSl 1 (.ld none (.offp 1 (.nn (.var 0)))) (.var 1)) (.const (.int .i64 2)) []))),
  []⟩
theorem okx_59 : FnOk Tryz.prog 0 125 59 xf59 := fnOk_of Tryz.func59 (np := 2) (V := [0, 1, 17, 19, 18, 5, 29, 30, 35]) (ks := [[0, 1, 2, 3, 4]]) (by kernel_rfl)

/- slices.IndexFunc[[]tipstaff/absreg.State,tipstaff/absreg.State] -/
def xf60 : XF := ⟨2, [0, 1, 4, 8, 7, 5, 16],
  (.seq
 (.set 2 (.const (.int .i64 0)))
 (.seq
 (.seq
 (.seq
 (.set 4 (.len false (.var 0)))
 (.set 3 (.const (.int .i64 0))))
 (.block 0
 (.loop [0, 1, 3, 4]
 (.seq
 (.cond (.bin .lss (.var 3) (.var 4))
 .skip
 (.exit 0))
 (.seq
 (.block 1
 (.seq
 (.set 5 (.var 3))
 (.seq
 (.dyn (some 6) (.var 1) [(.ld (some 273) (.ixSl 273 (.var 0) (.var 5)))] [])
 (.cond (.var 6)
 (.seq
 (.set 2 (.var 5))
 .ret)
 .skip))))
 (.set 3 (.bin .add (.var 3) (.const (.int .i64 1)))))))))
 (.seq
 (.set 2 (.const (.int .i64 (-1))))
 .ret))),
  [(.var 2)]⟩
theorem okx_60 : FnOk Tryz.prog 0 125 60 xf60 := fnOk_of Tryz.func60 (np := 2) (V := [0, 1, 4, 8, 7, 5, 16]) (ks := [[0, 1, 3, 4]]) (by kernel_rfl)

/- (*tipstaff/absreg.ids).covers -/
def xf61 : XF := ⟨3, [0, 1, 2, 6, 4, 5, 7, 11, 18, 19, 25, 26, 33, 44, 40],
  (.seq
 (.seq
 (.new (some 4) 75 (.var 1))
 (.seq
 (.new (some 5) 75 (.var 2))
 (.set 3 (.const (.bool false)))))
 (.seq
 (.block 0
 (.seq
 (.set 6 (.bin .eql (.ld none (.offp 0 (.var 4))) (.const (.int .i64 0))))
 (.cond (.var 6)
 (.seq
 (.set 3 (.const (.bool true)))
 .ret)
 (.seq
 (.set 7 (.bin .neq (.ld none (.offp 0 (.var 4))) (.ld none (.offp 0 (.var 5)))))
 (.cond (.var 7)
 (.seq
 (.set 3 (.const (.bool false)))
 .ret)
 .skip)))))
 (.seq
 (.seq
 (.set 8 (.ld none (.offp 0 (.var 4))))
 (.block 1
 (.seq
 (.set 9 (.bin .eql (.var 8) (.const (.int .i64 1))))
 (.cond (.var 9)
 (.seq
 (.seq
 (.call (some 10) 81 [(.ld (some 6) (.offp 1 (.var 5))), (.ld (some 6) (.offp 1 (.var 4)))] [])
 (.set 3 (.var 10)))
 .ret)
 (.seq
 (.set 11 (.bin .eql (.var 8) (.const (.int .i64 4))))
 (.cond (.var 11)
 (.seq
 (.set 3 (.bin .eql (.ld none (.offp 7 (.var 4))) (.ld none (.offp 7 (.var 5)))))
 .ret)
 (.seq
 (.set 12 (.bin .eql (.var 8) (.const (.int .i64 6))))
 (.cond (.var 12)
 (.seq
 (.seq
 (.set 14 (.bin .eql (.ld none (.offp 7 (.var 4))) (.ld none (.offp 7 (.var 5)))))
 (.seq
 (.chk [(.pick (.var 14) (.ld (some 11) (.var 5)) (.const (.bool false))), (.pick (.var 14) (.ld (some 11) (.var 4)) (.const (.bool false))), (.pick (.var 14) (.var 0) (.const (.bool false)))])
 (.seq
 (.cond (.pick (.var 14) (.const (.bool true)) (.const (.bool false)))
 (.call (some 13) 82 [(.var 0), (.ld (some 11) (.var 4)), (.ld (some 11) (.var 5))] [])
 (.clr [13]))
 (.set 3 (.pick (.var 14) (.var 13) (.const (.bool false)))))))
 .ret)
 .skip))))))))
 (.seq
 (.set 3 (.pick (.pick (.bin .eql (.ld none (.offp 7 (.var 4))) (.ld none (.offp 7 (.var 5)))) (.bin .leq (.ld none (.offp 9 (.var 4))) (.ld none (.offp 9 (.var 5)))) (.const (.bool false))) (.bin .leq (.ld none (.offp 10 (.var 5))) (.ld none (.offp 10 (.var 4)))) (.const (.bool false))))
 .ret)))),
  [(.var 3)]⟩
theorem okx_61 : FnOk Tryz.prog 0 125 61 xf61 := fnOk_of Tryz.func61 (np := 3) (V := [0, 1, 2, 6, 4, 5, 7, 11, 18, 19, 25, 26, 33, 44, 40]) (ks := []) (by kernel_rfl)

/- tipstaff/insn.alu -/
def xf62 : XF := ⟨1, [0, 2, 3, 13],
  (.seq
 (.new (some 1) 105 (.const zA1))
 (.seq
 (.seq
 (.set 3 (.upd 4 1 (.upd 3 1 (.upd 2 1 (.upd 1 1 (.upd 0 1 (.const zA1) (.const (.int .i64 1))) (.conv .i64 (.bin .shr (.var 0) (.const (.int .u64 4))))) (.const (.int .i64 0))) (.bin .eql (.bin .and (.var 0) (.const (.int .u8 7))) (.const (.int .u8 7)))) (.bin .neq (.bin .and (.var 0) (.const (.int .u8 8))) (.const (.int .u8 0)))))
 (.seq
 (.new (some 2) 105 (.const zA1))
 (.store 5 (.var 2) (.var 3) [])))
 (.seq
 (.cond (.pick (.bin .gtr (.ld none (.offp 1 (.var 2))) (.const (.int .i64 12))) (.const (.bool true)) (.pick (.bin .eql (.ld none (.offp 1 (.var 2))) (.const (.int .i64 8))) (.ld none (.offp 4 (.var 2))) (.const (.bool false))))
 (.seq
 (.store 5 (.var 1) (.const zA1) [])
 .ret)
 .skip)
 (.seq
 (.store 5 (.var 1) (.ld (some 5) (.var 2)) [])
 .ret)))),
  [(.ld (some 5) (.var 1))]⟩
theorem okx_62 : FnOk Tryz.prog 0 125 62 xf62 := fnOk_of Tryz.func62 (np := 1) (V := [0, 2, 3, 13]) (ks := []) (by kernel_rfl)

/- tipstaff/insn.jump -/
def xf63 : XF := ⟨1, [0, 2, 3, 14, 4, 23, 29, 32, 35],
  (.seq
 (.new (some 1) 105 (.const zA1))
 (.seq
 (.seq
 (.set 3 (.upd 4 1 (.upd 3 1 (.upd 2 1 (.upd 1 1 (.upd 0 1 (.const zA1) (.const (.int .i64 2))) (.conv .i64 (.bin .shr (.var 0) (.const (.int .u64 4))))) (.const (.int .i64 0))) (.bin .eql (.bin .and (.var 0) (.const (.int .u8 7))) (.const (.int .u8 5)))) (.bin .neq (.bin .and (.var 0) (.const (.int .u8 8))) (.const (.int .u8 0)))))
 (.seq
 (.new (some 2) 105 (.const zA1))
 (.store 5 (.var 2) (.var 3) [])))
 (.seq
 (.set 4 (.pick (.ld none (.offp 3 (.var 2))) (.un .not (.ld none (.offp 4 (.var 2)))) (.const (.bool false))))
 (.seq
 (.seq
 (.set 5 (.ld none (.offp 1 (.var 2))))
 (.block 0
 (.seq
 (.set 6 (.bin .eql (.var 5) (.const (.int .i64 0))))
 (.cond (.var 6)
 (.seq
 (.chk [(.upd 0 1 (.const zA1) (.const (.int .i64 3)))])
 (.store 5 (.var 2) (.upd 0 1 (.const zA1) (.const (.int .i64 3))) []))
 (.seq
 (.set 7 (.bin .eql (.var 5) (.const (.int .i64 8))))
 (.cond (.var 7)
 (.seq
 (.chk [(.upd 0 1 (.const zA1) (.const (.int .i64 4)))])
 (.store 5 (.var 2) (.upd 0 1 (.const zA1) (.const (.int .i64 4))) []))
 (.seq
 (.set 8 (.bin .eql (.var 5) (.const (.int .i64 9))))
 (.cond (.var 8)
 (.seq
 (.chk [(.upd 0 1 (.const zA1) (.const (.int .i64 5)))])
 (.store 5 (.var 2) (.upd 0 1 (.const zA1) (.const (.int .i64 5))) []))
 (.seq
 (.cond (.bin .gtr (.ld none (.offp 1 (.var 2))) (.const (.int .i64 13)))
 (.seq
 (.store 5 (.var 1) (.const zA1) [])
 .ret)
 .skip)
 (.seq
 (.store 5 (.var 1) (.ld (some 5) (.var 2)) [])
 .ret))))))))))
 (.seq
 (.cond (.un .not (.var 4))
 (.seq
 (.store 5 (.var 1) (.const zA1) [])
 .ret)
 .skip)
 (.seq
 (.store 5 (.var 1) (.ld (some 5) (.var 2)) [])
 .ret)))))),
  [(.ld (some 5) (.var 1))]⟩
theorem okx_63 : FnOk Tryz.prog 0 125 63 xf63 := fnOk_of Tryz.func63 (np := 1) (V := [0, 2, 3, 14, 4, 23, 29, 32, 35]) (ks := []) (by kernel_rfl)

/- tipstaff/insn.memory -/
def xf64 : XF := ⟨1, [0, 2, 5, 3, 14, 4, 17, 25, 28],
  (.seq
 (.new (some 1) 105 (.const zA1))
 (.seq
 (.seq
 (.row (some 2) 3 4 (.upd 3 1 (.upd 2 1 (.upd 1 1 (.upd 0 1 (.const (.agg (Array.replicate 4 (.int .i64 0)))) (.const (.int .i64 4))) (.const (.int .i64 2))) (.const (.int .i64 1))) (.const (.int .i64 8))))
 (.seq
 (.set 4 (.upd 4 1 (.upd 2 1 (.upd 0 1 (.const zA1) (.const (.int .i64 7))) (.ld none (.ixSl 1 (.var 2) (.bin .and (.bin .shr (.var 0) (.const (.int .u64 3))) (.const (.int .u8 3)))))) (.bin .eql (.bin .and (.var 0) (.const (.int .u8 7))) (.const (.int .u8 3)))))
 (.seq
 (.new (some 3) 105 (.const zA1))
 (.store 5 (.var 3) (.var 4) []))))
 (.seq
 (.set 5 (.bin .shr (.var 0) (.const (.int .u64 5))))
 (.seq
 (.block 0
 (.seq
 (.block 3
 (.seq
 (.block 2
 (.seq
 (.block 1
 (.seq
 (.seq
 (.seq
 (.set 6 (.pick (.bin .eql (.var 5) (.const (.int .u8 3))) (.bin .eql (.bin .and (.var 0) (.const (.int .u8 7))) (.const (.int .u8 1))) (.const (.bool false))))
 (.cond (.var 6)
 (.exit 1)
 .skip))
 (.seq
 (.seq
 (.set 7 (.bin .eql (.var 5) (.const (.int .u8 3))))
 (.cond (.var 7)
 (.exit 2)
 .skip))
 (.seq
 (.set 8 (.pick (.pick (.bin .eql (.var 5) (.const (.int .u8 6))) (.ld none (.offp 4 (.var 3))) (.const (.bool false))) (.bin .geq (.ld none (.offp 2 (.var 3))) (.const (.int .i64 4))) (.const (.bool false))))
 (.cond (.var 8)
 (.exit 3)
 .skip))))
 (.exit 0)))
 (.store 1 (.offp 0 (.var 3)) (.const (.int .i64 6)) [])))
 (.seq
 (.seq
 (.store 5 (.var 1) (.ld (some 5) (.var 3)) [])
 .ret)
 (.exit 0))))
 (.seq
 (.seq
 (.store 1 (.offp 0 (.var 3)) (.const (.int .i64 8)) [])
 (.seq
 (.store 5 (.var 1) (.ld (some 5) (.var 3)) [])
 .ret))
 (.exit 0))))
 (.seq
 (.store 5 (.var 1) (.const zA1) [])
 .ret))))),
  [(.ld (some 5) (.var 1))]⟩
theorem okx_64 : FnOk Tryz.prog 0 125 64 xf64 := fnOk_of Tryz.func64 (np := 1) (V := [0, 2, 5, 3, 14, 4, 17, 25, 28]) (ks := []) (by kernel_rfl)

/- tipstaff/verify.known -/
def xf65 : XF := ⟨1, [0, 2, 4],
  (.seq
 (.new (some 1) 75 (.const zA4))
 (.seq
 (.seq
 (.call (some 2) 83 [(.var 0)] [])
 (.seq
 (.chk [(.upd 1 6 (.upd 0 1 (.const zA4) (.const (.int .i64 1))) (.var 2))])
 (.store 11 (.var 1) (.upd 1 6 (.upd 0 1 (.const zA4) (.const (.int .i64 1))) (.var 2)) [])))
 .ret)),
  [(.ld (some 11) (.var 1))]⟩
theorem okx_65 : FnOk Tryz.prog 0 125 65 xf65 := fnOk_of Tryz.func65 (np := 1) (V := [0, 2, 4]) (ks := []) (by kernel_rfl)

/- tipstaff/scalar.Do -/
def xf66 : XF := ⟨4, [0, 1, 2, 3, 8, 6, 7, 10, 13, 21, 22, 27, 30, 31, 32, 33, 34],
  (.seq
 (.seq
 (.new (some 5) 73 (.var 2))
 (.seq
 (.new (some 6) 73 (.var 3))
 (.new (some 4) 73 (.const zA2))))
 (.seq
 (.seq
 (.seq
 (.call (some 7) 84 [(.ld (some 6) (.var 5))] [])
 (.seq
 (.chk [(.pick (.var 7) (.ld (some 6) (.var 6)) (.const (.bool false)))])
 (.cond (.pick (.var 7) (.const (.bool true)) (.const (.bool false)))
 (.call (some 8) 84 [(.ld (some 6) (.var 6))] [])
 (.clr [8]))))
 (.cond (.pick (.var 7) (.var 8) (.const (.bool false)))
 (.seq
 (.seq
 (.call (some 9) 85 [(.var 0), (.var 1), (.ld none (.offp 2 (.var 5))), (.ld none (.offp 2 (.var 6)))] [])
 (.seq
 (.call (some 10) 83 [(.var 9)] [])
 (.store 6 (.var 4) (.var 10) [])))
 .ret)
 .skip))
 (.seq
 (.cond (.var 1)
 (.seq
 (.seq
 (.call (some 11) 86 [(.var 0), (.const (.bool true)), (.ld (some 6) (.var 5)), (.ld (some 6) (.var 6))] [])
 (.store 6 (.var 4) (.var 11) []))
 .ret)
 .skip)
 (.seq
 (.seq
 .skip
 (.seq
 (.chk [(.ld (some 6) (.var 5)), (.var 0)])
 (.seq
 (.set 13 (.ld (some 6) (.var 6)))
 (.seq
 (.call (some 12) 87 [(.ld (some 6) (.var 5)), (.const (.int .i64 4))] [(.ld (some 6) (.var 6))])
 (.seq
 (.call (some 14) 87 [(.var 13), (.const (.int .i64 4))] [])
 (.seq
 (.call (some 15) 86 [(.var 0), (.const (.bool false)), (.var 12), (.var 14)] [])
 (.seq
 (.call (some 16) 87 [(.var 15), (.const (.int .i64 4))] [])
 (.store 6 (.var 4) (.var 16) []))))))))
 .ret)))),
  [(.ld (some 6) (.var 4))]⟩
theorem okx_66 : FnOk Tryz.prog 0 125 66 xf66 := fnOk_of Tryz.func66 (np := 4) (V := [0, 1, 2, 3, 8, 6, 7, 10, 13, 21, 22, 27, 30, 31, 32, 33, 34]) (ks := []) (by kernel_rfl)

/- (tipstaff/verify.way).set -/
def xf67 : XF := ⟨4, [0, 1, 2, 3, 8, 4, 6, 20],
  (.seq
 (.seq
 (.new (some 5) 83 (.var 0))
 (.seq
 (.new (some 6) 75 (.var 2))
 (.set 4 (.const (.slice none 0 0)))))
 (.seq
 (.store 11 (.ixArr 11 11 (.offp 0 (.offp 1 (.var 5))) (.var 1)) (.ld (some 11) (.var 6)) [])
 (.seq
 (.store 1 (.offp 0 (.var 5)) (.bin .add (.ld none (.offp 0 (.var 5))) (.var 3)) [])
 (.seq
 (.seq
 (.row (some 7) 83 1 (.upd 0 274 (.const zA10) (.ld (some 274) (.var 5))))
 (.set 4 (.var 7)))
 .ret)))),
  [(.var 4)]⟩
theorem okx_67 : FnOk Tryz.prog 0 125 67 xf67 := fnOk_of Tryz.func67 (np := 4) (V := [0, 1, 2, 3, 8, 4, 6, 20]) (ks := []) (by kernel_rfl)

/- (*tipstaff/verify.checker).onPlace -/
def xf68 : XF := ⟨4, [0, 1, 2, 3, 8, 9, 6, 7, 10, 16, 22, 17, 33, 41, 36, 52, 60, 55, 71],
  (.seq
 (.seq
 (.new (some 6) 75 (.var 2))
 (.seq
 (.new (some 7) 75 (.var 3))
 (.seq
 (.new (some 4) 75 (.const zA4))
 (.set 5 (.const (.bool false))))))
 (.seq
 (.block 0
 (.seq
 (.set 8 (.bin .eql (.var 1) (.const (.int .i64 11))))
 (.cond (.var 8)
 (.seq
 (.seq
 .skip
 (.seq
 (.chk [(.ld (some 11) (.var 7))])
 (.seq
 (.set 9 (.bin .neq (.ld none (.offp 0 (.var 7))) (.const (.int .i64 0))))
 (.seq
 (.store 11 (.var 4) (.ld (some 11) (.var 7)) [(.ld none (.offp 0 (.var 7)))])
 (.set 5 (.var 9))))))
 .ret)
 (.seq
 (.seq
 (.chk [(.pick (.bin .eql (.var 1) (.const (.int .i64 0))) (.ld (some 11) (.var 6)) (.const (.bool false)))])
 (.seq
 (.cond (.pick (.bin .eql (.var 1) (.const (.int .i64 0))) (.const (.bool true)) (.const (.bool false)))
 (.call (some 10) 88 [(.ld (some 11) (.var 6))] [])
 (.clr [10]))
 (.set 11 (.pick (.pick (.bin .eql (.var 1) (.const (.int .i64 0))) (.var 10) (.const (.bool false))) (.bin .eql (.ld none (.offp 0 (.var 7))) (.const (.int .i64 1))) (.const (.bool false))))))
 (.cond (.var 11)
 (.seq
 (.seq
 (.call (some 12) 89 [(.var 0), (.ld (some 11) (.var 6)), (.ld (some 6) (.offp 1 (.var 7))), (.const (.bool false))] [])
 (.seq
 (.chk [(.proj 1 (.var 12))])
 (.seq
 (.store 11 (.var 4) (.proj 0 (.var 12)) [])
 (.set 5 (.proj 1 (.var 12))))))
 .ret)
 (.seq
 (.seq
 (.chk [(.pick (.bin .eql (.var 1) (.const (.int .i64 1))) (.ld (some 11) (.var 6)) (.const (.bool false)))])
 (.seq
 (.cond (.pick (.bin .eql (.var 1) (.const (.int .i64 1))) (.const (.bool true)) (.const (.bool false)))
 (.call (some 13) 88 [(.ld (some 11) (.var 6))] [])
 (.clr [13]))
 (.set 14 (.pick (.pick (.bin .eql (.var 1) (.const (.int .i64 1))) (.var 13) (.const (.bool false))) (.bin .eql (.ld none (.offp 0 (.var 7))) (.const (.int .i64 1))) (.const (.bool false))))))
 (.cond (.var 14)
 (.seq
 (.seq
 (.call (some 15) 89 [(.var 0), (.ld (some 11) (.var 6)), (.ld (some 6) (.offp 1 (.var 7))), (.const (.bool true))] [])
 (.seq
 (.chk [(.proj 1 (.var 15))])
 (.seq
 (.store 11 (.var 4) (.proj 0 (.var 15)) [])
 (.set 5 (.proj 1 (.var 15))))))
 .ret)
 (.seq
 (.seq
 (.chk [(.pick (.bin .eql (.var 1) (.const (.int .i64 0))) (.ld (some 11) (.var 7)) (.const (.bool false)))])
 (.seq
 (.cond (.pick (.bin .eql (.var 1) (.const (.int .i64 0))) (.const (.bool true)) (.const (.bool false)))
 (.call (some 16) 88 [(.ld (some 11) (.var 7))] [])
 (.clr [16]))
 (.set 17 (.pick (.pick (.bin .eql (.var 1) (.const (.int .i64 0))) (.var 16) (.const (.bool false))) (.bin .eql (.ld none (.offp 0 (.var 6))) (.const (.int .i64 1))) (.const (.bool false))))))
 (.cond (.var 17)
 (.seq
 (.seq
 (.call (some 18) 89 [(.var 0), (.ld (some 11) (.var 7)), (.ld (some 6) (.offp 1 (.var 6))), (.const (.bool false))] [])
 (.seq
 (.chk [(.proj 1 (.var 18))])
 (.seq
 (.store 11 (.var 4) (.proj 0 (.var 18)) [])
 (.set 5 (.proj 1 (.var 18))))))
 .ret)
 .skip)))))))))
 (.seq
 (.seq
 (.store 11 (.var 4) (.const zA4) [])
 (.set 5 (.const (.bool false))))
 .ret))),
  [(.ld (some 11) (.var 4)), (.var 5)]⟩
theorem okx_68 : FnOk Tryz.prog 0 125 68 xf68 := fnOk_of Tryz.func68 (np := 4) (V := [0, 1, 2, 3, 8, 9, 6, 7, 10, 16, 22, 17, 33, 41, 36, 52, 60, 55, 71]) (ks := []) (by kernel_rfl)

/- tipstaff/verify.onNumbers -/
def xf69 : XF := ⟨5, [0, 1, 2, 3, 4, 10, 5, 6, 7, 27, 11, 12, 21, 23, 24, 26, 39, 40, 51, 13, 14, 15, 75, 76, 17],
  (.seq
 (.seq
 (.new (some 6) 83 (.var 0))
 (.seq
 (.new (some 7) 27 (.var 1))
 (.seq
 (.new (some 8) 105 (.var 2))
 (.set 5 (.const (.slice none 0 0))))))
 (.seq
 (.seq
 .skip
 (.seq
 (.set 24 (.ld none (.offp 1 (.var 7))))
 (.seq
 (.set 12 (.ld (some 11) (.ixArr 11 11 (.offp 0 (.offp 1 (.var 6))) (.var 24))))
 (.seq
 (.set 13 (.ld (some 273) (.offp 1 (.var 6))))
 (.seq
 (.set 14 (.ld (some 5) (.var 7)))
 (.seq
 (.set 15 (.ld none (.offp 4 (.var 8))))
 (.seq
 (.resv 2)
 (.seq
 (.clr [10, 11])
 (.seq
 (.chk [(.const zA4), (.const zA4)])
 (.seq
 (.call (some 9) 49 [(.var 13), (.var 14), (.var 15)] [(.ld none (.offp 4 (.var 8))), (.ld (some 5) (.var 7)), (.ld (some 273) (.offp 1 (.var 6))), (.ld (some 11) (.ixArr 11 11 (.offp 0 (.offp 1 (.var 6))) (.var 24))), (.ld none (.offp 1 (.var 7)))])
 (.seq
 (.newR 0 10 75 (.const zA4))
 (.seq
 (.newR 1 11 75 (.const zA4))
 (.seq
 (.store 11 (.var 10) (.var 12) [])
 (.seq
 (.store 11 (.var 11) (.var 9) [])
 .skip))))))))))))))
 (.seq
 (.cond (.pick (.ld none (.offp 4 (.var 8))) (.bin .eql (.ld none (.offp 1 (.var 7))) (.ld none (.offp 2 (.var 7)))) (.const (.bool false)))
 (.seq
 (.seq
 (.call (some 16) 44 [(.ld (some 274) (.var 6)), (.var 4)] [])
 (.seq
 (.row (some 17) 83 1 (.upd 0 274 (.const zA10) (.var 16)))
 (.set 5 (.var 17))))
 .ret)
 .skip)
 (.seq
 (.seq
 (.call (some 18) 90 [(.ld none (.offp 1 (.var 8))), (.ld none (.offp 3 (.var 8))), (.ld (some 6) (.offp 1 (.var 10))), (.ld (some 6) (.offp 1 (.var 11))), (.var 3)] [])
 (.seq
 (.chk [(.proj 2 (.var 18)), (.proj 1 (.var 18)), (.proj 0 (.var 18))])
 (.seq
 (.new (some 19) 73 (.const zA2))
 (.seq
 (.new (some 20) 73 (.const zA2))
 (.seq
 (.store 6 (.var 19) (.proj 0 (.var 18)) [])
 (.seq
 (.store 6 (.var 20) (.proj 1 (.var 18)) [])
 (.set 21 (.proj 2 (.var 18)))))))))
 (.seq
 (.cond (.un .not (.var 21))
 (.seq
 (.set 5 (.const (.slice none 0 0)))
 .ret)
 .skip)
 (.seq
 (.store 6 (.offp 1 (.ixArr 11 11 (.offp 0 (.offp 1 (.var 6))) (.ld none (.offp 1 (.var 7))))) (.ld (some 6) (.var 19)) [])
 (.seq
 (.cond (.ld none (.offp 4 (.var 8)))
 (.store 6 (.offp 1 (.ixArr 11 11 (.offp 0 (.offp 1 (.var 6))) (.ld none (.offp 2 (.var 7))))) (.ld (some 6) (.var 20)) [])
 .skip)
 (.seq
 (.seq
 (.call (some 22) 44 [(.ld (some 274) (.var 6)), (.var 4)] [])
 (.seq
 (.row (some 23) 83 1 (.upd 0 274 (.const zA10) (.var 22)))
 (.set 5 (.var 23))))
 .ret)))))))),
  [(.var 5)]⟩
theorem okx_69 : FnOk Tryz.prog 0 125 69 xf69 := fnOk_of Tryz.func69 (np := 5) (V := [0, 1, 2, 3, 4, 10, 5, 6, 7, 27, 11, 12, 21, 23, 24, 26, 39, 40, 51, 13, 14, 15, 75, 76, 17]) (ks := []) (by kernel_rfl)

/- tipstaff/absreg.Settle -/
def xf70 : XF := ⟨3, [0, 1, 2, 6, 3, 14, 13, 8, 7, 22, 28, 27, 10, 9, 36, 49, 11],
  (.seq
 (.seq
 (.new (some 4) 80 (.var 0))
 (.new (some 3) 80 (.const zA9)))
 (.seq
 (.seq
 (.seq
 (.set 6 (.ld (some 121) (.offp 0 (.var 4))))
 (.set 5 (.const (.int .i64 0))))
 (.block 0
 (.loop [1, 2, 3, 4, 5, 6]
 (.seq
 (.cond (.bin .lss (.var 5) (.const (.int .i64 11)))
 .skip
 (.exit 0))
 (.seq
 (.block 1
 (.seq
 (.seq
 (.chk [(.idxAgg (some 11) 11 11 (.var 6) (.var 5))])
 (.seq
 (.new (some 7) 75 (.const zA4))
 (.seq
 (.set 8 (.var 5))
 (.store 11 (.var 7) (.idxAgg (some 11) 11 11 (.var 6) (.var 5)) []))))
 (.seq
 (.chk [(.var 8)])
 (.seq
 (.call (some 9) 91 [(.ld (some 11) (.var 7)), (.var 1), (.var 2)] [])
 (.store 11 (.ixArr 11 11 (.offp 0 (.var 4)) (.var 8)) (.var 9) [])))))
 (.set 5 (.bin .add (.var 5) (.const (.int .i64 1)))))))))
 (.seq
 (.seq
 (.seq
 (.set 11 (.ld (some 88) (.offp 185 (.var 4))))
 (.set 10 (.const (.int .i64 0))))
 (.block 2
 (.loop [1, 2, 3, 4, 10, 11]
 (.seq
 (.cond (.bin .lss (.var 10) (.const (.int .i64 8)))
 .skip
 (.exit 2))
 (.seq
 (.block 3
 (.seq
 (.seq
 (.chk [(.idxAgg (some 11) 11 8 (.var 11) (.var 10))])
 (.seq
 (.new (some 12) 75 (.const zA4))
 (.seq
 (.set 13 (.var 10))
 (.store 11 (.var 12) (.idxAgg (some 11) 11 8 (.var 11) (.var 10)) []))))
 (.seq
 (.seq
 (.chk [(.var 13)])
 (.seq
 (.call (some 14) 91 [(.ld (some 11) (.var 12)), (.var 1), (.var 2)] [])
 (.store 11 (.ixArr 8 11 (.offp 185 (.var 4)) (.var 13)) (.var 14) [])))
 (.seq
 (.cond (.bin .neq (.ld none (.offp 0 (.ixArr 8 11 (.offp 185 (.var 4)) (.var 13)))) (.const (.int .i64 1)))
 (.exit 3)
 .skip)
 (.seq
 (.store 11 (.ixArr 8 11 (.offp 185 (.var 4)) (.var 13)) (.const zA4) [])
 (.seq
 (.set 15 (.const (.int .i64 0)))
 (.block 4
 (.loop [1, 2, 3, 4, 10, 11, 13, 15]
 (.seq
 (.cond (.bin .lss (.var 15) (.const (.int .i64 8)))
 .skip
 (.exit 4))
 (.seq
 (.block 5
 (.seq
 (.set 16 (.var 15))
 (.store 1 (.ixArr 64 1 (.offp 121 (.var 4)) (.bin .add (.bin .mul (.var 13) (.const (.int .i64 8))) (.var 16))) (.const (.bool true)) [])))
 (.set 15 (.bin .add (.var 15) (.const (.int .i64 1))))))))))))))
 (.set 10 (.bin .add (.var 10) (.const (.int .i64 1)))))))))
 (.seq
 (.store 273 (.var 3) (.ld (some 273) (.var 4)) [])
 .ret)))),
  [(.ld (some 273) (.var 3))]⟩
theorem okx_70 : FnOk Tryz.prog 0 125 70 xf70 := fnOk_of Tryz.func70 (np := 3) (V := [0, 1, 2, 6, 3, 14, 13, 8, 7, 22, 28, 27, 10, 9, 36, 49, 11]) (ks := [[1, 2, 3, 4, 5, 6], [1, 2, 3, 4, 10, 11], [1, 2, 3, 4, 10, 11, 13, 15]]) (by kernel_rfl)

/- tipstaff/verify.unknown -/
def xf71 : XF := ⟨1, [0, 2, 3, 5],
  (.seq
 (.new (some 1) 75 (.const zA4))
 (.seq
 (.seq
 (.call (some 2) 92 [] [])
 (.seq
 (.call (some 3) 87 [(.var 2), (.var 0)] [])
 (.seq
 (.chk [(.upd 1 6 (.upd 0 1 (.const zA4) (.const (.int .i64 1))) (.var 3))])
 (.store 11 (.var 1) (.upd 1 6 (.upd 0 1 (.const zA4) (.const (.int .i64 1))) (.var 3)) []))))
 .ret)),
  [(.ld (some 11) (.var 1))]⟩
theorem okx_71 : FnOk Tryz.prog 0 125 71 xf71 := fnOk_of Tryz.func71 (np := 1) (V := [0, 2, 3, 5]) (ks := []) (by kernel_rfl)

/- tipstaff/verify.called -/
def xf72 : XF := ⟨2, [0, 1, 4, 2, 3, 5],
  (.seq
 (.seq
 (.new (some 3) 80 (.var 0))
 (.seq
 (.new (some 4) 75 (.var 1))
 (.new (some 2) 80 (.const zA9))))
 (.seq
 (.seq
 (.set 5 (.const (.int .i64 1)))
 (.block 0
 (.loop [2, 3, 4, 5]
 (.seq
 (.cond (.bin .leq (.var 5) (.const (.int .i64 5)))
 .skip
 (.exit 0))
 (.seq
 (.block 1
 (.store 11 (.ixArr 11 11 (.offp 0 (.var 3)) (.var 5)) (.const zA4) []))
 (.set 5 (.bin .add (.var 5) (.const (.int .i64 1)))))))))
 (.seq
 (.store 11 (.ixArr 11 11 (.offp 0 (.var 3)) (.const (.int .i64 0))) (.ld (some 11) (.var 4)) [])
 (.seq
 (.store 273 (.var 2) (.ld (some 273) (.var 3)) [])
 .ret)))),
  [(.ld (some 273) (.var 2))]⟩
theorem okx_72 : FnOk Tryz.prog 0 125 72 xf72 := fnOk_of Tryz.func72 (np := 2) (V := [0, 1, 4, 2, 3, 5]) (ks := [[2, 3, 4, 5]]) (by kernel_rfl)

/- (*tipstaff/verify.checker).spec -/
def xf73 : XF := ⟨2, [0, 1, 4, 5],
  (.seq
 (.seq
 (.new (some 2) 53 (.const (.agg (Array.replicate 4 (.int .i64 0)))))
 (.set 3 (.const (.bool false))))
 (.seq
 (.cond (.pick (.bin .lss (.var 1) (.const (.int .i64 0))) (.const (.bool true)) (.bin .geq (.var 1) (.len false (.ld none (.offp 0 (.offp 1 (.nn (.var 0))))))))
 (.seq
 (.seq
 (.store 4 (.var 2) (.const (.agg (Array.replicate 4 (.int .i64 0)))) [])
 (.set 3 (.const (.bool false))))
 .ret)
 .skip)
 (.seq
 (.seq
 (.store 4 (.var 2) (.ld (some 4) (.ixSl 4 (.ld none (.offp 0 (.offp 1 (.nn (.var 0))))) (.var 1))) [])
 (.set 3 (.const (.bool true))))
 .ret))),
  [(.ld (some 4) (.var 2)), (.var 3)]⟩
theorem okx_73 : FnOk Tryz.prog 0 125 73 xf73 := fnOk_of Tryz.func73 (np := 2) (V := [0, 1, 4, 5]) (ks := []) (by kernel_rfl)

/- (*tipstaff/verify.checker).arguments -/
def xf74 : XF := ⟨5, [0, 1, 2, 3, 4, 10, 6, 9, 19, 11, 20, 21, 24, 29, 32, 40, 48, 51, 59, 70, 79, 82, 86, 97, 106, 109, 113, 116, 119],
  (.seq
 (.seq
 (.new (some 6) 80 (.var 1))
 (.seq
 (.new (some 7) 53 (.var 4))
 (.set 5 (.const (.bool false)))))
 (.seq
 (.seq
 (.call (some 8) 77 [(.var 0), (.ld (some 273) (.var 6)), (.ld (some 11) (.ixArr 11 11 (.offp 0 (.var 6)) (.const (.int .i64 2)))), (.const (.int .i64 0)), (.ld none (.offp 1 (.var 7)))] [])
 (.set 9 (.var 8)))
 (.seq
 (.seq
 (.set 10 (.var 2))
 (.block 0
 (.seq
 (.set 11 (.bin .eql (.var 10) (.const (.int .i32 1))))
 (.cond (.var 11)
 (.seq
 (.seq
 (.call (some 12) 93 [(.ld (some 4) (.var 7))] [])
 (.set 5 (.pick (.un .not (.var 12)) (.var 9) (.const (.bool false)))))
 .ret)
 (.seq
 (.set 13 (.bin .eql (.var 10) (.const (.int .i32 3))))
 (.cond (.var 13)
 (.seq
 (.seq
 (.call (some 14) 93 [(.ld (some 4) (.var 7))] [])
 (.seq
 (.chk [(.pick (.pick (.un .not (.var 14)) (.var 9) (.const (.bool false))) (.var 3) (.const (.bool false))), (.pick (.pick (.un .not (.var 14)) (.var 9) (.const (.bool false))) (.var 0) (.const (.bool false)))])
 (.seq
 (.cond (.pick (.pick (.un .not (.var 14)) (.var 9) (.const (.bool false))) (.const (.bool true)) (.const (.bool false)))
 (.call (some 15) 94 [(.var 0), (.var 3)] [])
 (.clr [15]))
 (.set 5 (.pick (.pick (.pick (.un .not (.var 14)) (.var 9) (.const (.bool false))) (.un .not (.var 15)) (.const (.bool false))) (.bin .neq (.ld none (.offp 0 (.var 7))) (.const (.int .i64 0))) (.const (.bool false)))))))
 .ret)
 (.seq
 (.set 16 (.bin .eql (.var 10) (.const (.int .i32 2))))
 (.cond (.var 16)
 (.seq
 (.seq
 (.call (some 17) 93 [(.ld (some 4) (.var 7))] [])
 (.seq
 (.chk [(.pick (.pick (.un .not (.var 17)) (.var 9) (.const (.bool false))) (.var 3) (.const (.bool false))), (.pick (.pick (.un .not (.var 17)) (.var 9) (.const (.bool false))) (.var 0) (.const (.bool false)))])
 (.seq
 (.cond (.pick (.pick (.un .not (.var 17)) (.var 9) (.const (.bool false))) (.const (.bool true)) (.const (.bool false)))
 (.call (some 18) 94 [(.var 0), (.var 3)] [])
 (.clr [18]))
 (.seq
 (.chk [(.pick (.pick (.pick (.un .not (.var 17)) (.var 9) (.const (.bool false))) (.un .not (.var 18)) (.const (.bool false))) (.ld none (.offp 2 (.var 7))) (.const (.bool false))), (.pick (.pick (.pick (.un .not (.var 17)) (.var 9) (.const (.bool false))) (.un .not (.var 18)) (.const (.bool false))) (.ld (some 11) (.ixArr 11 11 (.offp 0 (.var 6)) (.const (.int .i64 3)))) (.const (.bool false))), (.pick (.pick (.pick (.un .not (.var 17)) (.var 9) (.const (.bool false))) (.un .not (.var 18)) (.const (.bool false))) (.ld (some 273) (.var 6)) (.const (.bool false))), (.pick (.pick (.pick (.un .not (.var 17)) (.var 9) (.const (.bool false))) (.un .not (.var 18)) (.const (.bool false))) (.var 0) (.const (.bool false)))])
 (.seq
 (.cond (.pick (.pick (.pick (.un .not (.var 17)) (.var 9) (.const (.bool false))) (.un .not (.var 18)) (.const (.bool false))) (.const (.bool true)) (.const (.bool false)))
 (.call (some 19) 77 [(.var 0), (.ld (some 273) (.var 6)), (.ld (some 11) (.ixArr 11 11 (.offp 0 (.var 6)) (.const (.int .i64 3)))), (.const (.int .i64 0)), (.ld none (.offp 2 (.var 7)))] [])
 (.clr [19]))
 (.set 5 (.pick (.pick (.pick (.pick (.un .not (.var 17)) (.var 9) (.const (.bool false))) (.un .not (.var 18)) (.const (.bool false))) (.var 19) (.const (.bool false))) (.bin .eql (.ld none (.offp 0 (.ixArr 11 11 (.offp 0 (.var 6)) (.const (.int .i64 4))))) (.const (.int .i64 1))) (.const (.bool false)))))))))
 .ret)
 (.seq
 (.set 20 (.bin .eql (.var 10) (.const (.int .i32 87))))
 (.cond (.var 20)
 (.seq
 (.seq
 (.call (some 21) 93 [(.ld (some 4) (.var 7))] [])
 (.seq
 (.chk [(.pick (.var 21) (.var 3) (.const (.bool false))), (.pick (.var 21) (.var 0) (.const (.bool false)))])
 (.seq
 (.cond (.pick (.var 21) (.const (.bool true)) (.const (.bool false)))
 (.call (some 22) 94 [(.var 0), (.var 3)] [])
 (.clr [22]))
 (.seq
 (.chk [(.pick (.pick (.var 21) (.un .not (.var 22)) (.const (.bool false))) (.ld none (.offp 2 (.var 7))) (.const (.bool false))), (.pick (.pick (.var 21) (.un .not (.var 22)) (.const (.bool false))) (.ld (some 11) (.ixArr 11 11 (.offp 0 (.var 6)) (.const (.int .i64 2)))) (.const (.bool false))), (.pick (.pick (.var 21) (.un .not (.var 22)) (.const (.bool false))) (.ld (some 273) (.var 6)) (.const (.bool false))), (.pick (.pick (.var 21) (.un .not (.var 22)) (.const (.bool false))) (.var 0) (.const (.bool false)))])
 (.seq
 (.cond (.pick (.pick (.var 21) (.un .not (.var 22)) (.const (.bool false))) (.const (.bool true)) (.const (.bool false)))
 (.call (some 23) 77 [(.var 0), (.ld (some 273) (.var 6)), (.ld (some 11) (.ixArr 11 11 (.offp 0 (.var 6)) (.const (.int .i64 2)))), (.const (.int .i64 0)), (.ld none (.offp 2 (.var 7)))] [])
 (.clr [23]))
 (.set 5 (.pick (.pick (.pick (.var 21) (.un .not (.var 22)) (.const (.bool false))) (.var 23) (.const (.bool false))) (.bin .eql (.ld none (.offp 0 (.ixArr 11 11 (.offp 0 (.var 6)) (.const (.int .i64 3))))) (.const (.int .i64 1))) (.const (.bool false)))))))))
 .ret)
 (.seq
 (.set 24 (.bin .eql (.var 10) (.const (.int .i32 88))))
 (.cond (.var 24)
 (.seq
 (.seq
 (.call (some 25) 93 [(.ld (some 4) (.var 7))] [])
 (.seq
 (.chk [(.pick (.var 25) (.var 3) (.const (.bool false))), (.pick (.var 25) (.var 0) (.const (.bool false)))])
 (.seq
 (.cond (.pick (.var 25) (.const (.bool true)) (.const (.bool false)))
 (.call (some 26) 94 [(.var 0), (.var 3)] [])
 (.clr [26]))
 (.set 5 (.pick (.var 25) (.un .not (.var 26)) (.const (.bool false)))))))
 .ret)
 (.seq
 (.set 27 (.bin .eql (.var 10) (.const (.int .i32 89))))
 (.cond (.var 27)
 (.seq
 (.seq
 (.call (some 28) 93 [(.ld (some 4) (.var 7))] [])
 (.set 5 (.var 28)))
 .ret)
 .skip))))))))))))))
 (.seq
 (.set 5 (.const (.bool false)))
 .ret)))),
  [(.var 5)]⟩
theorem okx_74 : FnOk Tryz.prog 0 125 74 xf74 := fnOk_of Tryz.func74 (np := 5) (V := [0, 1, 2, 3, 4, 10, 6, 9, 19, 11, 20, 21, 24, 29, 32, 40, 48, 51, 59, 70, 79, 82, 86, 97, 106, 109, 113, 116, 119]) (ks := []) (by kernel_rfl)

/- (*tipstaff/verify.checker).filled -/
def xf75 : XF := ⟨4, [0, 1, 2, 3, 8, 9, 5, 10, 16, 20, 28, 27, 11, 12, 37, 32, 36, 38],
  (.seq
 (.seq
 (.new (some 6) 80 (.var 1))
 (.seq
 (.new (some 4) 80 (.const zA9))
 (.set 5 (.const (.bool false)))))
 (.seq
 (.seq
 (.set 8 (.ld (some 11) (.ixArr 11 11 (.offp 0 (.var 6)) (.var 2))))
 (.seq
 (.new (some 7) 75 (.const zA4))
 (.store 11 (.var 7) (.var 8) [])))
 (.seq
 (.seq
 (.call (some 9) 78 [(.var 0), (.ld (some 11) (.var 7)), (.const (.int .i64 0)), (.var 3)] [])
 (.cond (.un .not (.var 9))
 (.seq
 (.seq
 (.store 273 (.var 4) (.ld (some 273) (.var 6)) [])
 (.set 5 (.const (.bool false))))
 .ret)
 .skip))
 (.seq
 (.cond (.bin .neq (.ld none (.offp 0 (.var 7))) (.const (.int .i64 3)))
 (.seq
 (.seq
 (.store 273 (.var 4) (.ld (some 273) (.var 6)) [])
 (.set 5 (.const (.bool true))))
 .ret)
 .skip)
 (.seq
 (.seq
 (.seq
 (.set 11 (.var 3))
 (.set 10 (.const (.int .i64 0))))
 (.block 0
 (.loop [4, 6, 7, 10, 11]
 (.seq
 (.cond (.bin .lss (.var 10) (.var 11))
 .skip
 (.exit 0))
 (.seq
 (.block 1
 (.seq
 (.set 12 (.var 10))
 (.seq
 (.set 13 (.const (.bool false)))
 (.seq
 (.seq
 .skip
 (.seq
 (.set 15 (.ld (some 273) (.var 6)))
 (.seq
 (.set 16 (.bin .add (.ld none (.offp 9 (.var 7))) (.var 12)))
 (.seq
 (.call (some 14) 65 [(.const (.int .u64 0))] [(.ld none (.offp 9 (.var 7))), (.ld (some 273) (.var 6))])
 (.seq
 (.call (some 17) 79 [(.var 15), (.var 16), (.const (.int .i64 1)), (.var 14)] [])
 (.seq
 (.chk [(.proj 1 (.var 17))])
 (.seq
 (.store 273 (.var 6) (.proj 0 (.var 17)) [])
 (.set 13 (.proj 1 (.var 17))))))))))
 (.cond (.un .not (.var 13))
 (.seq
 (.seq
 (.store 273 (.var 4) (.ld (some 273) (.var 6)) [])
 (.set 5 (.const (.bool false))))
 .ret)
 .skip)))))
 (.set 10 (.bin .add (.var 10) (.const (.int .i64 1)))))))))
 (.seq
 (.seq
 (.store 273 (.var 4) (.ld (some 273) (.var 6)) [])
 (.set 5 (.const (.bool true))))
 .ret)))))),
  [(.ld (some 273) (.var 4)), (.var 5)]⟩
theorem okx_75 : FnOk Tryz.prog 0 125 75 xf75 := fnOk_of Tryz.func75 (np := 4) (V := [0, 1, 2, 3, 8, 9, 5, 10, 16, 20, 28, 27, 11, 12, 37, 32, 36, 38]) (ks := [[4, 6, 7, 10, 11]]) (by kernel_rfl)

/- tipstaff/absreg.Load -/
def xf76 : XF := ⟨3, [0, 1, 2, 6, 7, 3, 13, 8, 9, 17, 48, 51, 53],
  (.seq
 (.seq
 (.new (some 5) 80 (.var 0))
 (.seq
 (.new (some 3) 75 (.const zA4))
 (.set 4 (.const (.bool false)))))
 (.seq
 (.seq
 (.call (some 6) 95 [(.var 1), (.var 2)] [])
 (.seq
 (.chk [(.proj 1 (.var 6))])
 (.seq
 (.set 7 (.proj 0 (.var 6)))
 (.set 8 (.proj 1 (.var 6))))))
 (.seq
 (.seq
 (.call (some 9) 96 [(.var 2)] [])
 (.cond (.pick (.un .not (.var 9)) (.const (.bool true)) (.un .not (.var 8)))
 (.seq
 (.seq
 (.store 11 (.var 3) (.const zA4) [])
 (.set 4 (.const (.bool false))))
 .ret)
 .skip))
 (.seq
 (.cond (.pick (.pick (.bin .eql (.var 2) (.const (.int .i64 8))) (.bin .eql (.bin .rem (.var 7) (.const (.int .i64 8))) (.const (.int .i64 0))) (.const (.bool false))) (.bin .neq (.ld none (.offp 0 (.ixArr 8 11 (.offp 185 (.var 5)) (.bin .quo (.var 7) (.const (.int .i64 8)))))) (.const (.int .i64 0))) (.const (.bool false)))
 (.seq
 (.seq
 (.store 11 (.var 3) (.ld (some 11) (.ixArr 8 11 (.offp 185 (.var 5)) (.bin .quo (.var 7) (.const (.int .i64 8))))) [])
 (.set 4 (.const (.bool true))))
 .ret)
 .skip)
 (.seq
 (.seq
 (.call (some 10) 97 [(.ld (some 273) (.var 5)), (.var 1), (.var 2)] [])
 (.cond (.un .not (.var 10))
 (.seq
 (.seq
 (.store 11 (.var 3) (.const zA4) [])
 (.set 4 (.const (.bool false))))
 .ret)
 .skip))
 (.seq
 (.seq
 (.call (some 11) 92 [] [])
 (.seq
 (.call (some 12) 87 [(.var 11), (.var 2)] [])
 (.seq
 (.chk [(.upd 1 6 (.upd 0 1 (.const zA4) (.const (.int .i64 1))) (.var 12))])
 (.seq
 (.store 11 (.var 3) (.upd 1 6 (.upd 0 1 (.const zA4) (.const (.int .i64 1))) (.var 12)) [])
 (.set 4 (.const (.bool true)))))))
 .ret)))))),
  [(.ld (some 11) (.var 3)), (.var 4)]⟩
theorem okx_76 : FnOk Tryz.prog 0 125 76 xf76 := fnOk_of Tryz.func76 (np := 3) (V := [0, 1, 2, 6, 7, 3, 13, 8, 9, 17, 48, 51, 53]) (ks := []) (by kernel_rfl)

/- (*tipstaff/verify.checker).reads -/
def xf77 : XF := ⟨5, [0, 1, 2, 3, 4, 10, 6, 7, 14, 15, 20, 21, 29, 30, 36, 11, 12, 46],
  (.seq
 (.seq
 (.new (some 6) 80 (.var 1))
 (.seq
 (.new (some 7) 75 (.var 2))
 (.set 5 (.const (.bool false)))))
 (.seq
 (.seq
 (.set 8 (.ld none (.offp 0 (.var 7))))
 (.block 0
 (.seq
 (.set 9 (.bin .eql (.var 8) (.const (.int .i64 2))))
 (.cond (.var 9)
 (.seq
 (.seq
 (.call (some 10) 98 [(.ld (some 11) (.var 7)), (.var 3), (.var 4), (.const (.int .i64 0)), (.const (.int .i64 32))] [])
 (.set 5 (.var 10)))
 .ret)
 (.seq
 (.set 11 (.bin .eql (.var 8) (.const (.int .i64 3))))
 (.cond (.var 11)
 (.seq
 (.seq
 (.call (some 12) 97 [(.ld (some 273) (.var 6)), (.bin .add (.ld none (.offp 9 (.var 7))) (.var 3)), (.var 4)] [])
 (.set 5 (.var 12)))
 .ret)
 (.seq
 (.set 13 (.bin .eql (.var 8) (.const (.int .i64 5))))
 (.cond (.var 13)
 (.seq
 (.seq
 (.call (some 14) 73 [(.var 0), (.ld none (.offp 7 (.var 7)))] [])
 (.seq
 (.chk [(.proj 1 (.var 14)), (.proj 0 (.var 14))])
 (.seq
 (.new (some 15) 53 (.const (.agg (Array.replicate 4 (.int .i64 0)))))
 (.seq
 (.store 4 (.var 15) (.proj 0 (.var 14)) [])
 (.set 16 (.proj 1 (.var 14)))))))
 (.seq
 (.seq
 (.chk [(.pick (.var 16) (.ld none (.offp 2 (.var 15))) (.const (.bool false))), (.pick (.var 16) (.var 4) (.const (.bool false))), (.pick (.var 16) (.var 3) (.const (.bool false))), (.pick (.var 16) (.ld (some 11) (.var 7)) (.const (.bool false)))])
 (.seq
 (.cond (.pick (.var 16) (.const (.bool true)) (.const (.bool false)))
 (.call (some 17) 98 [(.ld (some 11) (.var 7)), (.var 3), (.var 4), (.const (.int .i64 0)), (.ld none (.offp 2 (.var 15)))] [])
 (.clr [17]))
 (.set 5 (.pick (.var 16) (.var 17) (.const (.bool false))))))
 .ret))
 .skip))))))))
 (.seq
 (.set 5 (.const (.bool false)))
 .ret))),
  [(.var 5)]⟩
theorem okx_77 : FnOk Tryz.prog 0 125 77 xf77 := fnOk_of Tryz.func77 (np := 5) (V := [0, 1, 2, 3, 4, 10, 6, 7, 14, 15, 20, 21, 29, 30, 36, 11, 12, 46]) (ks := []) (by kernel_rfl)

/- (*tipstaff/verify.checker).writes -/
def xf78 : XF := ⟨4, [0, 1, 2, 3, 8, 5, 12, 13, 18, 19, 25, 9, 10, 33, 42],
  (.seq
 (.seq
 (.new (some 5) 75 (.var 1))
 (.set 4 (.const (.bool false))))
 (.seq
 (.seq
 (.set 6 (.ld none (.offp 0 (.var 5))))
 (.block 0
 (.seq
 (.set 7 (.bin .eql (.var 6) (.const (.int .i64 3))))
 (.cond (.var 7)
 (.seq
 (.seq
 (.call (some 8) 98 [(.ld (some 11) (.var 5)), (.var 2), (.var 3), (.const (.int .i64 (-64))), (.const (.int .i64 0))] [])
 (.set 4 (.var 8)))
 .ret)
 (.seq
 (.set 9 (.bin .eql (.var 6) (.const (.int .i64 5))))
 (.cond (.var 9)
 (.seq
 (.seq
 (.call (some 10) 73 [(.var 0), (.ld none (.offp 7 (.var 5)))] [])
 (.seq
 (.chk [(.proj 1 (.var 10)), (.proj 0 (.var 10))])
 (.seq
 (.new (some 11) 53 (.const (.agg (Array.replicate 4 (.int .i64 0)))))
 (.seq
 (.store 4 (.var 11) (.proj 0 (.var 10)) [])
 (.set 12 (.proj 1 (.var 10)))))))
 (.seq
 (.seq
 (.chk [(.pick (.var 12) (.ld none (.offp 7 (.var 5))) (.const (.bool false))), (.pick (.var 12) (.var 0) (.const (.bool false)))])
 (.seq
 (.cond (.pick (.var 12) (.const (.bool true)) (.const (.bool false)))
 (.call (some 13) 94 [(.var 0), (.ld none (.offp 7 (.var 5)))] [])
 (.clr [13]))
 (.seq
 (.chk [(.pick (.pick (.var 12) (.un .not (.var 13)) (.const (.bool false))) (.ld none (.offp 2 (.var 11))) (.const (.bool false))), (.pick (.pick (.var 12) (.un .not (.var 13)) (.const (.bool false))) (.var 3) (.const (.bool false))), (.pick (.pick (.var 12) (.un .not (.var 13)) (.const (.bool false))) (.var 2) (.const (.bool false))), (.pick (.pick (.var 12) (.un .not (.var 13)) (.const (.bool false))) (.ld (some 11) (.var 5)) (.const (.bool false)))])
 (.seq
 (.cond (.pick (.pick (.var 12) (.un .not (.var 13)) (.const (.bool false))) (.const (.bool true)) (.const (.bool false)))
 (.call (some 14) 98 [(.ld (some 11) (.var 5)), (.var 2), (.var 3), (.const (.int .i64 0)), (.ld none (.offp 2 (.var 11)))] [])
 (.clr [14]))
 (.set 4 (.pick (.pick (.var 12) (.un .not (.var 13)) (.const (.bool false))) (.var 14) (.const (.bool false))))))))
 .ret))
 .skip))))))
 (.seq
 (.set 4 (.const (.bool false)))
 .ret))),
  [(.var 4)]⟩
theorem okx_78 : FnOk Tryz.prog 0 125 78 xf78 := fnOk_of Tryz.func78 (np := 4) (V := [0, 1, 2, 3, 8, 5, 12, 13, 18, 19, 25, 9, 10, 33, 42]) (ks := []) (by kernel_rfl)

/- tipstaff/absreg.Save -/
def xf79 : XF := ⟨4, [0, 1, 2, 3, 8, 9, 4, 7, 19, 10, 11, 12, 30, 13, 14, 15],
  (.seq
 (.seq
 (.new (some 6) 80 (.var 0))
 (.seq
 (.new (some 7) 75 (.var 3))
 (.seq
 (.new (some 4) 80 (.const zA9))
 (.set 5 (.const (.bool false))))))
 (.seq
 (.seq
 (.call (some 8) 95 [(.var 1), (.var 2)] [])
 (.seq
 (.chk [(.proj 1 (.var 8))])
 (.seq
 (.set 9 (.proj 0 (.var 8)))
 (.set 10 (.proj 1 (.var 8))))))
 (.seq
 (.set 11 (.pick (.bin .eql (.var 2) (.const (.int .i64 8))) (.bin .eql (.bin .rem (.var 9) (.const (.int .i64 8))) (.const (.int .i64 0))) (.const (.bool false))))
 (.seq
 (.seq
 (.call (some 12) 96 [(.var 2)] [])
 (.cond (.pick (.pick (.pick (.un .not (.var 12)) (.const (.bool true)) (.un .not (.var 10))) (.const (.bool true)) (.bin .eql (.ld none (.offp 0 (.var 7))) (.const (.int .i64 0)))) (.const (.bool true)) (.pick (.bin .neq (.ld none (.offp 0 (.var 7))) (.const (.int .i64 1))) (.un .not (.var 11)) (.const (.bool false))))
 (.seq
 (.seq
 (.store 273 (.var 4) (.ld (some 273) (.var 6)) [])
 (.set 5 (.const (.bool false))))
 .ret)
 .skip))
 (.seq
 (.seq
 (.set 13 (.var 9))
 (.block 0
 (.loop [2, 4, 6, 7, 9, 13]
 (.seq
 (.cond (.bin .lss (.var 13) (.bin .add (.var 9) (.var 2)))
 .skip
 (.exit 0))
 (.seq
 (.block 1
 (.seq
 (.set 14 (.bin .quo (.var 13) (.const (.int .i64 8))))
 (.seq
 (.cond (.bin .eql (.ld none (.offp 0 (.ixArr 8 11 (.offp 185 (.var 6)) (.var 14)))) (.const (.int .i64 0)))
 (.exit 1)
 .skip)
 (.seq
 (.store 11 (.ixArr 8 11 (.offp 185 (.var 6)) (.var 14)) (.const zA4) [])
 (.clear [(.bool false)] (.slArr 64 1 (.offp 121 (.var 6)) (.bin .mul (.var 14) (.const (.int .i64 8))) (.bin .mul (.bin .add (.var 14) (.const (.int .i64 1))) (.const (.int .i64 8)))) [])))))
 (.set 13 (.bin .add (.var 13) (.const (.int .i64 1)))))))))
 (.seq
 (.seq
 (.set 15 (.var 9))
 (.block 2
 (.loop [2, 4, 6, 7, 9, 15]
 (.seq
 (.cond (.bin .lss (.var 15) (.bin .add (.var 9) (.var 2)))
 .skip
 (.exit 2))
 (.seq
 (.block 3
 (.store 1 (.ixArr 64 1 (.offp 121 (.var 6)) (.var 15)) (.bin .eql (.ld none (.offp 0 (.var 7))) (.const (.int .i64 1))) []))
 (.set 15 (.bin .add (.var 15) (.const (.int .i64 1)))))))))
 (.seq
 (.cond (.bin .neq (.ld none (.offp 0 (.var 7))) (.const (.int .i64 1)))
 (.store 11 (.ixArr 8 11 (.offp 185 (.var 6)) (.bin .quo (.var 9) (.const (.int .i64 8)))) (.ld (some 11) (.var 7)) [])
 .skip)
 (.seq
 (.seq
 (.store 273 (.var 4) (.ld (some 273) (.var 6)) [])
 (.set 5 (.const (.bool true))))
 .ret)))))))),
  [(.ld (some 273) (.var 4)), (.var 5)]⟩
theorem okx_79 : FnOk Tryz.prog 0 125 79 xf79 := fnOk_of Tryz.func79 (np := 4) (V := [0, 1, 2, 3, 8, 9, 4, 7, 19, 10, 11, 12, 30, 13, 14, 15]) (ks := [[2, 4, 6, 7, 9, 13], [2, 4, 6, 7, 9, 15]]) (by kernel_rfl)

/- tipstaff/cfg.Next -/
def xf80 : XF := ⟨2, [0, 1, 4, 2, 18, 20],
  (.seq
 (.seq
 (.new (some 3) 28 (.var 0))
 (.set 2 (.const (.slice none 0 0))))
 (.seq
 (.cond (.pick (.bin .lss (.var 1) (.const (.int .i64 0))) (.const (.bool true)) (.bin .geq (.var 1) (.len false (.ld none (.var 3)))))
 (.seq
 (.set 2 (.const (.slice none 0 0)))
 .ret)
 .skip)
 (.seq
 (.seq
 (.call (some 4) 100 [(.var 1), (.ld (some 5) (.ixSl 5 (.ld none (.var 3)) (.var 1)))] [])
 (.seq
 (.chk [(.cap1 (.const (.func (.func 101) #[] #[])) (.var 3))])
 (.seq
 (.call (some 5) 99 [(.var 4), (.cap1 (.const (.func (.func 101) #[] #[])) (.var 3))] [])
 (.set 2 (.var 5)))))
 .ret))),
  [(.var 2)]⟩
theorem okx_80 : FnOk Tryz.prog 0 125 80 xf80 := fnOk_of Tryz.func80 (np := 2) (V := [0, 1, 4, 2, 18, 20]) (ks := []) (by kernel_rfl)

/- tipstaff/scalar.Within -/
def xf81 : XF := ⟨2, [0, 1, 4, 2, 3, 5, 6, 40],
  (.seq
 (.seq
 (.new (some 3) 73 (.var 0))
 (.seq
 (.new (some 4) 73 (.var 1))
 (.set 2 (.const (.bool false)))))
 (.seq
 (.set 5 (.pick (.bin .geq (.ld none (.offp 2 (.var 3))) (.ld none (.offp 2 (.var 4)))) (.bin .leq (.ld none (.offp 3 (.var 3))) (.ld none (.offp 3 (.var 4)))) (.const (.bool false))))
 (.seq
 (.set 6 (.pick (.bin .geq (.ld none (.offp 4 (.var 3))) (.ld none (.offp 4 (.var 4)))) (.bin .leq (.ld none (.offp 5 (.var 3))) (.ld none (.offp 5 (.var 4)))) (.const (.bool false))))
 (.seq
 (.seq
 (.chk [(.pick (.pick (.var 5) (.var 6) (.const (.bool false))) (.ld (some 2) (.offp 0 (.var 4))) (.const (.bool false))), (.pick (.pick (.var 5) (.var 6) (.const (.bool false))) (.ld (some 2) (.offp 0 (.var 3))) (.const (.bool false)))])
 (.seq
 (.cond (.pick (.pick (.var 5) (.var 6) (.const (.bool false))) (.const (.bool true)) (.const (.bool false)))
 (.call (some 7) 102 [(.ld (some 2) (.offp 0 (.var 3))), (.ld (some 2) (.offp 0 (.var 4)))] [])
 (.clr [7]))
 (.set 2 (.pick (.pick (.var 5) (.var 6) (.const (.bool false))) (.var 7) (.const (.bool false))))))
 .ret)))),
  [(.var 2)]⟩
theorem okx_81 : FnOk Tryz.prog 0 125 81 xf81 := fnOk_of Tryz.func81 (np := 2) (V := [0, 1, 4, 2, 3, 5, 6, 40]) (ks := []) (by kernel_rfl)

/- (*tipstaff/absreg.ids).maybe -/
def xf82 : XF := ⟨3, [0, 1, 2, 6, 4, 5, 16, 7, 8, 30],
  (.seq
 (.seq
 (.new (some 4) 75 (.var 1))
 (.seq
 (.new (some 5) 75 (.var 2))
 (.set 3 (.const (.bool false)))))
 (.seq
 (.seq
 .skip
 (.seq
 (.look (some 6) (.int .i64 0) true .i64 (.ld none (.offp 0 (.nn (.var 0)))) (.ld none (.offp 8 (.var 4))) [])
 (.seq
 (.chk [(.proj 1 (.var 6))])
 (.seq
 (.set 7 (.proj 0 (.var 6)))
 (.set 8 (.proj 1 (.var 6)))))))
 (.seq
 (.cond (.var 8)
 (.seq
 (.set 3 (.bin .eql (.var 7) (.ld none (.offp 8 (.var 5)))))
 .ret)
 .skip)
 (.seq
 (.cond (.isnil 4 false (.ld none (.offp 0 (.nn (.var 0)))))
 (.seq
 (.chk [(.var 0)])
 (.seq
 (.mkmap (some 9) .i64 [])
 (.store 1 (.offp 0 (.nn (.var 0))) (.var 9) [])))
 .skip)
 (.seq
 (.seq
 .skip
 (.upd .i64 (.ld none (.offp 0 (.nn (.var 0)))) (.ld none (.offp 8 (.var 4))) (.ld none (.offp 8 (.var 5))) []))
 (.seq
 (.set 3 (.const (.bool true)))
 .ret)))))),
  [(.var 3)]⟩
theorem okx_82 : FnOk Tryz.prog 0 125 82 xf82 := fnOk_of Tryz.func82 (np := 3) (V := [0, 1, 2, 6, 4, 5, 16, 7, 8, 30]) (ks := []) (by kernel_rfl)

/- tipstaff/scalar.Const -/
def xf83 : XF := ⟨1, [0, 2, 4],
  (.seq
 (.new (some 1) 73 (.const zA2))
 (.seq
 (.seq
 (.call (some 2) 103 [(.var 0)] [])
 (.seq
 (.chk [(.upd 5 1 (.upd 4 1 (.upd 3 1 (.upd 2 1 (.upd 0 2 (.const zA2) (.var 2)) (.var 0)) (.var 0)) (.conv .i64 (.var 0))) (.conv .i64 (.var 0)))])
 (.store 6 (.var 1) (.upd 5 1 (.upd 4 1 (.upd 3 1 (.upd 2 1 (.upd 0 2 (.const zA2) (.var 2)) (.var 0)) (.var 0)) (.conv .i64 (.var 0))) (.conv .i64 (.var 0))) [])))
 .ret)),
  [(.ld (some 6) (.var 1))]⟩
theorem okx_83 : FnOk Tryz.prog 0 125 83 xf83 := fnOk_of Tryz.func83 (np := 1) (V := [0, 2, 4]) (ks := []) (by kernel_rfl)

/- tipstaff/scalar.alone -/
def xf84 : XF := ⟨1, [0, 2, 1, 25, 21],
  (.seq
 (.seq
 (.new (some 2) 73 (.var 0))
 (.set 1 (.const (.bool false))))
 (.seq
 (.seq
 (.set 4 (.pick (.pick (.bin .eql (.ld none (.offp 1 (.offp 0 (.var 2)))) (.const (.int .u64 0))) (.bin .eql (.ld none (.offp 2 (.var 2))) (.ld none (.offp 3 (.var 2)))) (.const (.bool false))) (.bin .eql (.ld none (.offp 4 (.var 2))) (.ld none (.offp 5 (.var 2)))) (.const (.bool false))))
 (.seq
 (.chk [(.pick (.var 4) (.ld none (.offp 2 (.var 2))) (.const (.bool false))), (.pick (.var 4) (.ld (some 6) (.var 2)) (.const (.bool false)))])
 (.seq
 (.cond (.pick (.var 4) (.const (.bool true)) (.const (.bool false)))
 (.call (some 3) 104 [(.ld (some 6) (.var 2)), (.ld none (.offp 2 (.var 2)))] [])
 (.clr [3]))
 (.set 1 (.pick (.var 4) (.var 3) (.const (.bool false)))))))
 .ret)),
  [(.var 1)]⟩
theorem okx_84 : FnOk Tryz.prog 0 125 84 xf84 := fnOk_of Tryz.func84 (np := 1) (V := [0, 2, 1, 25, 21]) (ks := []) (by kernel_rfl)

/- tipstaff/scalar.Eval -/
def xf85 : XF := ⟨4, [0, 1, 2, 3, 8, 9, 18, 23, 31, 22],
  (.seq
 (.set 4 (.const (.int .u64 0)))
 (.seq
 (.cond (.un .not (.var 1))
 (.seq
 (.chk [(.conv .u64 (.conv .u32 (.var 3)))])
 (.seq
 (.set 2 (.conv .u64 (.conv .u32 (.var 2))))
 (.set 3 (.conv .u64 (.conv .u32 (.var 3))))))
 .skip)
 (.seq
 (.set 5 (.const (.int .u64 0)))
 (.seq
 (.seq
 (.set 6 (.var 0))
 (.block 0
 (.seq
 (.seq
 (.set 7 (.bin .eql (.var 6) (.const (.int .i64 6))))
 (.cond (.var 7)
 .skip
 (.seq
 (.set 7 (.bin .eql (.var 6) (.const (.int .i64 7))))
 (.cond (.var 7)
 .skip
 (.set 7 (.bin .eql (.var 6) (.const (.int .i64 12))))))))
 (.cond (.var 7)
 (.seq
 (.call (some 8) 105 [(.var 0), (.var 1), (.var 2), (.var 3)] [])
 (.set 5 (.var 8)))
 (.seq
 (.call (some 9) 106 [(.var 0), (.var 2), (.var 3)] [])
 (.set 5 (.var 9)))))))
 (.seq
 (.cond (.un .not (.var 1))
 (.set 5 (.conv .u64 (.conv .u32 (.var 5))))
 .skip)
 (.seq
 (.set 4 (.var 5))
 .ret)))))),
  [(.var 4)]⟩
theorem okx_85 : FnOk Tryz.prog 0 125 85 xf85 := fnOk_of Tryz.func85 (np := 4) (V := [0, 1, 2, 3, 8, 9, 18, 23, 31, 22]) (ks := []) (by kernel_rfl)

/- tipstaff/scalar.wide -/
def xf86 : XF := ⟨4, [0, 1, 2, 3, 8, 6, 7, 9, 10, 14, 15, 19, 20, 22, 23, 24, 25, 29, 30, 37, 38, 44, 45, 53, 54, 57],
  (.seq
 (.seq
 (.new (some 5) 73 (.var 2))
 (.seq
 (.new (some 6) 73 (.var 3))
 (.new (some 4) 73 (.const zA2))))
 (.seq
 (.seq
 (.set 7 (.var 0))
 (.block 0
 (.seq
 (.set 8 (.bin .eql (.var 7) (.const (.int .i64 0))))
 (.cond (.var 8)
 (.seq
 (.seq
 (.call (some 9) 107 [(.ld (some 6) (.var 5)), (.ld (some 6) (.var 6))] [])
 (.store 6 (.var 4) (.var 9) []))
 .ret)
 (.seq
 (.set 10 (.bin .eql (.var 7) (.const (.int .i64 1))))
 (.cond (.var 10)
 (.seq
 (.seq
 (.call (some 11) 108 [(.ld (some 6) (.var 5)), (.ld (some 6) (.var 6))] [])
 (.store 6 (.var 4) (.var 11) []))
 .ret)
 (.seq
 (.set 12 (.bin .eql (.var 7) (.const (.int .i64 8))))
 (.cond (.var 12)
 (.seq
 (.seq
 .skip
 (.seq
 (.set 14 (.ld (some 6) (.var 5)))
 (.seq
 (.call (some 13) 83 [(.const (.int .u64 0))] [(.ld (some 6) (.var 5))])
 (.seq
 (.call (some 15) 108 [(.var 13), (.var 14)] [])
 (.store 6 (.var 4) (.var 15) [])))))
 .ret)
 (.seq
 (.set 16 (.bin .eql (.var 7) (.const (.int .i64 2))))
 (.cond (.var 16)
 (.seq
 (.seq
 (.call (some 17) 109 [(.ld (some 6) (.var 5)), (.ld (some 6) (.var 6))] [])
 (.store 6 (.var 4) (.var 17) []))
 .ret)
 (.seq
 (.seq
 (.set 18 (.bin .eql (.var 7) (.const (.int .i64 5))))
 (.cond (.var 18)
 .skip
 (.seq
 (.set 18 (.bin .eql (.var 7) (.const (.int .i64 4))))
 (.cond (.var 18)
 .skip
 (.set 18 (.bin .eql (.var 7) (.const (.int .i64 10))))))))
 (.cond (.var 18)
 (.seq
 (.seq
 (.call (some 19) 110 [(.var 0), (.ld (some 6) (.var 5)), (.ld (some 6) (.var 6))] [])
 (.store 6 (.var 4) (.var 19) []))
 .ret)
 (.seq
 (.seq
 (.set 20 (.bin .eql (.var 7) (.const (.int .i64 3))))
 (.cond (.var 20)
 .skip
 (.set 20 (.bin .eql (.var 7) (.const (.int .i64 9))))))
 (.cond (.var 20)
 (.seq
 (.seq
 (.call (some 21) 111 [(.var 0), (.ld (some 6) (.var 5)), (.ld (some 6) (.var 6))] [])
 (.store 6 (.var 4) (.var 21) []))
 .ret)
 (.seq
 (.seq
 (.set 22 (.bin .eql (.var 7) (.const (.int .i64 6))))
 (.cond (.var 22)
 .skip
 (.seq
 (.set 22 (.bin .eql (.var 7) (.const (.int .i64 7))))
 (.cond (.var 22)
 .skip
 (.set 22 (.bin .eql (.var 7) (.const (.int .i64 12))))))))
 (.cond (.var 22)
 (.seq
 (.seq
 (.call (some 23) 112 [(.var 0), (.var 1), (.ld (some 6) (.var 5)), (.ld (some 6) (.var 6))] [])
 (.store 6 (.var 4) (.var 23) []))
 .ret)
 (.seq
 (.set 24 (.bin .eql (.var 7) (.const (.int .i64 11))))
 (.cond (.var 24)
 (.seq
 (.store 6 (.var 4) (.ld (some 6) (.var 6)) [])
 .ret)
 .skip))))))))))))))))))
 (.seq
 (.seq
 (.call (some 25) 83 [(.const (.int .u64 0))] [])
 (.store 6 (.var 4) (.var 25) []))
 .ret))),
  [(.ld (some 6) (.var 4))]⟩
theorem okx_86 : FnOk Tryz.prog 0 125 86 xf86 := fnOk_of Tryz.func86 (np := 4) (V := [0, 1, 2, 3, 8, 6, 7, 9, 10, 14, 15, 19, 20, 22, 23, 24, 25, 29, 30, 37, 38, 44, 45, 53, 54, 57]) (ks := []) (by kernel_rfl)

/- tipstaff/scalar.Low -/
def xf87 : XF := ⟨2, [0, 1, 4, 2, 8, 10, 17, 5, 6, 30, 7, 34, 36],
  (.seq
 (.seq
 (.new (some 3) 73 (.var 0))
 (.new (some 2) 73 (.const zA2)))
 (.seq
 (.seq
 (.set 4 (.var 1))
 (.block 0
 (.seq
 (.seq
 (.set 5 (.bin .eql (.var 4) (.const (.int .i64 1))))
 (.cond (.var 5)
 .skip
 (.seq
 (.set 5 (.bin .eql (.var 4) (.const (.int .i64 2))))
 (.cond (.var 5)
 .skip
 (.set 5 (.bin .eql (.var 4) (.const (.int .i64 4))))))))
 (.cond (.var 5)
 .skip
 (.seq
 (.store 6 (.var 2) (.ld (some 6) (.var 3)) [])
 .ret)))))
 (.seq
 (.seq
 (.call (some 6) 113 [(.ld (some 2) (.offp 0 (.var 3))), (.var 1)] [])
 (.seq
 (.new (some 7) 71 (.const (.agg #[(.int .u64 0), (.int .u64 0)])))
 (.store 2 (.var 7) (.var 6) [])))
 (.seq
 (.set 8 (.bin .sub (.bin .shl (.const (.int .u64 1)) (.bin .mul (.const (.int .i64 8)) (.var 1))) (.const (.int .u64 1))))
 (.seq
 (.cond (.bin .leq (.ld none (.offp 3 (.var 3))) (.var 8))
 (.seq
 (.seq
 (.call (some 9) 114 [(.ld none (.offp 2 (.var 3))), (.ld none (.offp 3 (.var 3)))] [])
 (.seq
 (.new (some 10) 73 (.const zA2))
 (.store 6 (.var 10) (.var 9) [])))
 (.seq
 (.store 2 (.offp 0 (.var 10)) (.ld (some 2) (.var 7)) [])
 (.seq
 (.seq
 (.call (some 11) 115 [(.ld (some 6) (.var 10))] [])
 (.store 6 (.var 2) (.var 11) []))
 .ret)))
 .skip)
 (.seq
 (.seq
 (.call (some 12) 116 [(.ld (some 2) (.var 7))] [])
 (.store 6 (.var 2) (.var 12) []))
 .ret)))))),
  [(.ld (some 6) (.var 2))]⟩
theorem okx_87 : FnOk Tryz.prog 0 125 87 xf87 := fnOk_of Tryz.func87 (np := 2) (V := [0, 1, 4, 2, 8, 10, 17, 5, 6, 30, 7, 34, 36]) (ks := []) (by kernel_rfl)

/- tipstaff/verify.place -/
def xf88 : XF := ⟨1, [0, 2, 1],
  (.seq
 (.seq
 (.new (some 2) 75 (.var 0))
 (.set 1 (.const (.bool false))))
 (.seq
 (.set 1 (.pick (.pick (.bin .eql (.ld none (.offp 0 (.var 2))) (.const (.int .i64 2))) (.const (.bool true)) (.bin .eql (.ld none (.offp 0 (.var 2))) (.const (.int .i64 3)))) (.const (.bool true)) (.bin .eql (.ld none (.offp 0 (.var 2))) (.const (.int .i64 5)))))
 .ret)),
  [(.var 1)]⟩
theorem okx_88 : FnOk Tryz.prog 0 125 88 xf88 := fnOk_of Tryz.func88 (np := 1) (V := [0, 2, 1]) (ks := []) (by kernel_rfl)

/- (*tipstaff/verify.checker).moved -/
def xf89 : XF := ⟨4, [0, 1, 2, 3, 8, 9, 5, 6, 28, 54, 66, 10, 80],
  (.seq
 (.seq
 (.new (some 6) 75 (.var 1))
 (.seq
 (.new (some 7) 73 (.var 2))
 (.seq
 (.new (some 4) 75 (.const zA4))
 (.set 5 (.const (.bool false))))))
 (.seq
 (.cond (.pick (.pick (.bin .lss (.ld none (.offp 4 (.var 7))) (.const (.int .i64 (-64)))) (.const (.bool true)) (.bin .gtr (.ld none (.offp 5 (.var 7))) (.const (.int .i64 64)))) (.const (.bool true)) (.bin .gtr (.ld none (.offp 4 (.var 7))) (.ld none (.offp 5 (.var 7)))))
 (.seq
 (.seq
 (.store 11 (.var 4) (.ld (some 11) (.var 6)) [])
 (.set 5 (.const (.bool false))))
 .ret)
 .skip)
 (.seq
 (.seq
 (.call (some 8) 117 [(.ld (some 6) (.var 7))] [])
 (.cond (.pick (.un .not (.var 8)) (.pick (.bin .neq (.ld none (.offp 0 (.var 6))) (.const (.int .i64 5))) (.const (.bool true)) (.un .not (.ld none (.offp 2 (.offp 1 (.nn (.var 0))))))) (.const (.bool false)))
 (.seq
 (.seq
 (.store 11 (.var 4) (.ld (some 11) (.var 6)) [])
 (.set 5 (.const (.bool false))))
 .ret)
 .skip))
 (.seq
 (.cond (.var 3)
 (.seq
 .skip
 (.seq
 (.chk [(.bin .sub (.ld none (.offp 9 (.var 6))) (.ld none (.offp 5 (.var 7))))])
 (.seq
 (.set 9 (.bin .sub (.ld none (.offp 10 (.var 6))) (.ld none (.offp 4 (.var 7)))))
 (.seq
 (.store 1 (.offp 9 (.var 6)) (.bin .sub (.ld none (.offp 9 (.var 6))) (.ld none (.offp 5 (.var 7)))) [(.ld none (.offp 4 (.var 7)))])
 (.store 1 (.offp 10 (.var 6)) (.var 9) [])))))
 (.seq
 .skip
 (.seq
 (.chk [(.bin .add (.ld none (.offp 9 (.var 6))) (.ld none (.offp 4 (.var 7))))])
 (.seq
 (.set 10 (.bin .add (.ld none (.offp 10 (.var 6))) (.ld none (.offp 5 (.var 7)))))
 (.seq
 (.store 1 (.offp 9 (.var 6)) (.bin .add (.ld none (.offp 9 (.var 6))) (.ld none (.offp 4 (.var 7)))) [(.ld none (.offp 5 (.var 7)))])
 (.store 1 (.offp 10 (.var 6)) (.var 10) []))))))
 (.seq
 (.set 11 (.const (.int .i64 131072)))
 (.seq
 (.seq
 .skip
 (.seq
 (.chk [(.ld (some 11) (.var 6))])
 (.seq
 (.set 12 (.pick (.bin .geq (.ld none (.offp 9 (.var 6))) (.un .neg (.var 11))) (.bin .leq (.ld none (.offp 10 (.var 6))) (.var 11)) (.const (.bool false))))
 (.seq
 (.store 11 (.var 4) (.ld (some 11) (.var 6)) [(.ld none (.offp 10 (.var 6)))])
 (.set 5 (.var 12))))))
 .ret)))))),
  [(.ld (some 11) (.var 4)), (.var 5)]⟩
theorem okx_89 : FnOk Tryz.prog 0 125 89 xf89 := fnOk_of Tryz.func89 (np := 4) (V := [0, 1, 2, 3, 8, 9, 5, 6, 28, 54, 66, 10, 80]) (ks := []) (by kernel_rfl)

/- tipstaff/branch.Refine -/
def xf90 : XF := ⟨5, [0, 1, 2, 3, 4, 10, 11, 12, 7, 8, 22, 13, 14, 32],
  (.seq
 (.seq
 (.new (some 8) 73 (.var 2))
 (.seq
 (.new (some 9) 73 (.var 3))
 (.seq
 (.new (some 5) 73 (.const zA2))
 (.seq
 (.new (some 6) 73 (.const zA2))
 (.set 7 (.const (.bool false)))))))
 (.seq
 (.seq
 (.chk [(.upd 6 6 (.upd 0 6 (.const zA5) (.ld (some 6) (.var 8))) (.ld (some 6) (.var 9)))])
 (.seq
 (.call (some 10) 118 [(.var 0), (.var 1), (.upd 6 6 (.upd 0 6 (.const zA5) (.ld (some 6) (.var 8))) (.ld (some 6) (.var 9))), (.var 4)] [])
 (.seq
 (.chk [(.proj 1 (.var 10)), (.proj 0 (.var 10))])
 (.seq
 (.new (some 11) 175 (.const zA5))
 (.seq
 (.store 12 (.var 11) (.proj 0 (.var 10)) [])
 (.set 12 (.proj 1 (.var 10))))))))
 (.seq
 (.cond (.un .not (.var 12))
 (.seq
 (.seq
 (.store 6 (.var 5) (.const zA2) [])
 (.seq
 (.store 6 (.var 6) (.const zA2) [])
 (.set 7 (.const (.bool false)))))
 .ret)
 .skip)
 (.seq
 (.seq
 .skip
 (.seq
 (.chk [(.ld (some 6) (.offp 0 (.var 11)))])
 (.seq
 (.set 13 (.ld (some 6) (.offp 6 (.var 11))))
 (.seq
 (.store 6 (.var 5) (.ld (some 6) (.offp 0 (.var 11))) [(.ld (some 6) (.offp 6 (.var 11)))])
 (.seq
 (.store 6 (.var 6) (.var 13) [])
 (.set 7 (.const (.bool true))))))))
 .ret)))),
  [(.ld (some 6) (.var 5)), (.ld (some 6) (.var 6)), (.var 7)]⟩
theorem okx_90 : FnOk Tryz.prog 0 125 90 xf90 := fnOk_of Tryz.func90 (np := 5) (V := [0, 1, 2, 3, 4, 10, 11, 12, 7, 8, 22, 13, 14, 32]) (ks := []) (by kernel_rfl)

/- tipstaff/absreg.settled -/
def xf91 : XF := ⟨3, [0, 1, 2, 6, 3, 7, 18, 23],
  (.seq
 (.seq
 (.new (some 4) 75 (.var 0))
 (.new (some 3) 75 (.const zA4)))
 (.seq
 (.block 0
 (.seq
 (.set 5 (.pick (.bin .neq (.ld none (.offp 0 (.var 4))) (.const (.int .i64 6))) (.const (.bool true)) (.bin .neq (.ld none (.offp 8 (.var 4))) (.var 1))))
 (.cond (.var 5)
 (.seq
 (.store 11 (.var 3) (.ld (some 11) (.var 4)) [])
 .ret)
 (.seq
 (.set 6 (.var 2))
 (.cond (.var 6)
 (.seq
 (.seq
 (.chk [(.upd 7 1 (.upd 0 1 (.const zA4) (.const (.int .i64 5))) (.ld none (.offp 7 (.var 4))))])
 (.store 11 (.var 3) (.upd 7 1 (.upd 0 1 (.const zA4) (.const (.int .i64 5))) (.ld none (.offp 7 (.var 4)))) []))
 .ret)
 .skip)))))
 (.seq
 (.seq
 (.call (some 7) 83 [(.const (.int .u64 0))] [])
 (.seq
 (.chk [(.upd 1 6 (.upd 0 1 (.const zA4) (.const (.int .i64 1))) (.var 7))])
 (.store 11 (.var 3) (.upd 1 6 (.upd 0 1 (.const zA4) (.const (.int .i64 1))) (.var 7)) [])))
 .ret))),
  [(.ld (some 11) (.var 3))]⟩
theorem okx_91 : FnOk Tryz.prog 0 125 91 xf91 := fnOk_of Tryz.func91 (np := 3) (V := [0, 1, 2, 6, 3, 7, 18, 23]) (ks := []) (by kernel_rfl)

/- tipstaff/scalar.Any -/
def xf92 : XF := ⟨0, [0, 1],
  (.seq
 (.new (some 0) 73 (.const zA2))
 (.seq
 (.seq
 (.call (some 1) 119 [] [])
 (.seq
 (.chk [(.upd 5 1 (.upd 4 1 (.upd 3 1 (.upd 2 1 (.upd 0 2 (.const zA2) (.var 1)) (.const (.int .u64 0))) (.const (.int .u64 18446744073709551615))) (.const (.int .i64 (-9223372036854775808)))) (.const (.int .i64 9223372036854775807)))])
 (.store 6 (.var 0) (.upd 5 1 (.upd 4 1 (.upd 3 1 (.upd 2 1 (.upd 0 2 (.const zA2) (.var 1)) (.const (.int .u64 0))) (.const (.int .u64 18446744073709551615))) (.const (.int .i64 (-9223372036854775808)))) (.const (.int .i64 9223372036854775807))) [])))
 .ret)),
  [(.ld (some 6) (.var 0))]⟩
theorem okx_92 : FnOk Tryz.prog 0 125 92 xf92 := fnOk_of Tryz.func92 (np := 0) (V := [0, 1]) (ks := []) (by kernel_rfl)

/- tipstaff/verify.lined -/
def xf93 : XF := ⟨1, [0, 2, 1],
  (.seq
 (.seq
 (.new (some 2) 53 (.var 0))
 (.set 1 (.const (.bool false))))
 (.seq
 (.set 1 (.pick (.bin .eql (.ld none (.offp 0 (.var 2))) (.const (.int .i64 3))) (.const (.bool true)) (.bin .eql (.ld none (.offp 0 (.var 2))) (.const (.int .i64 4)))))
 .ret)),
  [(.var 1)]⟩
theorem okx_93 : FnOk Tryz.prog 0 125 93 xf93 := fnOk_of Tryz.func93 (np := 1) (V := [0, 2, 1]) (ks := []) (by kernel_rfl)

/- (*tipstaff/verify.checker).frozen -/
def xf94 : XF := ⟨2, [0, 1, 4],
  (.seq
 (.set 2 (.const (.bool false)))
 (.seq
 (.set 2 (.pick (.bin .lss (.var 1) (.len false (.ld none (.offp 1 (.offp 1 (.nn (.var 0))))))) (.ld none (.ixSl 1 (.ld none (.offp 1 (.offp 1 (.nn (.var 0))))) (.var 1))) (.const (.bool false))))
 .ret)),
  [(.var 2)]⟩
theorem okx_94 : FnOk Tryz.prog 0 125 94 xf94 := fnOk_of Tryz.func94 (np := 2) (V := [0, 1, 4]) (ks := []) (by kernel_rfl)

/- tipstaff/absreg.first -/
def xf95 : XF := ⟨2, [0, 1, 4, 5],
  (.seq
 (.seq
 (.set 2 (.const (.int .i64 0)))
 (.set 3 (.const (.bool false))))
 (.seq
 (.cond (.pick (.pick (.pick (.bin .lss (.var 0) (.const (.int .i64 (-64)))) (.const (.bool true)) (.bin .gtr (.var 0) (.const (.int .i64 0)))) (.const (.bool true)) (.bin .lss (.var 1) (.const (.int .i64 0)))) (.const (.bool true)) (.bin .gtr (.var 1) (.un .neg (.var 0))))
 (.seq
 (.seq
 (.set 2 (.const (.int .i64 0)))
 (.set 3 (.const (.bool false))))
 .ret)
 .skip)
 (.seq
 (.seq
 (.set 2 (.bin .add (.var 0) (.const (.int .i64 64))))
 (.set 3 (.const (.bool true))))
 .ret))),
  [(.var 2), (.var 3)]⟩
theorem okx_95 : FnOk Tryz.prog 0 125 95 xf95 := fnOk_of Tryz.func95 (np := 2) (V := [0, 1, 4, 5]) (ks := []) (by kernel_rfl)

/- tipstaff/absreg.sized -/
def xf96 : XF := ⟨1, [0, 2],
  (.seq
 (.set 1 (.const (.bool false)))
 (.seq
 (.set 1 (.pick (.pick (.pick (.bin .eql (.var 0) (.const (.int .i64 1))) (.const (.bool true)) (.bin .eql (.var 0) (.const (.int .i64 2)))) (.const (.bool true)) (.bin .eql (.var 0) (.const (.int .i64 4)))) (.const (.bool true)) (.bin .eql (.var 0) (.const (.int .i64 8)))))
 .ret)),
  [(.var 1)]⟩
theorem okx_96 : FnOk Tryz.prog 0 125 96 xf96 := fnOk_of Tryz.func96 (np := 1) (V := [0, 2]) (ks := []) (by kernel_rfl)

/- tipstaff/absreg.Ready -/
def xf97 : XF := ⟨3, [0, 1, 2, 6, 3, 13, 7, 8, 9],
  (.seq
 (.seq
 (.new (some 4) 80 (.var 0))
 (.set 3 (.const (.bool false))))
 (.seq
 (.seq
 (.call (some 5) 95 [(.var 1), (.var 2)] [])
 (.seq
 (.chk [(.proj 1 (.var 5))])
 (.seq
 (.set 6 (.proj 0 (.var 5)))
 (.set 7 (.proj 1 (.var 5))))))
 (.seq
 (.cond (.un .not (.var 7))
 (.seq
 (.set 3 (.const (.bool false)))
 .ret)
 .skip)
 (.seq
 (.seq
 (.set 8 (.var 6))
 (.block 0
 (.loop [2, 4, 6, 8]
 (.seq
 (.cond (.bin .lss (.var 8) (.bin .add (.var 6) (.var 2)))
 .skip
 (.exit 0))
 (.seq
 (.block 1
 (.cond (.un .not (.ld none (.ixArr 64 1 (.offp 121 (.var 4)) (.var 8))))
 (.seq
 (.set 3 (.const (.bool false)))
 .ret)
 .skip))
 (.set 8 (.bin .add (.var 8) (.const (.int .i64 1)))))))))
 (.seq
 (.set 3 (.const (.bool true)))
 .ret))))),
  [(.var 3)]⟩
theorem okx_97 : FnOk Tryz.prog 0 125 97 xf97 := fnOk_of Tryz.func97 (np := 3) (V := [0, 1, 2, 6, 3, 13, 7, 8, 9]) (ks := [[2, 4, 6, 8]]) (by kernel_rfl)

/- tipstaff/verify.inside -/
def xf98 : XF := ⟨5, [0, 1, 2, 3, 4, 10, 5],
  (.seq
 (.seq
 (.new (some 6) 75 (.var 0))
 (.set 5 (.const (.bool false))))
 (.seq
 (.set 5 (.pick (.bin .geq (.bin .add (.ld none (.offp 9 (.var 6))) (.var 1)) (.var 3)) (.bin .leq (.bin .add (.bin .add (.ld none (.offp 10 (.var 6))) (.var 1)) (.var 2)) (.var 4)) (.const (.bool false))))
 .ret)),
  [(.var 5)]⟩
theorem okx_98 : FnOk Tryz.prog 0 125 98 xf98 := fnOk_of Tryz.func98 (np := 5) (V := [0, 1, 2, 3, 4, 10, 5]) (ks := []) (by kernel_rfl)

/- slices.DeleteFunc[[]int,int] -/
def xf99 : XF := ⟨2, [0, 1, 4, 10, 5, 6, 7, 28],
  (.seq
 (.set 2 (.const (.slice none 0 0)))
 (.seq
 (.seq
 (.call (some 3) 120 [(.var 0), (.var 1)] [])
 (.set 4 (.var 3)))
 (.seq
 (.cond (.bin .eql (.var 4) (.const (.int .i64 (-1))))
 (.seq
 (.set 2 (.var 0))
 .ret)
 .skip)
 (.seq
 (.seq
 (.set 5 (.bin .add (.var 4) (.const (.int .i64 1))))
 (.block 0
 (.loop [0, 1, 4, 5]
 (.seq
 (.cond (.bin .lss (.var 5) (.len false (.var 0)))
 .skip
 (.exit 0))
 (.seq
 (.block 1
 (.seq
 (.set 6 (.ld none (.ixSl 1 (.var 0) (.var 5))))
 (.seq
 (.dyn (some 7) (.var 1) [(.var 6)] [])
 (.cond (.un .not (.var 7))
 (.seq
 (.store 1 (.ixSl 1 (.var 0) (.var 4)) (.var 6) [])
 (.set 4 (.bin .add (.var 4) (.const (.int .i64 1)))))
 .skip))))
 (.set 5 (.bin .add (.var 5) (.const (.int .i64 1)))))))))
 (.seq
 (.clear [(.int .i64 0)] (.slSl 1 (.var 0) (.var 4) (.len false (.var 0))) [])
 (.seq
 (.set 2 (.slSl 1 (.var 0) (.const (.int .i64 0)) (.var 4)))
 .ret)))))),
  [(.var 2)]⟩
theorem okx_99 : FnOk Tryz.prog 0 125 99 xf99 := fnOk_of Tryz.func99 (np := 2) (V := [0, 1, 4, 10, 5, 6, 7, 28]) (ks := [[0, 1, 4, 5]]) (by kernel_rfl)

/- tipstaff/cfg.behind -/
def xf100 : XF := ⟨2, [0, 1, 4, 3, 7, 8, 12, 16, 17, 18, 24, 25, 5, 29, 30, 34, 37],
  (.seq
 (.seq
 (.new (some 3) 27 (.var 1))
 (.set 2 (.const (.slice none 0 0))))
 (.seq
 (.seq
 (.call (some 4) 37 [(.ld (some 5) (.var 3))] [])
 (.block 0
 (.seq
 (.seq
 (.set 5 (.bin .eql (.var 4) (.const (.int .i64 0))))
 (.cond (.var 5)
 .skip
 (.seq
 (.set 5 (.bin .eql (.var 4) (.const (.int .i64 5))))
 (.cond (.var 5)
 .skip
 (.set 5 (.bin .eql (.var 4) (.const (.int .i64 10))))))))
 (.cond (.var 5)
 (.seq
 (.set 2 (.const (.slice none 0 0)))
 .ret)
 (.seq
 (.set 6 (.bin .eql (.var 4) (.const (.int .i64 3))))
 (.cond (.var 6)
 (.seq
 (.seq
 (.call (some 7) 45 [(.var 0), (.ld (some 5) (.var 3))] [])
 (.seq
 (.row (some 8) 3 1 (.upd 0 1 (.const (.agg #[(.int .i64 0)])) (.var 7)))
 (.set 2 (.var 8))))
 .ret)
 (.seq
 (.set 9 (.bin .eql (.var 4) (.const (.int .i64 2))))
 (.cond (.var 9)
 (.seq
 (.seq
 (.chk [(.bin .add (.var 0) (.const (.int .i64 1)))])
 (.seq
 (.call (some 10) 45 [(.var 0), (.ld (some 5) (.var 3))] [])
 (.seq
 (.row (some 11) 3 2 (.upd 1 1 (.upd 0 1 (.const (.agg #[(.int .i64 0), (.int .i64 0)])) (.bin .add (.var 0) (.const (.int .i64 1)))) (.var 10)))
 (.set 12 (.var 11)))))
 (.seq
 (.call none 121 [(.var 12)] [])
 (.seq
 (.seq
 (.call (some 13) 122 [(.var 12)] [])
 (.set 2 (.var 13)))
 .ret)))
 (.seq
 (.set 14 (.bin .eql (.var 4) (.const (.int .i64 9))))
 (.cond (.var 14)
 (.seq
 (.seq
 (.row (some 15) 3 1 (.upd 0 1 (.const (.agg #[(.int .i64 0)])) (.bin .add (.var 0) (.const (.int .i64 2)))))
 (.set 2 (.var 15)))
 .ret)
 .skip))))))))))
 (.seq
 (.seq
 (.row (some 16) 3 1 (.upd 0 1 (.const (.agg #[(.int .i64 0)])) (.bin .add (.var 0) (.const (.int .i64 1)))))
 (.set 2 (.var 16)))
 .ret))),
  [(.var 2)]⟩
theorem okx_100 : FnOk Tryz.prog 0 125 100 xf100 := fnOk_of Tryz.func100 (np := 2) (V := [0, 1, 4, 3, 7, 8, 12, 16, 17, 18, 24, 25, 5, 29, 30, 34, 37]) (ks := []) (by kernel_rfl)
end Go.Proofs.YtfdeipckfdogfaaGreat
