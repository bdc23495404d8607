/- The interpreter's functions, part 1: made by program (geny.py). -/
import Derived.Test.YtfdeipckfdogfaaGreatXz
import Derived.Test.YtfdeipckfdogfaaGreatProg
set_option maxRecDepth 100000
set_option linter.unusedVariables false
namespace Go.Proofs.YtfdeipckfdogfaaGreat
open Go.Eng
/- tipstaff/cfg.Loops -/
def xf28 : XF := ⟨1, [0, 2, 4],
  (.seq
 (.set 1 (.const (.bool false)))
 (.seq
 (.seq
 (.call (some 2) 36 [(.var 0)] [])
 (.set 1 (.ld none (.offp 2 (.nn (.var 2))))))
 .ret)),
  [(.var 1)]⟩
theorem okx_28 : FnOk Tryz.prog 0 125 28 xf28 := fnOk_of Tryz.func28 (np := 1) (V := [0, 2, 4]) (ks := []) (by kernel_rfl)

/- slices.IndexFunc[[]tipstaff/bmap.Spec,tipstaff/bmap.Spec] -/
def xf29 : XF := ⟨2, [0, 1, 4, 8, 7, 5, 16],
  (.seq
 (.set 2 (.const (.int .i64 0)))
 (.seq
 (.seq
 (.seq
 (.set 4 (.len false (.var 0)))
 (.set 3 (.const (.int .i64 0))))
 (.block 0
 (.loop [0, 1, 3, 4]
 (.seq
 (.cond (.bin .lss (.var 3) (.var 4))
 .skip
 (.exit 0))
 (.seq
 (.block 1
 (.seq
 (.set 5 (.var 3))
 (.seq
 (.dyn (some 6) (.var 1) [(.ld (some 4) (.ixSl 4 (.var 0) (.var 5)))] [])
 (.cond (.var 6)
 (.seq
 (.set 2 (.var 5))
 .ret)
 .skip))))
 (.set 3 (.bin .add (.var 3) (.const (.int .i64 1)))))))))
 (.seq
 (.set 2 (.const (.int .i64 (-1))))
 .ret))),
  [(.var 2)]⟩
theorem okx_29 : FnOk Tryz.prog 0 125 29 xf29 := fnOk_of Tryz.func29 (np := 2) (V := [0, 1, 4, 8, 7, 5, 16]) (ks := [[0, 1, 3, 4]]) (by kernel_rfl)

/- tipstaff/bmap.within -/
def xf30 : XF := ⟨3, [0, 1, 2, 6],
  (.seq
 (.set 3 (.const (.bool false)))
 (.seq
 (.set 3 (.pick (.bin .geq (.var 0) (.var 1)) (.bin .leq (.var 0) (.var 2)) (.const (.bool false))))
 .ret)),
  [(.var 3)]⟩
theorem okx_30 : FnOk Tryz.prog 0 125 30 xf30 := fnOk_of Tryz.func30 (np := 3) (V := [0, 1, 2, 6]) (ks := []) (by kernel_rfl)

/- (*tipstaff/verify.checker).gone -/
def xf31 : XF := ⟨2, [0, 1, 4, 3, 11, 13],
  (.seq
 (.seq
 (.new (some 3) 83 (.var 1))
 (.set 2 (.const (.bool false))))
 (.seq
 (.seq
 .skip
 (.seq
 (.chk [(.cap1 (.const (.func (.func 39) #[] #[])) (.var 3))])
 (.seq
 (.look (some 4) (.slice none 0 0) false .i64 (.ld none (.offp 5 (.nn (.var 0)))) (.ld none (.offp 0 (.var 3))) [])
 (.seq
 (.call (some 5) 38 [(.var 4), (.cap1 (.const (.func (.func 39) #[] #[])) (.var 3))] [])
 (.set 2 (.var 5))))))
 .ret)),
  [(.var 2)]⟩
theorem okx_31 : FnOk Tryz.prog 0 125 31 xf31 := fnOk_of Tryz.func31 (np := 2) (V := [0, 1, 4, 3, 11, 13]) (ks := []) (by kernel_rfl)

/- (*tipstaff/verify.checker).step -/
def xf32 : XF := ⟨2, [0, 1, 4, 5, 3, 6, 15, 18, 7, 20, 21, 27, 30, 36, 39, 45, 41, 46, 47, 48, 53, 56, 64, 70, 73, 84, 76, 77, 78, 85, 88, 94, 97, 102, 11, 13],
  (.seq
 (.seq
 (.new (some 4) 83 (.var 1))
 (.seq
 (.set 2 (.const (.slice none 0 0)))
 (.set 3 (.const (.bool false)))))
 (.seq
 (.seq
 .skip
 (.seq
 (.set 34 (.ld none (.offp 0 (.nn (.var 0)))))
 (.seq
 (.set 35 (.ld none (.offp 0 (.var 4))))
 (.seq
 (.set 6 (.ld (some 5) (.ixSl 5 (.var 34) (.var 35))))
 (.seq
 (.new (some 5) 27 (.const zA0))
 (.store 5 (.var 5) (.var 6) []))))))
 (.seq
 (.seq
 (.call (some 7) 41 [(.ld none (.offp 0 (.var 5)))] [])
 (.seq
 (.new (some 8) 105 (.const zA1))
 (.store 5 (.var 8) (.var 7) [])))
 (.seq
 (.seq
 (.set 9 (.ld none (.offp 0 (.var 8))))
 (.block 0
 (.seq
 (.set 10 (.bin .eql (.var 9) (.const (.int .i64 1))))
 (.cond (.var 10)
 (.seq
 (.seq
 (.call (some 11) 42 [(.var 0), (.ld (some 274) (.var 4)), (.ld (some 5) (.var 5)), (.ld (some 5) (.var 8))] [])
 (.seq
 (.chk [(.proj 1 (.var 11))])
 (.seq
 (.set 2 (.proj 0 (.var 11)))
 (.set 3 (.proj 1 (.var 11))))))
 .ret)
 (.seq
 (.set 12 (.bin .eql (.var 9) (.const (.int .i64 2))))
 (.cond (.var 12)
 (.seq
 (.seq
 (.call (some 13) 43 [(.var 0), (.ld (some 274) (.var 4)), (.ld (some 5) (.var 5)), (.ld (some 5) (.var 8))] [])
 (.seq
 (.chk [(.proj 1 (.var 13))])
 (.seq
 (.set 2 (.proj 0 (.var 13)))
 (.set 3 (.proj 1 (.var 13))))))
 .ret)
 (.seq
 (.set 14 (.bin .eql (.var 9) (.const (.int .i64 3))))
 (.cond (.var 14)
 (.seq
 (.seq
 .skip
 (.seq
 (.set 16 (.ld (some 274) (.var 4)))
 (.seq
 (.call (some 15) 45 [(.ld none (.offp 0 (.var 4))), (.ld (some 5) (.var 5))] [(.ld (some 274) (.var 4))])
 (.seq
 (.call (some 17) 44 [(.var 16), (.var 15)] [])
 (.seq
 (.row (some 18) 83 1 (.upd 0 274 (.const zA10) (.var 17)))
 (.seq
 (.set 2 (.var 18))
 (.set 3 (.const (.bool true)))))))))
 .ret)
 (.seq
 (.set 19 (.bin .eql (.var 9) (.const (.int .i64 4))))
 (.cond (.var 19)
 (.seq
 (.seq
 (.call (some 20) 46 [(.var 0), (.ld (some 274) (.var 4)), (.ld (some 5) (.var 5))] [])
 (.seq
 (.chk [(.proj 1 (.var 20))])
 (.seq
 (.set 2 (.proj 0 (.var 20)))
 (.set 3 (.proj 1 (.var 20))))))
 .ret)
 (.seq
 (.set 21 (.bin .eql (.var 9) (.const (.int .i64 5))))
 (.cond (.var 21)
 (.seq
 (.seq
 .skip
 (.seq
 (.chk [(.bin .eql (.ld none (.offp 0 (.ixArr 11 11 (.offp 0 (.offp 1 (.var 4))) (.const (.int .i64 0))))) (.const (.int .i64 1)))])
 (.seq
 (.set 2 (.const (.slice none 0 0)))
 (.set 3 (.bin .eql (.ld none (.offp 0 (.ixArr 11 11 (.offp 0 (.offp 1 (.var 4))) (.const (.int .i64 0))))) (.const (.int .i64 1)))))))
 .ret)
 (.seq
 (.set 22 (.bin .eql (.var 9) (.const (.int .i64 6))))
 (.cond (.var 22)
 (.seq
 (.seq
 (.call (some 23) 47 [(.var 0), (.ld (some 274) (.var 4)), (.ld (some 5) (.var 5)), (.ld (some 5) (.var 8))] [])
 (.seq
 (.chk [(.proj 1 (.var 23))])
 (.seq
 (.set 2 (.proj 0 (.var 23)))
 (.set 3 (.proj 1 (.var 23))))))
 .ret)
 (.seq
 (.set 24 (.bin .eql (.var 9) (.const (.int .i64 7))))
 (.cond (.var 24)
 (.seq
 (.seq
 .skip
 (.seq
 (.chk [(.var 0)])
 (.seq
 (.set 26 (.ld (some 274) (.var 4)))
 (.seq
 (.set 27 (.ld (some 5) (.var 5)))
 (.seq
 (.set 28 (.ld (some 5) (.var 8)))
 (.seq
 (.call (some 25) 49 [(.ld (some 273) (.offp 1 (.var 4))), (.ld (some 5) (.var 5)), (.ld none (.offp 4 (.var 8)))] [(.ld (some 5) (.var 8)), (.ld (some 5) (.var 5)), (.ld (some 274) (.var 4))])
 (.seq
 (.call (some 29) 48 [(.var 0), (.var 26), (.var 27), (.var 28), (.var 25)] [])
 (.seq
 (.chk [(.proj 1 (.var 29))])
 (.seq
 (.set 2 (.proj 0 (.var 29)))
 (.set 3 (.proj 1 (.var 29))))))))))))
 .ret)
 (.seq
 (.set 30 (.bin .eql (.var 9) (.const (.int .i64 8))))
 (.cond (.var 30)
 (.seq
 (.seq
 (.call (some 31) 50 [(.var 0), (.ld (some 274) (.var 4)), (.ld (some 5) (.var 5)), (.ld (some 5) (.var 8))] [])
 (.seq
 (.chk [(.proj 1 (.var 31))])
 (.seq
 (.set 2 (.proj 0 (.var 31)))
 (.set 3 (.proj 1 (.var 31))))))
 .ret)
 (.seq
 (.set 32 (.bin .eql (.var 9) (.const (.int .i64 9))))
 (.cond (.var 32)
 (.seq
 (.seq
 (.call (some 33) 51 [(.var 0), (.ld (some 274) (.var 4)), (.ld (some 5) (.var 5))] [])
 (.seq
 (.chk [(.proj 1 (.var 33))])
 (.seq
 (.set 2 (.proj 0 (.var 33)))
 (.set 3 (.proj 1 (.var 33))))))
 .ret)
 .skip))))))))))))))))))))
 (.seq
 (.seq
 (.set 2 (.const (.slice none 0 0)))
 (.set 3 (.const (.bool false))))
 .ret))))),
  [(.var 2), (.var 3)]⟩
theorem okx_32 : FnOk Tryz.prog 0 125 32 xf32 := fnOk_of Tryz.func32 (np := 2) (V := [0, 1, 4, 5, 3, 6, 15, 18, 7, 20, 21, 27, 30, 36, 39, 45, 41, 46, 47, 48, 53, 56, 64, 70, 73, 84, 76, 77, 78, 85, 88, 94, 97, 102, 11, 13]) (ks := []) (by kernel_rfl)

/- tipstaff/shape.one -/
def xf33 : XF := ⟨2, [0, 1, 4, 5, 12, 15, 6, 22, 20, 19, 23, 29, 26, 37, 38, 43, 44, 49, 7, 8, 53, 57, 58, 62, 63, 73],
  (.seq
 (.set 2 (.const (.bool false)))
 (.seq
 (.seq
 (.set 4 (.ld (some 5) (.ixSl 5 (.var 0) (.var 1))))
 (.seq
 (.new (some 3) 27 (.const zA0))
 (.store 5 (.var 3) (.var 4) [])))
 (.seq
 (.seq
 (.call (some 5) 41 [(.ld none (.offp 0 (.var 3)))] [])
 (.seq
 (.new (some 6) 105 (.const zA1))
 (.store 5 (.var 6) (.var 5) [])))
 (.seq
 (.seq
 (.seq
 .skip
 (.seq
 (.set 9 (.bin .eql (.ld none (.offp 0 (.var 6))) (.const (.int .i64 0))))
 (.seq
 (.cond (.pick (.var 9) (.const (.bool false)) (.const (.bool true)))
 (.set 8 (.ld (some 5) (.var 3)))
 (.clr [8]))
 (.seq
 (.chk [(.pick (.var 9) (.const (.bool false)) (.ld (some 5) (.var 6)))])
 (.seq
 (.cond (.pick (.var 9) (.const (.bool false)) (.const (.bool true)))
 (.call (some 7) 53 [(.ld (some 5) (.var 6))] [(.ld (some 5) (.var 3))])
 (.clr [7]))
 (.seq
 (.cond (.pick (.var 9) (.const (.bool false)) (.const (.bool true)))
 (.call (some 10) 52 [(.var 8), (.var 7)] [])
 (.clr [10]))
 (.seq
 (.set 12 (.pick (.var 9) (.const (.bool true)) (.un .not (.var 10))))
 (.seq
 (.chk [(.pick (.var 12) (.const (.bool false)) (.ld none (.offp 0 (.var 6))))])
 (.cond (.pick (.var 12) (.const (.bool false)) (.const (.bool true)))
 (.call (some 11) 54 [(.ld none (.offp 0 (.var 6)))] [])
 (.clr [11]))))))))))
 (.cond (.pick (.var 12) (.const (.bool true)) (.pick (.var 11) (.bin .eql (.ld none (.offp 1 (.var 3))) (.const (.int .u8 10))) (.const (.bool false))))
 (.seq
 (.set 2 (.const (.bool false)))
 .ret)
 .skip))
 (.seq
 (.seq
 (.set 13 (.ld none (.offp 0 (.var 6))))
 (.block 0
 (.seq
 (.set 14 (.bin .eql (.var 13) (.const (.int .i64 1))))
 (.cond (.var 14)
 (.seq
 (.seq
 (.call (some 15) 55 [(.ld (some 5) (.var 6)), (.ld none (.offp 4 (.var 3)))] [])
 (.set 2 (.var 15)))
 .ret)
 (.seq
 (.set 16 (.bin .eql (.var 13) (.const (.int .i64 4))))
 (.cond (.var 16)
 (.seq
 (.seq
 (.call (some 17) 56 [(.ld none (.offp 4 (.var 3)))] [])
 (.seq
 (.chk [(.proj 1 (.var 17))])
 (.seq
 (.set 18 (.proj 0 (.var 17)))
 (.set 19 (.proj 1 (.var 17))))))
 (.seq
 (.set 2 (.var 19))
 .ret))
 (.seq
 (.set 20 (.bin .eql (.var 13) (.const (.int .i64 8))))
 (.cond (.var 20)
 (.seq
 (.seq
 (.call (some 21) 57 [(.ld none (.offp 4 (.var 3)))] [])
 (.set 2 (.var 21)))
 .ret)
 (.seq
 (.set 22 (.bin .eql (.var 13) (.const (.int .i64 9))))
 (.cond (.var 22)
 (.seq
 (.seq
 (.call (some 23) 58 [(.var 0), (.var 1)] [])
 (.set 2 (.var 23)))
 .ret)
 (.seq
 (.set 24 (.bin .eql (.var 13) (.const (.int .i64 10))))
 (.cond (.var 24)
 (.seq
 (.seq
 (.chk [(.pick (.bin .gtr (.var 1) (.const (.int .i64 0))) (.ld (some 5) (.ixSl 5 (.var 0) (.bin .sub (.var 1) (.const (.int .i64 1))))) (.const (.bool false)))])
 (.seq
 (.cond (.pick (.bin .gtr (.var 1) (.const (.int .i64 0))) (.const (.bool true)) (.const (.bool false)))
 (.call (some 25) 35 [(.ld (some 5) (.ixSl 5 (.var 0) (.bin .sub (.var 1) (.const (.int .i64 1)))))] [])
 (.clr [25]))
 (.set 2 (.pick (.bin .gtr (.var 1) (.const (.int .i64 0))) (.bin .eql (.var 25) (.const (.int .i64 9))) (.const (.bool false))))))
 .ret)
 .skip))))))))))))
 (.seq
 (.set 2 (.const (.bool true)))
 .ret)))))),
  [(.var 2)]⟩
theorem okx_33 : FnOk Tryz.prog 0 125 33 xf33 := fnOk_of Tryz.func33 (np := 2) (V := [0, 1, 4, 5, 12, 15, 6, 22, 20, 19, 23, 29, 26, 37, 38, 43, 44, 49, 7, 8, 53, 57, 58, 62, 63, 73]) (ks := []) (by kernel_rfl)

/- tipstaff/shape.lands -/
def xf34 : XF := ⟨2, [0, 1, 4, 11, 5, 23, 6, 37],
  (.seq
 (.set 2 (.const (.bool false)))
 (.seq
 (.seq
 (.seq
 (.call (some 3) 35 [(.ld (some 5) (.ixSl 5 (.var 0) (.var 1)))] [])
 (.set 4 (.var 3)))
 (.cond (.pick (.bin .neq (.var 4) (.const (.int .i64 2))) (.bin .neq (.var 4) (.const (.int .i64 3))) (.const (.bool false)))
 (.seq
 (.set 2 (.const (.bool true)))
 .ret)
 .skip))
 (.seq
 (.seq
 (.call (some 5) 45 [(.var 1), (.ld (some 5) (.ixSl 5 (.var 0) (.var 1)))] [])
 (.set 6 (.var 5)))
 (.seq
 (.seq
 (.chk [(.pick (.pick (.bin .geq (.var 6) (.const (.int .i64 0))) (.bin .lss (.var 6) (.len false (.var 0))) (.const (.bool false))) (.ld (some 5) (.ixSl 5 (.var 0) (.var 6))) (.const (.bool false)))])
 (.seq
 (.cond (.pick (.pick (.bin .geq (.var 6) (.const (.int .i64 0))) (.bin .lss (.var 6) (.len false (.var 0))) (.const (.bool false))) (.const (.bool true)) (.const (.bool false)))
 (.call (some 7) 35 [(.ld (some 5) (.ixSl 5 (.var 0) (.var 6)))] [])
 (.clr [7]))
 (.set 2 (.pick (.pick (.bin .geq (.var 6) (.const (.int .i64 0))) (.bin .lss (.var 6) (.len false (.var 0))) (.const (.bool false))) (.bin .neq (.var 7) (.const (.int .i64 10))) (.const (.bool false))))))
 .ret)))),
  [(.var 2)]⟩
theorem okx_34 : FnOk Tryz.prog 0 125 34 xf34 := fnOk_of Tryz.func34 (np := 2) (V := [0, 1, 4, 11, 5, 23, 6, 37]) (ks := []) (by kernel_rfl)

/- tipstaff/shape.kind -/
def xf35 : XF := ⟨1, [0, 2, 1, 5],
  (.seq
 (.seq
 (.new (some 2) 27 (.var 0))
 (.set 1 (.const (.int .i64 0))))
 (.seq
 (.seq
 (.call (some 3) 41 [(.ld none (.offp 0 (.var 2)))] [])
 (.set 1 (.part none 0 (.var 3))))
 .ret)),
  [(.var 1)]⟩
theorem okx_35 : FnOk Tryz.prog 0 125 35 xf35 := fnOk_of Tryz.func35 (np := 1) (V := [0, 2, 1, 5]) (ks := []) (by kernel_rfl)

/- tipstaff/cfg.walked -/
def xf36 : XF := ⟨1, [0, 2, 7, 9, 3],
  (.seq
 (.set 1 (.const (.pointer none)))
 (.seq
 (.seq
 (.mk (some 2) 3 [(.int .i64 0)] (.len false (.var 0)) (.len false (.var 0)) [])
 (.seq
 (.chk [(.upd 1 1 (.upd 0 1 (.const (.agg #[(.slice none 0 0), (.slice none 0 0), (.bool false)])) (.var 0)) (.var 2))])
 (.seq
 (.new (some 3) 100 (.upd 1 1 (.upd 0 1 (.const (.agg #[(.slice none 0 0), (.slice none 0 0), (.bool false)])) (.var 0)) (.var 2)))
 (.set 4 (.var 3)))))
 (.seq
 (.cond (.bin .gtr (.len false (.var 0)) (.const (.int .i64 0)))
 (.call none 59 [(.var 4), (.const (.int .i64 0))] [])
 .skip)
 (.seq
 (.set 1 (.var 4))
 .ret)))),
  [(.var 1)]⟩
theorem okx_36 : FnOk Tryz.prog 0 125 36 xf36 := fnOk_of Tryz.func36 (np := 1) (V := [0, 2, 7, 9, 3]) (ks := []) (by kernel_rfl)

/- tipstaff/cfg.kind -/
def xf37 : XF := ⟨1, [0, 2, 1, 5],
  (.seq
 (.seq
 (.new (some 2) 27 (.var 0))
 (.set 1 (.const (.int .i64 0))))
 (.seq
 (.seq
 (.call (some 3) 41 [(.ld none (.offp 0 (.var 2)))] [])
 (.set 1 (.part none 0 (.var 3))))
 .ret)),
  [(.var 1)]⟩
theorem okx_37 : FnOk Tryz.prog 0 125 37 xf37 := fnOk_of Tryz.func37 (np := 1) (V := [0, 2, 1, 5]) (ks := []) (by kernel_rfl)

/- slices.ContainsFunc[[]tipstaff/absreg.State,tipstaff/absreg.State] -/
def xf38 : XF := ⟨2, [0, 1, 4, 7],
  (.seq
 (.set 2 (.const (.bool false)))
 (.seq
 (.seq
 (.call (some 3) 60 [(.var 0), (.var 1)] [])
 (.set 2 (.bin .geq (.var 3) (.const (.int .i64 0)))))
 .ret)),
  [(.var 2)]⟩
theorem okx_38 : FnOk Tryz.prog 0 125 38 xf38 := fnOk_of Tryz.func38 (np := 2) (V := [0, 1, 4, 7]) (ks := []) (by kernel_rfl)

/- (*tipstaff/verify.checker).gone$1 -/
def xf39 : XF := ⟨2, [0, 1, 3, 2, 7],
  (.seq
 (.seq
 (.new (some 3) 80 (.var 0))
 (.set 2 (.const (.bool false))))
 (.seq
 (.seq
 (.call (some 4) 40 [(.ld (some 273) (.var 3)), (.ld (some 273) (.offp 1 (.var 1)))] [])
 (.set 2 (.var 4)))
 .ret)),
  [(.var 2)]⟩
theorem okx_39 : FnOk Tryz.prog 0 125 39 xf39 := fnOk_of Tryz.func39 (np := 2) (V := [0, 1, 3, 2, 7]) (ks := []) (by kernel_rfl)

/- tipstaff/absreg.Covers -/
def xf40 : XF := ⟨2, [0, 1, 4, 2, 3, 13, 5, 16, 15, 7, 6, 26, 31, 30, 9, 8, 41, 46, 45, 10, 11],
  (.seq
 (.seq
 (.new (some 3) 80 (.var 0))
 (.seq
 (.new (some 4) 80 (.var 1))
 (.set 2 (.const (.bool false)))))
 (.seq
 (.seq
 (.new (some 5) 126 (.const (.agg #[(.map none)])))
 (.set 6 (.var 5)))
 (.seq
 (.seq
 (.seq
 (.set 8 (.ld (some 121) (.offp 0 (.var 3))))
 (.set 7 (.const (.int .i64 0))))
 (.block 0
 (.loop [3, 4, 6, 7, 8]
 (.seq
 (.cond (.bin .lss (.var 7) (.const (.int .i64 11)))
 .skip
 (.exit 0))
 (.seq
 (.block 1
 (.seq
 (.seq
 (.chk [(.idxAgg (some 11) 11 11 (.var 8) (.var 7))])
 (.seq
 (.new (some 9) 75 (.const zA4))
 (.seq
 (.set 10 (.var 7))
 (.store 11 (.var 9) (.idxAgg (some 11) 11 11 (.var 8) (.var 7)) []))))
 (.seq
 (.seq
 .skip
 (.call (some 11) 61 [(.var 6), (.ld (some 11) (.var 9)), (.ld (some 11) (.ixArr 11 11 (.offp 0 (.var 4)) (.var 10)))] []))
 (.cond (.un .not (.var 11))
 (.seq
 (.set 2 (.const (.bool false)))
 .ret)
 .skip))))
 (.set 7 (.bin .add (.var 7) (.const (.int .i64 1)))))))))
 (.seq
 (.seq
 (.seq
 (.set 13 (.ld (some 88) (.offp 185 (.var 3))))
 (.set 12 (.const (.int .i64 0))))
 (.block 2
 (.loop [3, 4, 6, 12, 13]
 (.seq
 (.cond (.bin .lss (.var 12) (.const (.int .i64 8)))
 .skip
 (.exit 2))
 (.seq
 (.block 3
 (.seq
 (.seq
 (.chk [(.idxAgg (some 11) 11 8 (.var 13) (.var 12))])
 (.seq
 (.new (some 14) 75 (.const zA4))
 (.seq
 (.set 15 (.var 12))
 (.store 11 (.var 14) (.idxAgg (some 11) 11 8 (.var 13) (.var 12)) []))))
 (.seq
 (.seq
 .skip
 (.call (some 16) 61 [(.var 6), (.ld (some 11) (.var 14)), (.ld (some 11) (.ixArr 8 11 (.offp 185 (.var 4)) (.var 15)))] []))
 (.cond (.un .not (.var 16))
 (.seq
 (.set 2 (.const (.bool false)))
 .ret)
 .skip))))
 (.set 12 (.bin .add (.var 12) (.const (.int .i64 1)))))))))
 (.seq
 (.seq
 (.seq
 (.set 18 (.ld (some 64) (.offp 121 (.var 3))))
 (.set 17 (.const (.int .i64 0))))
 (.block 4
 (.loop [4, 17, 18]
 (.seq
 (.cond (.bin .lss (.var 17) (.const (.int .i64 64)))
 .skip
 (.exit 4))
 (.seq
 (.block 5
 (.seq
 (.seq
 (.chk [(.idxAgg none 1 64 (.var 18) (.var 17))])
 (.seq
 (.set 19 (.var 17))
 (.set 20 (.idxAgg none 1 64 (.var 18) (.var 17)))))
 (.cond (.pick (.var 20) (.un .not (.ld none (.ixArr 64 1 (.offp 121 (.var 4)) (.var 19)))) (.const (.bool false)))
 (.seq
 (.set 2 (.const (.bool false)))
 .ret)
 .skip)))
 (.set 17 (.bin .add (.var 17) (.const (.int .i64 1)))))))))
 (.seq
 (.set 2 (.const (.bool true)))
 .ret)))))),
  [(.var 2)]⟩
theorem okx_40 : FnOk Tryz.prog 0 125 40 xf40 := fnOk_of Tryz.func40 (np := 2) (V := [0, 1, 4, 2, 3, 13, 5, 16, 15, 7, 6, 26, 31, 30, 9, 8, 41, 46, 45, 10, 11]) (ks := [[3, 4, 6, 7, 8], [3, 4, 6, 12, 13], [4, 17, 18]]) (by kernel_rfl)

/- tipstaff/insn.Of -/
def xf41 : XF := ⟨1, [0, 2, 4, 5, 9, 10, 14, 15, 20, 21, 22, 25],
  (.seq
 (.new (some 1) 105 (.const zA1))
 (.seq
 (.seq
 (.set 2 (.bin .and (.var 0) (.const (.int .u8 7))))
 (.block 0
 (.seq
 (.seq
 (.set 3 (.bin .eql (.var 2) (.const (.int .u8 4))))
 (.cond (.var 3)
 .skip
 (.set 3 (.bin .eql (.var 2) (.const (.int .u8 7))))))
 (.cond (.var 3)
 (.seq
 (.seq
 (.call (some 4) 62 [(.var 0)] [])
 (.store 5 (.var 1) (.var 4) []))
 .ret)
 (.seq
 (.seq
 (.set 5 (.bin .eql (.var 2) (.const (.int .u8 5))))
 (.cond (.var 5)
 .skip
 (.set 5 (.bin .eql (.var 2) (.const (.int .u8 6))))))
 (.cond (.var 5)
 (.seq
 (.seq
 (.call (some 6) 63 [(.var 0)] [])
 (.store 5 (.var 1) (.var 6) []))
 .ret)
 (.seq
 (.seq
 (.set 7 (.bin .eql (.var 2) (.const (.int .u8 1))))
 (.cond (.var 7)
 .skip
 (.seq
 (.set 7 (.bin .eql (.var 2) (.const (.int .u8 2))))
 (.cond (.var 7)
 .skip
 (.set 7 (.bin .eql (.var 2) (.const (.int .u8 3))))))))
 (.cond (.var 7)
 (.seq
 (.seq
 (.call (some 8) 64 [(.var 0)] [])
 (.store 5 (.var 1) (.var 8) []))
 .ret)
 .skip))))))))
 (.seq
 (.seq
 (.set 9 (.var 0))
 (.block 1
 (.seq
 (.set 10 (.bin .eql (.var 9) (.const (.int .u8 24))))
 (.cond (.var 10)
 (.seq
 (.seq
 (.chk [(.upd 2 1 (.upd 0 1 (.const zA1) (.const (.int .i64 9))) (.const (.int .i64 8)))])
 (.store 5 (.var 1) (.upd 2 1 (.upd 0 1 (.const zA1) (.const (.int .i64 9))) (.const (.int .i64 8))) []))
 .ret)
 (.seq
 (.set 11 (.bin .eql (.var 9) (.const (.int .u8 0))))
 (.cond (.var 11)
 (.seq
 (.seq
 (.chk [(.upd 0 1 (.const zA1) (.const (.int .i64 10)))])
 (.store 5 (.var 1) (.upd 0 1 (.const zA1) (.const (.int .i64 10))) []))
 .ret)
 .skip))))))
 (.seq
 (.store 5 (.var 1) (.const zA1) [])
 .ret)))),
  [(.ld (some 5) (.var 1))]⟩
theorem okx_41 : FnOk Tryz.prog 0 125 41 xf41 := fnOk_of Tryz.func41 (np := 1) (V := [0, 2, 4, 5, 9, 10, 14, 15, 20, 21, 22, 25]) (ks := []) (by kernel_rfl)

/- (*tipstaff/verify.checker).alu -/
def xf42 : XF := ⟨4, [0, 1, 2, 3, 8, 9, 5, 6, 7, 26, 10, 11, 20, 22, 23, 25, 35, 52, 12, 58, 65, 13, 14, 84, 16],
  (.seq
 (.seq
 (.new (some 6) 83 (.var 1))
 (.seq
 (.new (some 7) 27 (.var 2))
 (.seq
 (.new (some 8) 105 (.var 3))
 (.seq
 (.set 4 (.const (.slice none 0 0)))
 (.set 5 (.const (.bool false)))))))
 (.seq
 (.seq
 .skip
 (.seq
 (.set 24 (.ld none (.offp 1 (.var 7))))
 (.seq
 (.set 12 (.ld (some 11) (.ixArr 11 11 (.offp 0 (.offp 1 (.var 6))) (.var 24))))
 (.seq
 (.set 13 (.ld (some 273) (.offp 1 (.var 6))))
 (.seq
 (.set 14 (.ld (some 5) (.var 7)))
 (.seq
 (.set 15 (.ld none (.offp 4 (.var 8))))
 (.seq
 (.resv 2)
 (.seq
 (.clr [10, 11])
 (.seq
 (.chk [(.const zA4), (.const zA4)])
 (.seq
 (.call (some 9) 49 [(.var 13), (.var 14), (.var 15)] [(.ld none (.offp 4 (.var 8))), (.ld (some 5) (.var 7)), (.ld (some 273) (.offp 1 (.var 6))), (.ld (some 11) (.ixArr 11 11 (.offp 0 (.offp 1 (.var 6))) (.var 24))), (.ld none (.offp 1 (.var 7)))])
 (.seq
 (.newR 0 10 75 (.const zA4))
 (.seq
 (.newR 1 11 75 (.const zA4))
 (.seq
 (.store 11 (.var 10) (.var 12) [])
 (.seq
 (.store 11 (.var 11) (.var 9) [])
 .skip))))))))))))))
 (.seq
 (.cond (.pick (.bin .eql (.ld none (.offp 1 (.var 8))) (.const (.int .i64 11))) (.bin .eql (.ld none (.offp 0 (.var 11))) (.const (.int .i64 1))) (.const (.bool false)))
 (.seq
 (.call (some 16) 65 [(.const (.int .u64 0))] [])
 (.store 11 (.var 10) (.var 16) []))
 .skip)
 (.seq
 (.cond (.pick (.bin .eql (.ld none (.offp 0 (.var 10))) (.const (.int .i64 1))) (.bin .eql (.ld none (.offp 0 (.var 11))) (.const (.int .i64 1))) (.const (.bool false)))
 (.seq
 (.seq
 (.call (some 17) 66 [(.ld none (.offp 1 (.var 8))), (.ld none (.offp 3 (.var 8))), (.ld (some 6) (.offp 1 (.var 10))), (.ld (some 6) (.offp 1 (.var 11)))] [])
 (.seq
 (.chk [(.upd 1 6 (.upd 0 1 (.const zA4) (.const (.int .i64 1))) (.var 17))])
 (.seq
 (.new (some 18) 75 (.const zA4))
 (.store 11 (.var 18) (.upd 1 6 (.upd 0 1 (.const zA4) (.const (.int .i64 1))) (.var 17)) []))))
 (.seq
 (.seq
 (.call (some 19) 67 [(.ld (some 274) (.var 6)), (.ld none (.offp 1 (.var 7))), (.ld (some 11) (.var 18)), (.const (.int .i64 1))] [])
 (.seq
 (.set 4 (.var 19))
 (.set 5 (.const (.bool true)))))
 .ret))
 .skip)
 (.seq
 (.seq
 (.call (some 20) 68 [(.var 0), (.ld none (.offp 1 (.var 8))), (.ld (some 11) (.var 10)), (.ld (some 11) (.var 11))] [])
 (.seq
 (.chk [(.proj 1 (.var 20)), (.proj 0 (.var 20))])
 (.seq
 (.new (some 21) 75 (.const zA4))
 (.seq
 (.store 11 (.var 21) (.proj 0 (.var 20)) [])
 (.set 22 (.proj 1 (.var 20)))))))
 (.seq
 (.cond (.pick (.pick (.un .not (.var 22)) (.const (.bool true)) (.un .not (.ld none (.offp 3 (.var 8))))) (.const (.bool true)) (.bin .eql (.ld none (.offp 1 (.var 8))) (.const (.int .i64 8))))
 (.seq
 (.seq
 (.set 4 (.const (.slice none 0 0)))
 (.set 5 (.const (.bool false))))
 .ret)
 .skip)
 (.seq
 (.seq
 (.call (some 23) 67 [(.ld (some 274) (.var 6)), (.ld none (.offp 1 (.var 7))), (.ld (some 11) (.var 21)), (.const (.int .i64 1))] [])
 (.seq
 (.set 4 (.var 23))
 (.set 5 (.const (.bool true)))))
 .ret))))))),
  [(.var 4), (.var 5)]⟩
theorem okx_42 : FnOk Tryz.prog 0 125 42 xf42 := fnOk_of Tryz.func42 (np := 4) (V := [0, 1, 2, 3, 8, 9, 5, 6, 7, 26, 10, 11, 20, 22, 23, 25, 35, 52, 12, 58, 65, 13, 14, 84, 16]) (ks := []) (by kernel_rfl)

/- (tipstaff/verify.way).to -/
def xf44 : XF := ⟨2, [0, 1, 4, 2],
  (.seq
 (.seq
 (.new (some 3) 83 (.var 0))
 (.new (some 2) 83 (.const zA10)))
 (.seq
 (.store 1 (.offp 0 (.var 3)) (.var 1) [])
 (.seq
 (.store 274 (.var 2) (.ld (some 274) (.var 3)) [])
 .ret))),
  [(.ld (some 274) (.var 2))]⟩
theorem okx_44 : FnOk Tryz.prog 0 125 44 xf44 := fnOk_of Tryz.func44 (np := 2) (V := [0, 1, 4, 2]) (ks := []) (by kernel_rfl)

/- tipstaff/shape.Target -/
def xf45 : XF := ⟨2, [0, 1, 4, 3],
  (.seq
 (.seq
 (.new (some 3) 27 (.var 1))
 (.set 2 (.const (.int .i64 0))))
 (.seq
 (.set 2 (.bin .add (.bin .add (.var 0) (.conv .i64 (.ld none (.offp 3 (.var 3))))) (.const (.int .i64 1))))
 .ret)),
  [(.var 2)]⟩
theorem okx_45 : FnOk Tryz.prog 0 125 45 xf45 := fnOk_of Tryz.func45 (np := 2) (V := [0, 1, 4, 3]) (ks := []) (by kernel_rfl)

/- (*tipstaff/verify.checker).call -/
def xf46 : XF := ⟨3, [0, 1, 2, 6, 7, 4, 5, 12, 8, 24, 30, 31, 9, 40, 10, 11, 61, 53, 65, 66, 81, 90, 99, 105, 106],
  (.seq
 (.seq
 (.new (some 5) 83 (.var 1))
 (.seq
 (.new (some 6) 27 (.var 2))
 (.seq
 (.set 3 (.const (.slice none 0 0)))
 (.set 4 (.const (.bool false))))))
 (.seq
 (.seq
 (.call (some 7) 71 [(.const (.int .i64 8))] [])
 (.seq
 (.new (some 8) 75 (.const zA4))
 (.store 11 (.var 8) (.var 7) [])))
 (.seq
 (.cond (.pick (.bin .eql (.ld none (.offp 4 (.var 6))) (.const (.int .i32 5))) (.const (.bool true)) (.bin .eql (.ld none (.offp 4 (.var 6))) (.const (.int .i32 7))))
 (.seq
 (.seq
 (.call (some 9) 72 [(.ld (some 273) (.offp 1 (.var 5))), (.ld (some 11) (.var 8))] [])
 (.store 273 (.offp 1 (.var 5)) (.var 9) []))
 (.seq
 (.seq
 (.call (some 10) 44 [(.ld (some 274) (.var 5)), (.bin .add (.ld none (.offp 0 (.var 5))) (.const (.int .i64 1)))] [])
 (.seq
 (.row (some 11) 83 1 (.upd 0 274 (.const zA10) (.var 10)))
 (.seq
 (.set 3 (.var 11))
 (.set 4 (.const (.bool true))))))
 .ret))
 .skip)
 (.seq
 (.set 12 (.ld none (.offp 7 (.ixArr 11 11 (.offp 0 (.offp 1 (.var 5))) (.const (.int .i64 1))))))
 (.seq
 (.seq
 (.call (some 13) 73 [(.var 0), (.var 12)] [])
 (.seq
 (.chk [(.proj 1 (.var 13)), (.proj 0 (.var 13))])
 (.seq
 (.new (some 14) 53 (.const (.agg (Array.replicate 4 (.int .i64 0)))))
 (.seq
 (.store 4 (.var 14) (.proj 0 (.var 13)) [])
 (.set 15 (.proj 1 (.var 13)))))))
 (.seq
 (.seq
 (.seq
 (.set 17 (.pick (.bin .neq (.ld none (.offp 0 (.ixArr 11 11 (.offp 0 (.offp 1 (.var 5))) (.const (.int .i64 1))))) (.const (.int .i64 4))) (.const (.bool true)) (.un .not (.var 15))))
 (.seq
 (.chk [(.pick (.var 17) (.const (.bool false)) (.ld (some 4) (.var 14))), (.pick (.var 17) (.const (.bool false)) (.var 12)), (.pick (.var 17) (.const (.bool false)) (.ld none (.offp 4 (.var 6)))), (.pick (.var 17) (.const (.bool false)) (.ld (some 273) (.offp 1 (.var 5)))), (.pick (.var 17) (.const (.bool false)) (.var 0))])
 (.cond (.pick (.var 17) (.const (.bool false)) (.const (.bool true)))
 (.call (some 16) 74 [(.var 0), (.ld (some 273) (.offp 1 (.var 5))), (.ld none (.offp 4 (.var 6))), (.var 12), (.ld (some 4) (.var 14))] [])
 (.clr [16]))))
 (.cond (.pick (.var 17) (.const (.bool true)) (.un .not (.var 16)))
 (.seq
 (.seq
 (.set 3 (.const (.slice none 0 0)))
 (.set 4 (.const (.bool false))))
 .ret)
 .skip))
 (.seq
 (.seq
 (.set 18 (.ld none (.offp 4 (.var 6))))
 (.block 0
 (.seq
 (.set 19 (.bin .eql (.var 18) (.const (.int .i32 1))))
 (.cond (.var 19)
 (.seq
 (.store 1 (.offp 6 (.nn (.var 0))) (.bin .add (.ld none (.offp 6 (.nn (.var 0)))) (.const (.int .i64 1))) [])
 (.seq
 (.chk [(.upd 8 1 (.upd 7 1 (.upd 0 1 (.const zA4) (.const (.int .i64 6))) (.var 12)) (.ld none (.offp 6 (.nn (.var 0)))))])
 (.store 11 (.var 8) (.upd 8 1 (.upd 7 1 (.upd 0 1 (.const zA4) (.const (.int .i64 6))) (.var 12)) (.ld none (.offp 6 (.nn (.var 0))))) [])))
 (.seq
 (.seq
 (.set 20 (.bin .eql (.var 18) (.const (.int .i32 88))))
 (.cond (.var 20)
 .skip
 (.set 20 (.bin .eql (.var 18) (.const (.int .i32 89))))))
 (.cond (.var 20)
 (.seq
 (.seq
 (.call (some 21) 75 [(.var 0), (.ld (some 273) (.offp 1 (.var 5))), (.const (.int .i64 2)), (.ld none (.offp 2 (.var 14)))] [])
 (.seq
 (.chk [(.proj 1 (.var 21))])
 (.seq
 (.store 273 (.offp 1 (.var 5)) (.proj 0 (.var 21)) [])
 (.set 15 (.proj 1 (.var 21))))))
 (.cond (.un .not (.var 15))
 (.seq
 (.seq
 (.set 3 (.const (.slice none 0 0)))
 (.set 4 (.const (.bool false))))
 .ret)
 .skip))
 .skip))))))
 (.seq
 (.seq
 (.call (some 22) 72 [(.ld (some 273) (.offp 1 (.var 5))), (.ld (some 11) (.var 8))] [])
 (.store 273 (.offp 1 (.var 5)) (.var 22) []))
 (.seq
 (.seq
 (.call (some 23) 44 [(.ld (some 274) (.var 5)), (.bin .add (.ld none (.offp 0 (.var 5))) (.const (.int .i64 1)))] [])
 (.seq
 (.row (some 24) 83 1 (.upd 0 274 (.const zA10) (.var 23)))
 (.seq
 (.set 3 (.var 24))
 (.set 4 (.const (.bool true))))))
 .ret))))))))),
  [(.var 3), (.var 4)]⟩
theorem okx_46 : FnOk Tryz.prog 0 125 46 xf46 := fnOk_of Tryz.func46 (np := 3) (V := [0, 1, 2, 6, 7, 4, 5, 12, 8, 24, 30, 31, 9, 40, 10, 11, 61, 53, 65, 66, 81, 90, 99, 105, 106]) (ks := []) (by kernel_rfl)

/- (*tipstaff/verify.checker).load -/
def xf47 : XF := ⟨4, [0, 1, 2, 3, 8, 9, 5, 6, 7, 10, 18, 33, 11, 12, 40, 47, 42, 44, 48, 51, 52, 55, 57, 58],
  (.seq
 (.seq
 (.new (some 6) 83 (.var 1))
 (.seq
 (.new (some 7) 27 (.var 2))
 (.seq
 (.new (some 8) 105 (.var 3))
 (.seq
 (.set 4 (.const (.slice none 0 0)))
 (.set 5 (.const (.bool false)))))))
 (.seq
 (.seq
 (.set 10 (.ld (some 11) (.ixArr 11 11 (.offp 0 (.offp 1 (.var 6))) (.ld none (.offp 2 (.var 7))))))
 (.seq
 (.new (some 9) 75 (.const zA4))
 (.store 11 (.var 9) (.var 10) [])))
 (.seq
 (.cond (.bin .eql (.ld none (.offp 0 (.var 9))) (.const (.int .i64 3)))
 (.seq
 (.seq
 (.call (some 11) 76 [(.ld (some 273) (.offp 1 (.var 6))), (.bin .add (.ld none (.offp 9 (.var 9))) (.conv .i64 (.ld none (.offp 3 (.var 7))))), (.ld none (.offp 2 (.var 8)))] [])
 (.seq
 (.chk [(.proj 1 (.var 11)), (.proj 0 (.var 11))])
 (.seq
 (.new (some 12) 75 (.const zA4))
 (.seq
 (.store 11 (.var 12) (.proj 0 (.var 11)) [])
 (.set 13 (.proj 1 (.var 11)))))))
 (.seq
 (.seq
 (.call (some 14) 67 [(.ld (some 274) (.var 6)), (.ld none (.offp 1 (.var 7))), (.ld (some 11) (.var 12)), (.const (.int .i64 1))] [])
 (.seq
 (.chk [(.var 13)])
 (.seq
 (.set 4 (.var 14))
 (.set 5 (.var 13)))))
 .ret))
 .skip)
 (.seq
 (.seq
 .skip
 (.seq
 (.set 16 (.ld (some 274) (.var 6)))
 (.seq
 (.set 17 (.ld none (.offp 1 (.var 7))))
 (.seq
 (.chk [(.var 0), (.ld none (.offp 2 (.var 8)))])
 (.seq
 (.set 19 (.ld (some 273) (.offp 1 (.var 6))))
 (.seq
 (.set 20 (.ld (some 11) (.var 9)))
 (.seq
 (.set 21 (.conv .i64 (.ld none (.offp 3 (.var 7)))))
 (.seq
 (.set 22 (.ld none (.offp 2 (.var 8))))
 (.seq
 (.call (some 15) 71 [(.ld none (.offp 2 (.var 8)))] [(.ld none (.offp 2 (.var 8))), (.ld none (.offp 3 (.var 7))), (.ld (some 11) (.var 9)), (.ld (some 273) (.offp 1 (.var 6))), (.ld none (.offp 1 (.var 7))), (.ld (some 274) (.var 6))])
 (.seq
 (.call (some 18) 67 [(.var 16), (.var 17), (.var 15), (.const (.int .i64 1))] [(.ld none (.offp 2 (.var 8))), (.ld none (.offp 3 (.var 7))), (.ld (some 11) (.var 9)), (.ld (some 273) (.offp 1 (.var 6)))])
 (.seq
 (.call (some 23) 77 [(.var 0), (.var 19), (.var 20), (.var 21), (.var 22)] [])
 (.seq
 (.set 4 (.var 18))
 (.set 5 (.var 23))))))))))))))
 .ret)))),
  [(.var 4), (.var 5)]⟩
theorem okx_47 : FnOk Tryz.prog 0 125 47 xf47 := fnOk_of Tryz.func47 (np := 4) (V := [0, 1, 2, 3, 8, 9, 5, 6, 7, 10, 18, 33, 11, 12, 40, 47, 42, 44, 48, 51, 52, 55, 57, 58]) (ks := []) (by kernel_rfl)

/- (*tipstaff/verify.checker).save -/
def xf48 : XF := ⟨5, [0, 1, 2, 3, 4, 10, 11, 6, 7, 8, 9, 12, 20, 28, 37, 38, 41, 54, 13, 14, 63, 64],
  (.seq
 (.seq
 (.new (some 7) 83 (.var 1))
 (.seq
 (.new (some 8) 27 (.var 2))
 (.seq
 (.new (some 9) 105 (.var 3))
 (.seq
 (.new (some 10) 75 (.var 4))
 (.seq
 (.set 5 (.const (.slice none 0 0)))
 (.set 6 (.const (.bool false))))))))
 (.seq
 (.seq
 (.set 12 (.ld (some 11) (.ixArr 11 11 (.offp 0 (.offp 1 (.var 7))) (.ld none (.offp 1 (.var 8))))))
 (.seq
 (.new (some 11) 75 (.const zA4))
 (.store 11 (.var 11) (.var 12) [])))
 (.seq
 (.seq
 (.call (some 13) 78 [(.var 0), (.ld (some 11) (.var 11)), (.conv .i64 (.ld none (.offp 3 (.var 8)))), (.ld none (.offp 2 (.var 9)))] [])
 (.cond (.un .not (.var 13))
 (.seq
 (.seq
 (.set 5 (.const (.slice none 0 0)))
 (.set 6 (.const (.bool false))))
 .ret)
 .skip))
 (.seq
 (.cond (.bin .eql (.ld none (.offp 0 (.var 11))) (.const (.int .i64 5)))
 (.seq
 (.seq
 .skip
 (.seq
 (.chk [(.bin .add (.ld none (.offp 0 (.var 7))) (.const (.int .i64 1))), (.ld (some 274) (.var 7))])
 (.seq
 (.set 16 (.bin .eql (.ld none (.offp 0 (.var 10))) (.const (.int .i64 1))))
 (.seq
 (.call (some 14) 44 [(.ld (some 274) (.var 7)), (.bin .add (.ld none (.offp 0 (.var 7))) (.const (.int .i64 1)))] [(.ld none (.offp 0 (.var 10)))])
 (.seq
 (.row (some 15) 83 1 (.upd 0 274 (.const zA10) (.var 14)))
 (.seq
 (.set 5 (.var 15))
 (.set 6 (.var 16))))))))
 .ret)
 .skip)
 (.seq
 (.seq
 (.call (some 17) 79 [(.ld (some 273) (.offp 1 (.var 7))), (.bin .add (.ld none (.offp 9 (.var 11))) (.conv .i64 (.ld none (.offp 3 (.var 8))))), (.ld none (.offp 2 (.var 9))), (.ld (some 11) (.var 10))] [])
 (.seq
 (.chk [(.proj 1 (.var 17)), (.proj 0 (.var 17))])
 (.seq
 (.new (some 18) 80 (.const zA9))
 (.seq
 (.store 273 (.var 18) (.proj 0 (.var 17)) [])
 (.set 19 (.proj 1 (.var 17)))))))
 (.seq
 (.store 273 (.offp 1 (.var 7)) (.ld (some 273) (.var 18)) [])
 (.seq
 (.seq
 (.call (some 20) 44 [(.ld (some 274) (.var 7)), (.bin .add (.ld none (.offp 0 (.var 7))) (.const (.int .i64 1)))] [])
 (.seq
 (.row (some 21) 83 1 (.upd 0 274 (.const zA10) (.var 20)))
 (.seq
 (.chk [(.var 19)])
 (.seq
 (.set 5 (.var 21))
 (.set 6 (.var 19))))))
 .ret))))))),
  [(.var 5), (.var 6)]⟩
theorem okx_48 : FnOk Tryz.prog 0 125 48 xf48 := fnOk_of Tryz.func48 (np := 5) (V := [0, 1, 2, 3, 4, 10, 11, 6, 7, 8, 9, 12, 20, 28, 37, 38, 41, 54, 13, 14, 63, 64]) (ks := []) (by kernel_rfl)

/- tipstaff/verify.second -/
def xf49 : XF := ⟨3, [0, 1, 2, 6, 3, 4, 17],
  (.seq
 (.seq
 (.new (some 4) 80 (.var 0))
 (.seq
 (.new (some 5) 27 (.var 1))
 (.new (some 3) 75 (.const zA4))))
 (.seq
 (.cond (.var 2)
 (.seq
 (.store 11 (.var 3) (.ld (some 11) (.ixArr 11 11 (.offp 0 (.var 4)) (.ld none (.offp 2 (.var 5))))) [])
 .ret)
 .skip)
 (.seq
 (.seq
 (.call (some 6) 65 [(.conv .u64 (.conv .i64 (.ld none (.offp 4 (.var 5)))))] [])
 (.store 11 (.var 3) (.var 6) []))
 .ret))),
  [(.ld (some 11) (.var 3))]⟩
theorem okx_49 : FnOk Tryz.prog 0 125 49 xf49 := fnOk_of Tryz.func49 (np := 3) (V := [0, 1, 2, 6, 3, 4, 17]) (ks := []) (by kernel_rfl)

/- (*tipstaff/verify.checker).atomic -/
def xf50 : XF := ⟨4, [0, 1, 2, 3, 8, 9, 5, 6, 7, 10, 17, 27, 36, 11, 42, 43, 54, 47],
  (.seq
 (.seq
 (.new (some 6) 83 (.var 1))
 (.seq
 (.new (some 7) 27 (.var 2))
 (.seq
 (.new (some 8) 105 (.var 3))
 (.seq
 (.set 4 (.const (.slice none 0 0)))
 (.set 5 (.const (.bool false)))))))
 (.seq
 (.seq
 (.set 10 (.ld (some 11) (.ixArr 11 11 (.offp 0 (.offp 1 (.var 6))) (.ld none (.offp 1 (.var 7))))))
 (.seq
 (.new (some 9) 75 (.const zA4))
 (.store 11 (.var 9) (.var 10) [])))
 (.seq
 (.seq
 (.call (some 11) 77 [(.var 0), (.ld (some 273) (.offp 1 (.var 6))), (.ld (some 11) (.var 9)), (.conv .i64 (.ld none (.offp 3 (.var 7)))), (.ld none (.offp 2 (.var 8)))] [])
 (.seq
 (.chk [(.pick (.var 11) (.ld none (.offp 2 (.var 8))) (.const (.bool false))), (.pick (.var 11) (.conv .i64 (.ld none (.offp 3 (.var 7)))) (.const (.bool false))), (.pick (.var 11) (.ld (some 11) (.var 9)) (.const (.bool false))), (.pick (.var 11) (.var 0) (.const (.bool false)))])
 (.seq
 (.cond (.pick (.var 11) (.const (.bool true)) (.const (.bool false)))
 (.call (some 12) 78 [(.var 0), (.ld (some 11) (.var 9)), (.conv .i64 (.ld none (.offp 3 (.var 7)))), (.ld none (.offp 2 (.var 8)))] [])
 (.clr [12]))
 (.set 13 (.pick (.var 11) (.var 12) (.const (.bool false)))))))
 (.seq
 (.seq
 .skip
 (.seq
 (.chk [(.var 13)])
 (.seq
 (.call (some 14) 44 [(.ld (some 274) (.var 6)), (.bin .add (.ld none (.offp 0 (.var 6))) (.const (.int .i64 1)))] [])
 (.seq
 (.chk [(.pick (.var 13) (.offp 2 (.var 7)) (.const (.bool false)))])
 (.seq
 (.cond (.pick (.var 13) (.const (.bool true)) (.const (.bool false)))
 (.set 17 (.ld none (.offp 2 (.var 7))))
 (.clr [17]))
 (.seq
 (.set 16 (.pick (.var 13) (.bin .eql (.ld none (.offp 0 (.ixArr 11 11 (.offp 0 (.offp 1 (.var 6))) (.var 17)))) (.const (.int .i64 1))) (.const (.bool false))))
 (.seq
 (.row (some 15) 83 1 (.upd 0 274 (.const zA10) (.var 14)))
 (.seq
 (.set 4 (.var 15))
 (.set 5 (.var 16))))))))))
 .ret)))),
  [(.var 4), (.var 5)]⟩
theorem okx_50 : FnOk Tryz.prog 0 125 50 xf50 := fnOk_of Tryz.func50 (np := 4) (V := [0, 1, 2, 3, 8, 9, 5, 6, 7, 10, 17, 27, 36, 11, 42, 43, 54, 47]) (ks := []) (by kernel_rfl)

/- (*tipstaff/verify.checker).wide -/
def xf51 : XF := ⟨3, [0, 1, 2, 6, 7, 4, 5, 8, 36, 32, 34, 37, 43, 9, 10, 53],
  (.seq
 (.seq
 (.new (some 5) 83 (.var 1))
 (.seq
 (.new (some 6) 27 (.var 2))
 (.seq
 (.set 3 (.const (.slice none 0 0)))
 (.set 4 (.const (.bool false))))))
 (.seq
 (.cond (.bin .eql (.ld none (.offp 2 (.var 6))) (.const (.int .u8 0)))
 (.seq
 (.seq
 .skip
 (.set 7 (.bin .or (.conv .u64 (.conv .u32 (.ld none (.offp 4 (.var 6))))) (.bin .shl (.conv .u64 (.conv .u32 (.ld none (.offp 4 (.ixSl 5 (.ld none (.offp 0 (.nn (.var 0)))) (.bin .add (.ld none (.offp 0 (.var 5))) (.const (.int .i64 1)))))))) (.const (.int .u64 32))))))
 (.seq
 (.seq
 .skip
 (.seq
 (.set 9 (.ld (some 274) (.var 5)))
 (.seq
 (.set 10 (.ld none (.offp 1 (.var 6))))
 (.seq
 (.call (some 8) 65 [(.var 7)] [(.ld none (.offp 1 (.var 6))), (.ld (some 274) (.var 5))])
 (.seq
 (.call (some 11) 67 [(.var 9), (.var 10), (.var 8), (.const (.int .i64 2))] [])
 (.seq
 (.set 3 (.var 11))
 (.set 4 (.const (.bool true)))))))))
 .ret))
 .skip)
 (.seq
 (.seq
 (.call (some 12) 73 [(.var 0), (.conv .i64 (.ld none (.offp 4 (.var 6))))] [])
 (.seq
 (.chk [(.proj 1 (.var 12)), (.proj 0 (.var 12))])
 (.seq
 (.new (some 13) 53 (.const (.agg (Array.replicate 4 (.int .i64 0)))))
 (.seq
 (.store 4 (.var 13) (.proj 0 (.var 12)) [])
 (.set 14 (.proj 1 (.var 12)))))))
 (.seq
 (.seq
 (.chk [(.upd 7 1 (.upd 0 1 (.const zA4) (.const (.int .i64 4))) (.conv .i64 (.ld none (.offp 4 (.var 6)))))])
 (.seq
 (.call (some 15) 67 [(.ld (some 274) (.var 5)), (.ld none (.offp 1 (.var 6))), (.upd 7 1 (.upd 0 1 (.const zA4) (.const (.int .i64 4))) (.conv .i64 (.ld none (.offp 4 (.var 6))))), (.const (.int .i64 2))] [])
 (.seq
 (.chk [(.var 14)])
 (.seq
 (.set 3 (.var 15))
 (.set 4 (.var 14))))))
 .ret)))),
  [(.var 3), (.var 4)]⟩
theorem okx_51 : FnOk Tryz.prog 0 125 51 xf51 := fnOk_of Tryz.func51 (np := 3) (V := [0, 1, 2, 6, 7, 4, 5, 8, 36, 32, 34, 37, 43, 9, 10, 53]) (ks := []) (by kernel_rfl)

/- tipstaff/shape.plain -/
def xf52 : XF := ⟨2, [0, 1, 4, 2, 3, 5, 14, 33],
  (.seq
 (.seq
 (.new (some 3) 27 (.var 0))
 (.seq
 (.new (some 4) 115 (.var 1))
 (.set 2 (.const (.bool false)))))
 (.seq
 (.block 0
 (.seq
 (.set 5 (.pick (.bin .geq (.ld none (.offp 1 (.var 3))) (.const (.int .u8 11))) (.const (.bool true)) (.bin .geq (.ld none (.offp 2 (.var 3))) (.const (.int .u8 11)))))
 (.cond (.var 5)
 .skip
 (.seq
 (.set 6 (.pick (.pick (.un .not (.ld none (.offp 0 (.var 4)))) (.bin .neq (.ld none (.offp 1 (.var 3))) (.const (.int .u8 0))) (.const (.bool false))) (.const (.bool true)) (.pick (.un .not (.ld none (.offp 1 (.var 4)))) (.bin .neq (.ld none (.offp 2 (.var 3))) (.const (.int .u8 0))) (.const (.bool false)))))
 (.cond (.var 6)
 .skip
 (.seq
 (.set 7 (.pick (.pick (.un .not (.ld none (.offp 2 (.var 4)))) (.bin .neq (.ld none (.offp 3 (.var 3))) (.const (.int .i16 0))) (.const (.bool false))) (.const (.bool true)) (.pick (.un .not (.ld none (.offp 3 (.var 4)))) (.bin .neq (.ld none (.offp 4 (.var 3))) (.const (.int .i32 0))) (.const (.bool false)))))
 (.cond (.var 7)
 .skip
 (.seq
 (.set 2 (.const (.bool true)))
 .ret))))))))
 (.seq
 (.set 2 (.const (.bool false)))
 .ret))),
  [(.var 2)]⟩
theorem okx_52 : FnOk Tryz.prog 0 125 52 xf52 := fnOk_of Tryz.func52 (np := 2) (V := [0, 1, 4, 2, 3, 5, 14, 33]) (ks := []) (by kernel_rfl)
end Go.Proofs.YtfdeipckfdogfaaGreat
