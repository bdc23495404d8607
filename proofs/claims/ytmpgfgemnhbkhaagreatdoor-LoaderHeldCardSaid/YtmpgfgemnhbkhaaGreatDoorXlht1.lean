/- The interpreter's functions, part 1: made by program (geny.py). -/
import Derived.Test.YtmpgfgemnhbkhaaGreatDoorXlhz
import Derived.Test.YtmpgfgemnhbkhaaGreatDoorProg
set_option maxRecDepth 100000
set_option linter.unusedVariables false
namespace Go.Proofs.YtmpgfgemnhbkhaaGreatDoor
open Go.Eng
/- tipstaff/cfg.Loops -/
def xf86 : XF := ⟨1, [0, 2, 4],
  (.seq
 (.set 1 (.const (.bool false)))
 (.seq
 (.seq
 (.call (some 2) 146 [(.var 0)] [])
 (.set 1 (.ld none (.offp 2 (.nn (.var 2))))))
 .ret)),
  [(.var 1)]⟩
theorem okx_86 : FnOk Tryz.prog 3 377 86 xf86 := fnOk_of Tryz.func86 (np := 1) (V := [0, 2, 4]) (ks := []) (by kernel_rfl)

/- slices.IndexFunc[[]tipstaff/bmap.Spec,tipstaff/bmap.Spec] -/
def xf87 : XF := ⟨2, [0, 1, 4, 8, 7, 5, 16],
  (.seq
 (.set 2 (.const (.int .i64 0)))
 (.seq
 (.seq
 (.seq
 (.set 4 (.len false (.var 0)))
 (.set 3 (.const (.int .i64 0))))
 (.block 0
 (.loop [0, 1, 3, 4]
 (.seq
 (.cond (.bin .lss (.var 3) (.var 4))
 .skip
 (.exit 0))
 (.seq
 (.block 1
 (.seq
 (.set 5 (.var 3))
 (.seq
 (.dyn (some 6) (.var 1) [(.ld (some 4) (.ixSl 4 (.var 0) (.var 5)))] [])
 (.cond (.var 6)
 (.seq
 (.set 2 (.var 5))
 .ret)
 .skip))))
 (.set 3 (.bin .add (.var 3) (.const (.int .i64 1)))))))))
 (.seq
 (.set 2 (.const (.int .i64 (-1))))
 .ret))),
  [(.var 2)]⟩
theorem okx_87 : FnOk Tryz.prog 3 377 87 xf87 := fnOk_of Tryz.func87 (np := 2) (V := [0, 1, 4, 8, 7, 5, 16]) (ks := [[0, 1, 3, 4]]) (by kernel_rfl)

/- (*tipstaff/verify.checker).gone -/
def xf88 : XF := ⟨2, [0, 1, 4, 3, 11, 13],
  (.seq
 (.seq
 (.new (some 3) 132 (.var 1))
 (.set 2 (.const (.bool false))))
 (.seq
 (.seq
 .skip
 (.seq
 (.chk [(.cap1 (.const (.func (.func 149) #[] #[])) (.var 3))])
 (.seq
 (.look (some 4) (.slice none 0 0) false .i64 (.ld none (.offp 5 (.nn (.var 0)))) (.ld none (.offp 0 (.var 3))) [])
 (.seq
 (.call (some 5) 148 [(.var 4), (.cap1 (.const (.func (.func 149) #[] #[])) (.var 3))] [])
 (.set 2 (.var 5))))))
 .ret)),
  [(.var 2)]⟩
theorem okx_88 : FnOk Tryz.prog 3 377 88 xf88 := fnOk_of Tryz.func88 (np := 2) (V := [0, 1, 4, 3, 11, 13]) (ks := []) (by kernel_rfl)

/- (*tipstaff/verify.checker).step -/
def xf89 : XF := ⟨2, [0, 1, 4, 5, 3, 6, 15, 18, 7, 20, 21, 27, 30, 36, 39, 45, 41, 46, 47, 48, 53, 56, 64, 70, 73, 84, 76, 77, 78, 85, 88, 94, 97, 102, 11, 13],
  (.seq
 (.seq
 (.new (some 4) 132 (.var 1))
 (.seq
 (.set 2 (.const (.slice none 0 0)))
 (.set 3 (.const (.bool false)))))
 (.seq
 (.seq
 .skip
 (.seq
 (.set 34 (.ld none (.offp 0 (.nn (.var 0)))))
 (.seq
 (.set 35 (.ld none (.offp 0 (.var 4))))
 (.seq
 (.set 6 (.ld (some 5) (.ixSl 5 (.var 34) (.var 35))))
 (.seq
 (.new (some 5) 32 (.const zA2))
 (.store 5 (.var 5) (.var 6) []))))))
 (.seq
 (.seq
 (.call (some 7) 90 [(.ld none (.offp 0 (.var 5)))] [])
 (.seq
 (.new (some 8) 203 (.const zA3))
 (.store 5 (.var 8) (.var 7) [])))
 (.seq
 (.seq
 (.set 9 (.ld none (.offp 0 (.var 8))))
 (.block 0
 (.seq
 (.set 10 (.bin .eql (.var 9) (.const (.int .i64 1))))
 (.cond (.var 10)
 (.seq
 (.seq
 (.call (some 11) 151 [(.var 0), (.ld (some 274) (.var 4)), (.ld (some 5) (.var 5)), (.ld (some 5) (.var 8))] [])
 (.seq
 (.chk [(.proj 1 (.var 11))])
 (.seq
 (.set 2 (.proj 0 (.var 11)))
 (.set 3 (.proj 1 (.var 11))))))
 .ret)
 (.seq
 (.set 12 (.bin .eql (.var 9) (.const (.int .i64 2))))
 (.cond (.var 12)
 (.seq
 (.seq
 (.call (some 13) 152 [(.var 0), (.ld (some 274) (.var 4)), (.ld (some 5) (.var 5)), (.ld (some 5) (.var 8))] [])
 (.seq
 (.chk [(.proj 1 (.var 13))])
 (.seq
 (.set 2 (.proj 0 (.var 13)))
 (.set 3 (.proj 1 (.var 13))))))
 .ret)
 (.seq
 (.set 14 (.bin .eql (.var 9) (.const (.int .i64 3))))
 (.cond (.var 14)
 (.seq
 (.seq
 .skip
 (.seq
 (.set 16 (.ld (some 274) (.var 4)))
 (.seq
 (.call (some 15) 93 [(.ld none (.offp 0 (.var 4))), (.ld (some 5) (.var 5))] [(.ld (some 274) (.var 4))])
 (.seq
 (.call (some 17) 153 [(.var 16), (.var 15)] [])
 (.seq
 (.row (some 18) 132 1 (.upd 0 274 (.const zA23) (.var 17)))
 (.seq
 (.set 2 (.var 18))
 (.set 3 (.const (.bool true)))))))))
 .ret)
 (.seq
 (.set 19 (.bin .eql (.var 9) (.const (.int .i64 4))))
 (.cond (.var 19)
 (.seq
 (.seq
 (.call (some 20) 154 [(.var 0), (.ld (some 274) (.var 4)), (.ld (some 5) (.var 5))] [])
 (.seq
 (.chk [(.proj 1 (.var 20))])
 (.seq
 (.set 2 (.proj 0 (.var 20)))
 (.set 3 (.proj 1 (.var 20))))))
 .ret)
 (.seq
 (.set 21 (.bin .eql (.var 9) (.const (.int .i64 5))))
 (.cond (.var 21)
 (.seq
 (.seq
 .skip
 (.seq
 (.chk [(.bin .eql (.ld none (.offp 0 (.ixArr 11 11 (.offp 0 (.offp 1 (.var 4))) (.const (.int .i64 0))))) (.const (.int .i64 1)))])
 (.seq
 (.set 2 (.const (.slice none 0 0)))
 (.set 3 (.bin .eql (.ld none (.offp 0 (.ixArr 11 11 (.offp 0 (.offp 1 (.var 4))) (.const (.int .i64 0))))) (.const (.int .i64 1)))))))
 .ret)
 (.seq
 (.set 22 (.bin .eql (.var 9) (.const (.int .i64 6))))
 (.cond (.var 22)
 (.seq
 (.seq
 (.call (some 23) 155 [(.var 0), (.ld (some 274) (.var 4)), (.ld (some 5) (.var 5)), (.ld (some 5) (.var 8))] [])
 (.seq
 (.chk [(.proj 1 (.var 23))])
 (.seq
 (.set 2 (.proj 0 (.var 23)))
 (.set 3 (.proj 1 (.var 23))))))
 .ret)
 (.seq
 (.set 24 (.bin .eql (.var 9) (.const (.int .i64 7))))
 (.cond (.var 24)
 (.seq
 (.seq
 .skip
 (.seq
 (.chk [(.var 0)])
 (.seq
 (.set 26 (.ld (some 274) (.var 4)))
 (.seq
 (.set 27 (.ld (some 5) (.var 5)))
 (.seq
 (.set 28 (.ld (some 5) (.var 8)))
 (.seq
 (.call (some 25) 157 [(.ld (some 273) (.offp 1 (.var 4))), (.ld (some 5) (.var 5)), (.ld none (.offp 4 (.var 8)))] [(.ld (some 5) (.var 8)), (.ld (some 5) (.var 5)), (.ld (some 274) (.var 4))])
 (.seq
 (.call (some 29) 156 [(.var 0), (.var 26), (.var 27), (.var 28), (.var 25)] [])
 (.seq
 (.chk [(.proj 1 (.var 29))])
 (.seq
 (.set 2 (.proj 0 (.var 29)))
 (.set 3 (.proj 1 (.var 29))))))))))))
 .ret)
 (.seq
 (.set 30 (.bin .eql (.var 9) (.const (.int .i64 8))))
 (.cond (.var 30)
 (.seq
 (.seq
 (.call (some 31) 158 [(.var 0), (.ld (some 274) (.var 4)), (.ld (some 5) (.var 5)), (.ld (some 5) (.var 8))] [])
 (.seq
 (.chk [(.proj 1 (.var 31))])
 (.seq
 (.set 2 (.proj 0 (.var 31)))
 (.set 3 (.proj 1 (.var 31))))))
 .ret)
 (.seq
 (.set 32 (.bin .eql (.var 9) (.const (.int .i64 9))))
 (.cond (.var 32)
 (.seq
 (.seq
 (.call (some 33) 159 [(.var 0), (.ld (some 274) (.var 4)), (.ld (some 5) (.var 5))] [])
 (.seq
 (.chk [(.proj 1 (.var 33))])
 (.seq
 (.set 2 (.proj 0 (.var 33)))
 (.set 3 (.proj 1 (.var 33))))))
 .ret)
 .skip))))))))))))))))))))
 (.seq
 (.seq
 (.set 2 (.const (.slice none 0 0)))
 (.set 3 (.const (.bool false))))
 .ret))))),
  [(.var 2), (.var 3)]⟩
theorem okx_89 : FnOk Tryz.prog 3 377 89 xf89 := fnOk_of Tryz.func89 (np := 2) (V := [0, 1, 4, 5, 3, 6, 15, 18, 7, 20, 21, 27, 30, 36, 39, 45, 41, 46, 47, 48, 53, 56, 64, 70, 73, 84, 76, 77, 78, 85, 88, 94, 97, 102, 11, 13]) (ks := []) (by kernel_rfl)

/- tipstaff/insn.Of -/
def xf90 : XF := ⟨1, [0, 2, 4, 5, 9, 10, 14, 15, 20, 21, 22, 25],
  (.seq
 (.new (some 1) 203 (.const zA3))
 (.seq
 (.seq
 (.set 2 (.bin .and (.var 0) (.const (.int .u8 7))))
 (.block 0
 (.seq
 (.seq
 (.set 3 (.bin .eql (.var 2) (.const (.int .u8 4))))
 (.cond (.var 3)
 .skip
 (.set 3 (.bin .eql (.var 2) (.const (.int .u8 7))))))
 (.cond (.var 3)
 (.seq
 (.seq
 (.call (some 4) 160 [(.var 0)] [])
 (.store 5 (.var 1) (.var 4) []))
 .ret)
 (.seq
 (.seq
 (.set 5 (.bin .eql (.var 2) (.const (.int .u8 5))))
 (.cond (.var 5)
 .skip
 (.set 5 (.bin .eql (.var 2) (.const (.int .u8 6))))))
 (.cond (.var 5)
 (.seq
 (.seq
 (.call (some 6) 161 [(.var 0)] [])
 (.store 5 (.var 1) (.var 6) []))
 .ret)
 (.seq
 (.seq
 (.set 7 (.bin .eql (.var 2) (.const (.int .u8 1))))
 (.cond (.var 7)
 .skip
 (.seq
 (.set 7 (.bin .eql (.var 2) (.const (.int .u8 2))))
 (.cond (.var 7)
 .skip
 (.set 7 (.bin .eql (.var 2) (.const (.int .u8 3))))))))
 (.cond (.var 7)
 (.seq
 (.seq
 (.call (some 8) 162 [(.var 0)] [])
 (.store 5 (.var 1) (.var 8) []))
 .ret)
 .skip))))))))
 (.seq
 (.seq
 (.set 9 (.var 0))
 (.block 1
 (.seq
 (.set 10 (.bin .eql (.var 9) (.const (.int .u8 24))))
 (.cond (.var 10)
 (.seq
 (.seq
 (.chk [(.upd 2 1 (.upd 0 1 (.const zA3) (.const (.int .i64 9))) (.const (.int .i64 8)))])
 (.store 5 (.var 1) (.upd 2 1 (.upd 0 1 (.const zA3) (.const (.int .i64 9))) (.const (.int .i64 8))) []))
 .ret)
 (.seq
 (.set 11 (.bin .eql (.var 9) (.const (.int .u8 0))))
 (.cond (.var 11)
 (.seq
 (.seq
 (.chk [(.upd 0 1 (.const zA3) (.const (.int .i64 10)))])
 (.store 5 (.var 1) (.upd 0 1 (.const zA3) (.const (.int .i64 10))) []))
 .ret)
 .skip))))))
 (.seq
 (.store 5 (.var 1) (.const zA3) [])
 .ret)))),
  [(.ld (some 5) (.var 1))]⟩
theorem okx_90 : FnOk Tryz.prog 3 377 90 xf90 := fnOk_of Tryz.func90 (np := 1) (V := [0, 2, 4, 5, 9, 10, 14, 15, 20, 21, 22, 25]) (ks := []) (by kernel_rfl)

/- tipstaff/token.has -/
def xf104 : XF := ⟨2, [0, 1, 4, 5, 12],
  (.seq
 (.set 2 (.const (.int .i64 0)))
 (.seq
 (.block 0
 (.seq
 (.set 3 (.pick (.bin .lss (.var 1) (.const (.int .i64 0))) (.const (.bool true)) (.bin .geq (.var 1) (.const (.int .i64 16)))))
 (.cond (.var 3)
 (.seq
 (.set 2 (.const (.int .i64 22)))
 .ret)
 (.seq
 (.set 4 (.bin .eql (.bin .and (.bin .shr (.var 0) (.var 1)) (.const (.int .u16 1))) (.const (.int .u16 0))))
 (.cond (.var 4)
 (.seq
 (.set 2 (.const (.int .i64 1)))
 .ret)
 .skip)))))
 (.seq
 (.set 2 (.const (.int .i64 0)))
 .ret))),
  [(.var 2)]⟩
theorem okx_104 : FnOk Tryz.prog 3 377 104 xf104 := fnOk_of Tryz.func104 (np := 2) (V := [0, 1, 4, 5, 12]) (ks := []) (by kernel_rfl)

/- tipstaff/token.of -/
def xf105 : XF := ⟨1, [0, 2],
  (.seq
 (.new (some 1) 69 (.const zA4))
 (.seq
 (.cond (.isnil 0 false (.var 0))
 (.seq
 (.store 6 (.var 1) (.const zA4) [])
 .ret)
 .skip)
 (.seq
 (.store 6 (.var 1) (.ld (some 6) (.offp 1 (.nn (.var 0)))) [])
 .ret))),
  [(.ld (some 6) (.var 1))]⟩
theorem okx_105 : FnOk Tryz.prog 3 377 105 xf105 := fnOk_of Tryz.func105 (np := 1) (V := [0, 2]) (ks := []) (by kernel_rfl)

/- tipstaff/canon.Slots -/
def xf106 : XF := ⟨1, [0, 2, 3, 4, 11, 5, 6, 14, 13, 12, 8, 7, 18, 20, 25, 9, 33, 34],
  (.seq
 (.seq
 (.set 1 (.const (.slice none 0 0)))
 (.seq
 (.set 2 (.const (.slice none 0 0)))
 (.set 3 (.const (.int .i64 0)))))
 (.seq
 (.seq
 (.call (some 4) 179 [(.var 0)] [])
 (.set 5 (.var 4)))
 (.seq
 (.set 6 (.const (.slice none 0 0)))
 (.seq
 (.seq
 (.seq
 (.set 9 (.var 5))
 (.seq
 (.set 8 (.len false (.var 9)))
 (.set 7 (.const (.int .i64 0)))))
 (.block 0
 (.loop [5, 6, 7, 8, 9]
 (.seq
 (.cond (.bin .lss (.var 7) (.var 8))
 .skip
 (.exit 0))
 (.seq
 (.block 1
 (.seq
 (.seq
 (.set 12 (.ld (some 5) (.ixSl 5 (.var 9) (.var 7))))
 (.seq
 (.new (some 10) 32 (.const zA2))
 (.seq
 (.set 11 (.var 7))
 (.store 5 (.var 10) (.var 12) []))))
 (.seq
 (.seq
 (.call (some 13) 180 [(.ld (some 5) (.var 10))] [])
 (.cond (.un .not (.var 13))
 (.exit 1)
 .skip))
 (.seq
 (.seq
 (.call (some 14) 181 [(.var 6), (.ld none (.offp 4 (.var 10)))] [])
 (.set 15 (.var 14)))
 (.seq
 (.cond (.bin .lss (.var 15) (.const (.int .i64 0)))
 (.seq
 (.set 15 (.len false (.var 6)))
 (.seq
 (.chk [(.var 6)])
 (.seq
 (.row (some 16) 21 1 (.upd 0 1 (.const (.agg #[(.int .i32 0)])) (.ld none (.offp 4 (.var 10)))))
 (.seq
 (.app (some 17) 21 1 (.var 6) (.var 16) [])
 (.set 6 (.var 17))))))
 .skip)
 (.store 1 (.offp 4 (.ixSl 5 (.var 5) (.var 11))) (.conv .i32 (.var 15)) []))))))
 (.set 7 (.bin .add (.var 7) (.const (.int .i64 1)))))))))
 (.seq
 (.cond (.bin .gtr (.len false (.var 6)) (.const (.int .i64 4)))
 (.seq
 (.seq
 (.set 1 (.const (.slice none 0 0)))
 (.seq
 (.set 2 (.const (.slice none 0 0)))
 (.set 3 (.const (.int .i64 7)))))
 .ret)
 .skip)
 (.seq
 (.seq
 (.chk [(.var 6)])
 (.seq
 (.set 1 (.var 5))
 (.seq
 (.set 2 (.var 6))
 (.set 3 (.const (.int .i64 0))))))
 .ret)))))),
  [(.var 1), (.var 2), (.var 3)]⟩
theorem okx_106 : FnOk Tryz.prog 3 377 106 xf106 := fnOk_of Tryz.func106 (np := 1) (V := [0, 2, 3, 4, 11, 5, 6, 14, 13, 12, 8, 7, 18, 20, 25, 9, 33, 34]) (ks := [[5, 6, 7, 8, 9]]) (by kernel_rfl)

/- (*tipstaff/bmap.Map).Sum -/
def xf107 : XF := ⟨1, [0, 2, 14, 3, 41, 42, 4, 45, 44, 43, 6, 54, 61, 62, 63, 66, 58],
  (.seq
 (.new (some 1) 49 (.const (.agg (Array.replicate 32 (.int .u8 0)))))
 (.seq
 (.cond (.isnil 0 false (.var 0))
 (.seq
 (.store 32 (.var 1) (.const (.agg (Array.replicate 32 (.int .u8 0)))) [])
 .ret)
 .skip)
 (.seq
 (.seq
 (.call (some 2) 182 [(.ld none (.offp 4 (.nn (.var 0))))] [])
 (.set 3 (.var 2)))
 (.seq
 (.call none 183 [(.var 3), (.const (.func (.func 184) #[] #[]))] [])
 (.seq
 (.seq
 .skip
 (.seq
 (.row (some 4) 5 4 (.upd 3 1 (.upd 2 1 (.upd 1 1 (.upd 0 1 (.const (.agg (Array.replicate 4 (.int .u8 0)))) (.conv .u8 (.ld none (.offp 0 (.offp 0 (.nn (.var 0))))))) (.conv .u8 (.ld none (.offp 1 (.offp 0 (.nn (.var 0))))))) (.conv .u8 (.ld none (.offp 2 (.offp 0 (.nn (.var 0))))))) (.conv .u8 (.ld none (.offp 3 (.offp 0 (.nn (.var 0))))))))
 (.seq
 (.row (some 5) 55 1 (.upd 0 1 (.const (.agg #[(.slice none 0 0)])) (.var 4)))
 (.set 6 (.var 5)))))
 (.seq
 (.seq
 (.seq
 (.set 9 (.var 3))
 (.seq
 (.set 8 (.len false (.var 9)))
 (.set 7 (.const (.int .i64 0)))))
 (.block 0
 (.loop [1, 6, 7, 8, 9]
 (.seq
 (.cond (.bin .lss (.var 7) (.var 8))
 .skip
 (.exit 0))
 (.seq
 (.block 1
 (.seq
 (.set 10 (.ld none (.ixSl 1 (.var 9) (.var 7))))
 (.seq
 .skip
 (.seq
 (.chk [(.ld none (.offp 0 (.nn (.var 10)))), (.var 6)])
 (.seq
 (.set 16 (.ld none (.offp 1 (.nn (.var 10)))))
 (.seq
 (.set 12 (.ld none (.offp 0 (.nn (.var 16)))))
 (.seq
 badX
 (.seq
 (.row (some 13) 55 2 (.upd 1 1 (.upd 0 1 (.const (.agg #[(.slice none 0 0), (.slice none 0 0)])) (.var 11)) (.var 12)))
 (.seq
 (.app (some 14) 55 1 (.var 6) (.var 13) [])
 (.set 6 (.var 14)))))))))))
 (.set 7 (.bin .add (.var 7) (.const (.int .i64 1)))))))))
 (.seq
 (.seq
 (.call (some 15) 186 [(.var 6)] [])
 (.store 32 (.var 1) (.var 15) []))
 .ret))))))),
  [(.ld (some 32) (.var 1))]⟩
theorem okx_107 : FnOk Tryz.prog 3 377 107 xf107 := fnOk_of Tryz.func107 (np := 1) (V := [0, 2, 14, 3, 41, 42, 4, 45, 44, 43, 6, 54, 61, 62, 63, 66, 58]) (ks := [[1, 6, 7, 8, 9]]) (by kernel_rfl)

/- tipstaff/canon.Sum -/
def xf108 : XF := ⟨2, [0, 1, 4, 9, 10, 5, 13, 12, 11, 7, 16, 19, 20, 23],
  (.seq
 (.new (some 2) 49 (.const (.agg (Array.replicate 32 (.int .u8 0)))))
 (.seq
 (.seq
 (.call (some 3) 187 [(.var 0)] [])
 (.seq
 (.row (some 4) 55 1 (.upd 0 1 (.const (.agg #[(.slice none 0 0)])) (.var 3)))
 (.set 5 (.var 4))))
 (.seq
 (.seq
 (.seq
 (.set 8 (.var 1))
 (.seq
 (.set 7 (.len false (.var 8)))
 (.set 6 (.const (.int .i64 0)))))
 (.block 0
 (.loop [2, 5, 6, 7, 8]
 (.seq
 (.cond (.bin .lss (.var 6) (.var 7))
 .skip
 (.exit 0))
 (.seq
 (.block 1
 (.seq
 (.seq
 (.set 10 (.ld (some 32) (.ixSl 32 (.var 8) (.var 6))))
 (.seq
 (.new (some 9) 49 (.const (.agg (Array.replicate 32 (.int .u8 0)))))
 (.store 32 (.var 9) (.var 10) [])))
 (.seq
 (.chk [(.var 5)])
 (.seq
 (.row (some 11) 55 1 (.upd 0 1 (.const (.agg #[(.slice none 0 0)])) (.slArr 32 1 (.var 9) (.const (.int .i64 0)) (.const (.int .i64 32)))))
 (.seq
 (.app (some 12) 55 1 (.var 5) (.var 11) [])
 (.set 5 (.var 12)))))))
 (.set 6 (.bin .add (.var 6) (.const (.int .i64 1)))))))))
 (.seq
 (.seq
 (.call (some 13) 186 [(.var 5)] [])
 (.store 32 (.var 2) (.var 13) []))
 .ret)))),
  [(.ld (some 32) (.var 2))]⟩
theorem okx_108 : FnOk Tryz.prog 3 377 108 xf108 := fnOk_of Tryz.func108 (np := 2) (V := [0, 1, 4, 9, 10, 5, 13, 12, 11, 7, 16, 19, 20, 23]) (ks := [[2, 5, 6, 7, 8]]) (by kernel_rfl)

/- tipstaff/verify.Helpers -/
def xf109 : XF := ⟨1, [0, 2, 3, 8, 7, 6, 5, 11, 14, 20, 21, 26],
  (.seq
 (.set 1 (.const (.slice none 0 0)))
 (.seq
 (.set 2 (.const (.slice none 0 0)))
 (.seq
 (.seq
 (.seq
 (.set 5 (.var 0))
 (.seq
 (.set 4 (.len false (.var 5)))
 (.set 3 (.const (.int .i64 0)))))
 (.block 0
 (.loop [2, 3, 4, 5]
 (.seq
 (.cond (.bin .lss (.var 3) (.var 4))
 .skip
 (.exit 0))
 (.seq
 (.block 1
 (.seq
 (.seq
 (.set 7 (.ld (some 5) (.ixSl 5 (.var 5) (.var 3))))
 (.seq
 (.new (some 6) 32 (.const zA2))
 (.store 5 (.var 6) (.var 7) [])))
 (.seq
 (.call (some 8) 90 [(.ld none (.offp 0 (.var 6)))] [])
 (.cond (.bin .eql (.part none 0 (.var 8)) (.const (.int .i64 4)))
 (.seq
 (.chk [(.var 2)])
 (.seq
 (.row (some 9) 21 1 (.upd 0 1 (.const (.agg #[(.int .i32 0)])) (.ld none (.offp 4 (.var 6)))))
 (.seq
 (.app (some 10) 21 1 (.var 2) (.var 9) [])
 (.set 2 (.var 10)))))
 .skip))))
 (.set 3 (.bin .add (.var 3) (.const (.int .i64 1)))))))))
 (.seq
 (.call none 188 [(.var 2)] [])
 (.seq
 (.seq
 (.call (some 11) 189 [(.var 2)] [])
 (.set 1 (.var 11)))
 .ret))))),
  [(.var 1)]⟩
theorem okx_109 : FnOk Tryz.prog 3 377 109 xf109 := fnOk_of Tryz.func109 (np := 1) (V := [0, 2, 3, 8, 7, 6, 5, 11, 14, 20, 21, 26]) (ks := [[2, 3, 4, 5]]) (by kernel_rfl)

/- tipstaff/token.Helper -/
def xf110 : XF := ⟨2, [0, 1, 4, 9, 5, 6, 15, 18],
  (.seq
 (.set 2 (.const (.int .i64 0)))
 (.seq
 (.seq
 (.call (some 3) 190 [(.var 1)] [])
 (.seq
 (.chk [(.proj 1 (.var 3))])
 (.seq
 (.set 4 (.proj 0 (.var 3)))
 (.set 5 (.proj 1 (.var 3))))))
 (.seq
 (.cond (.un .not (.var 5))
 (.seq
 (.set 2 (.const (.int .i64 22)))
 .ret)
 .skip)
 (.seq
 (.seq
 (.call (some 6) 105 [(.var 0)] [])
 (.seq
 (.call (some 7) 104 [(.part none 3 (.var 6)), (.var 4)] [])
 (.set 2 (.var 7))))
 .ret)))),
  [(.var 2)]⟩
theorem okx_110 : FnOk Tryz.prog 3 377 110 xf110 := fnOk_of Tryz.func110 (np := 2) (V := [0, 1, 4, 9, 5, 6, 15, 18]) (ks := []) (by kernel_rfl)

/- tipstaff/token.Map -/
def xf111 : XF := ⟨2, [0, 1, 4, 6, 9],
  (.seq
 (.set 2 (.const (.int .i64 0)))
 (.seq
 (.seq
 (.call (some 3) 105 [(.var 0)] [])
 (.seq
 (.call (some 4) 104 [(.part none 2 (.var 3)), (.var 1)] [])
 (.set 2 (.var 4))))
 .ret)),
  [(.var 2)]⟩
theorem okx_111 : FnOk Tryz.prog 3 377 111 xf111 := fnOk_of Tryz.func111 (np := 2) (V := [0, 1, 4, 6, 9]) (ks := []) (by kernel_rfl)

/- (*tipstaff/bmap.Map).Spec -/
def xf112 : XF := ⟨1, [0, 2],
  (.seq
 (.new (some 1) 24 (.const (.agg (Array.replicate 4 (.int .i64 0)))))
 (.seq
 (.cond (.isnil 0 false (.var 0))
 (.seq
 (.store 4 (.var 1) (.const (.agg (Array.replicate 4 (.int .i64 0)))) [])
 .ret)
 .skip)
 (.seq
 (.store 4 (.var 1) (.ld (some 4) (.offp 0 (.nn (.var 0)))) [])
 .ret))),
  [(.ld (some 4) (.var 1))]⟩
theorem okx_112 : FnOk Tryz.prog 3 377 112 xf112 := fnOk_of Tryz.func112 (np := 1) (V := [0, 2]) (ks := []) (by kernel_rfl)

/- (*tipstaff/bmap.Map).Frozen -/
def xf113 : XF := ⟨1, [0, 2],
  (.seq
 (.set 1 (.const (.bool false)))
 (.seq
 (.set 1 (.pick (.isnil 0 true (.var 0)) (.ld none (.offp 5 (.nn (.var 0)))) (.const (.bool false))))
 .ret)),
  [(.var 1)]⟩
theorem okx_113 : FnOk Tryz.prog 3 377 113 xf113 := fnOk_of Tryz.func113 (np := 1) (V := [0, 2]) (ks := []) (by kernel_rfl)

/- (*tipstaff/space.Tree).Depth -/
def xf118 : XF := ⟨2, [0, 1, 4, 5, 11, 6, 7],
  (.seq
 (.seq
 (.set 2 (.const (.int .i64 0)))
 (.set 3 (.const (.int .i64 0))))
 (.seq
 (.seq
 (.call (some 4) 193 [(.var 0), (.var 1)] [])
 (.seq
 (.chk [(.proj 1 (.var 4)), (.proj 0 (.var 4))])
 (.seq
 (.new (some 5) 312 (.const (.agg #[(.int .i64 0), (.int .i64 0)])))
 (.seq
 (.store 2 (.var 5) (.proj 0 (.var 4)) [])
 (.set 6 (.proj 1 (.var 4)))))))
 (.seq
 (.seq
 (.chk [(.var 6)])
 (.seq
 (.set 2 (.ld none (.offp 1 (.var 5))))
 (.set 3 (.var 6))))
 .ret))),
  [(.var 2), (.var 3)]⟩
theorem okx_118 : FnOk Tryz.prog 3 377 118 xf118 := fnOk_of Tryz.func118 (np := 2) (V := [0, 1, 4, 5, 11, 6, 7]) (ks := []) (by kernel_rfl)

/- tipstaff/rights.Within -/
def xf119 : XF := ⟨2, [0, 1, 4, 2, 3, 7, 8],
  (.seq
 (.seq
 (.new (some 3) 69 (.var 0))
 (.seq
 (.new (some 4) 69 (.var 1))
 (.set 2 (.const (.bool false)))))
 (.seq
 (.seq
 .skip
 (.seq
 (.chk [(.ld (some 6) (.var 4))])
 (.seq
 (.set 6 (.ld (some 6) (.var 3)))
 (.seq
 (.call (some 5) 194 [(.ld (some 6) (.var 3)), (.ld (some 6) (.var 4))] [(.ld (some 6) (.var 3))])
 (.set 2 (.eqx false (.cons 0 none .int (.cons 1 none .int (.cons 2 none .int (.cons 3 none .int (.cons 4 none .bool (.cons 5 none .bool .nil)))))) (.var 5) (.var 6)))))))
 .ret)),
  [(.var 2)]⟩
theorem okx_119 : FnOk Tryz.prog 3 377 119 xf119 := fnOk_of Tryz.func119 (np := 2) (V := [0, 1, 4, 2, 3, 7, 8]) (ks := []) (by kernel_rfl)

/- slices.Index[[]*tipstaff/bmap.Map,*tipstaff/bmap.Map] -/
def xf120 : XF := ⟨2, [0, 1, 4, 8, 7, 5],
  (.seq
 (.set 2 (.const (.int .i64 0)))
 (.seq
 (.seq
 (.seq
 (.set 4 (.len false (.var 0)))
 (.set 3 (.const (.int .i64 0))))
 (.block 0
 (.loop [0, 1, 3, 4]
 (.seq
 (.cond (.bin .lss (.var 3) (.var 4))
 .skip
 (.exit 0))
 (.seq
 (.block 1
 (.seq
 (.set 5 (.var 3))
 (.cond (.eqx false .ptr (.var 1) (.ld none (.ixSl 1 (.var 0) (.var 5))))
 (.seq
 (.set 2 (.var 5))
 .ret)
 .skip)))
 (.set 3 (.bin .add (.var 3) (.const (.int .i64 1)))))))))
 (.seq
 (.set 2 (.const (.int .i64 (-1))))
 .ret))),
  [(.var 2)]⟩
theorem okx_120 : FnOk Tryz.prog 3 377 120 xf120 := fnOk_of Tryz.func120 (np := 2) (V := [0, 1, 4, 8, 7, 5]) (ks := [[0, 1, 3, 4]]) (by kernel_rfl)

/- tipstaff/digest.words -/
def xf141 : XF := ⟨1, [0, 2, 3, 13, 12, 11, 4, 5, 6, 7, 8, 43, 45, 9, 51, 53, 10],
  (.seq
 (.new (some 1) 259 (.const (.agg (Array.replicate 64 (.int .u32 0)))))
 (.seq
 (.new (some 2) 259 (.const (.agg (Array.replicate 64 (.int .u32 0)))))
 (.seq
 (.seq
 (.seq
 (.set 5 (.var 0))
 (.seq
 (.set 4 (.len false (.var 5)))
 (.set 3 (.const (.int .i64 0)))))
 (.block 0
 (.loop [1, 2, 3, 4, 5]
 (.seq
 (.cond (.bin .lss (.var 3) (.var 4))
 .skip
 (.exit 0))
 (.seq
 (.block 1
 (.seq
 (.seq
 (.chk [(.ld none (.ixSl 1 (.var 5) (.var 3)))])
 (.seq
 (.set 6 (.var 3))
 (.set 7 (.ld none (.ixSl 1 (.var 5) (.var 3))))))
 (.store 1 (.ixArr 64 1 (.var 2) (.bin .quo (.var 6) (.const (.int .i64 4)))) (.bin .or (.bin .shl (.ld none (.ixArr 64 1 (.var 2) (.bin .quo (.var 6) (.const (.int .i64 4))))) (.const (.int .u64 8))) (.conv .u32 (.var 7))) [])))
 (.set 3 (.bin .add (.var 3) (.const (.int .i64 1)))))))))
 (.seq
 (.seq
 (.set 8 (.const (.int .i64 16)))
 (.block 2
 (.loop [1, 2, 8]
 (.seq
 (.cond (.bin .lss (.var 8) (.const (.int .i64 64)))
 .skip
 (.exit 2))
 (.seq
 (.block 3
 (.seq
 (.seq
 .skip
 (.seq
 (.chk [(.ld none (.ixArr 64 1 (.var 2) (.bin .sub (.var 8) (.const (.int .i64 2)))))])
 (.seq
 (.set 9 (.ld none (.ixArr 64 1 (.var 2) (.bin .sub (.var 8) (.const (.int .i64 15))))))
 (.set 10 (.ld none (.ixArr 64 1 (.var 2) (.bin .sub (.var 8) (.const (.int .i64 2)))))))))
 (.seq
 (.seq
 (.call (some 11) 142 [(.var 9), (.const (.int .i64 7))] [])
 (.seq
 (.call (some 12) 142 [(.var 9), (.const (.int .i64 18))] [])
 (.set 13 (.bin .xor (.bin .xor (.var 11) (.var 12)) (.bin .shr (.var 9) (.const (.int .u64 3)))))))
 (.seq
 (.seq
 (.call (some 14) 142 [(.var 10), (.const (.int .i64 17))] [])
 (.seq
 (.call (some 15) 142 [(.var 10), (.const (.int .i64 19))] [])
 (.set 16 (.bin .xor (.bin .xor (.var 14) (.var 15)) (.bin .shr (.var 10) (.const (.int .u64 10)))))))
 (.seq
 .skip
 (.store 1 (.ixArr 64 1 (.var 2) (.var 8)) (.bin .add (.bin .add (.bin .add (.var 16) (.ld none (.ixArr 64 1 (.var 2) (.bin .sub (.var 8) (.const (.int .i64 7)))))) (.var 13)) (.ld none (.ixArr 64 1 (.var 2) (.bin .sub (.var 8) (.const (.int .i64 16)))))) []))))))
 (.set 8 (.bin .add (.var 8) (.const (.int .i64 1)))))))))
 (.seq
 (.store 64 (.var 1) (.ld (some 64) (.var 2)) [])
 .ret))))),
  [(.ld (some 64) (.var 1))]⟩
theorem okx_141 : FnOk Tryz.prog 3 377 141 xf141 := fnOk_of Tryz.func141 (np := 1) (V := [0, 2, 3, 13, 12, 11, 4, 5, 6, 7, 8, 43, 45, 9, 51, 53, 10]) (ks := [[1, 2, 3, 4, 5], [1, 2, 8]]) (by kernel_rfl)

/- tipstaff/digest.right -/
def xf142 : XF := ⟨2, [0, 1, 4, 8],
  (.seq
 (.set 2 (.const (.int .u32 0)))
 (.seq
 (.seq
 (.call (some 3) 217 [(.var 0), (.un .neg (.var 1))] [])
 (.set 2 (.var 3)))
 .ret)),
  [(.var 2)]⟩
theorem okx_142 : FnOk Tryz.prog 3 377 142 xf142 := fnOk_of Tryz.func142 (np := 2) (V := [0, 1, 4, 8]) (ks := []) (by kernel_rfl)

/- tipstaff/shape.one -/
def xf143 : XF := ⟨2, [0, 1, 4, 5, 12, 15, 6, 22, 20, 19, 23, 29, 26, 37, 38, 43, 44, 49, 7, 8, 53, 57, 58, 62, 63, 73],
  (.seq
 (.set 2 (.const (.bool false)))
 (.seq
 (.seq
 (.set 4 (.ld (some 5) (.ixSl 5 (.var 0) (.var 1))))
 (.seq
 (.new (some 3) 32 (.const zA2))
 (.store 5 (.var 3) (.var 4) [])))
 (.seq
 (.seq
 (.call (some 5) 90 [(.ld none (.offp 0 (.var 3)))] [])
 (.seq
 (.new (some 6) 203 (.const zA3))
 (.store 5 (.var 6) (.var 5) [])))
 (.seq
 (.seq
 (.seq
 .skip
 (.seq
 (.set 9 (.bin .eql (.ld none (.offp 0 (.var 6))) (.const (.int .i64 0))))
 (.seq
 (.cond (.pick (.var 9) (.const (.bool false)) (.const (.bool true)))
 (.set 8 (.ld (some 5) (.var 3)))
 (.clr [8]))
 (.seq
 (.chk [(.pick (.var 9) (.const (.bool false)) (.ld (some 5) (.var 6)))])
 (.seq
 (.cond (.pick (.var 9) (.const (.bool false)) (.const (.bool true)))
 (.call (some 7) 219 [(.ld (some 5) (.var 6))] [(.ld (some 5) (.var 3))])
 (.clr [7]))
 (.seq
 (.cond (.pick (.var 9) (.const (.bool false)) (.const (.bool true)))
 (.call (some 10) 218 [(.var 8), (.var 7)] [])
 (.clr [10]))
 (.seq
 (.set 12 (.pick (.var 9) (.const (.bool true)) (.un .not (.var 10))))
 (.seq
 (.chk [(.pick (.var 12) (.const (.bool false)) (.ld none (.offp 0 (.var 6))))])
 (.cond (.pick (.var 12) (.const (.bool false)) (.const (.bool true)))
 (.call (some 11) 220 [(.ld none (.offp 0 (.var 6)))] [])
 (.clr [11]))))))))))
 (.cond (.pick (.var 12) (.const (.bool true)) (.pick (.var 11) (.bin .eql (.ld none (.offp 1 (.var 3))) (.const (.int .u8 10))) (.const (.bool false))))
 (.seq
 (.set 2 (.const (.bool false)))
 .ret)
 .skip))
 (.seq
 (.seq
 (.set 13 (.ld none (.offp 0 (.var 6))))
 (.block 0
 (.seq
 (.set 14 (.bin .eql (.var 13) (.const (.int .i64 1))))
 (.cond (.var 14)
 (.seq
 (.seq
 (.call (some 15) 221 [(.ld (some 5) (.var 6)), (.ld none (.offp 4 (.var 3)))] [])
 (.set 2 (.var 15)))
 .ret)
 (.seq
 (.set 16 (.bin .eql (.var 13) (.const (.int .i64 4))))
 (.cond (.var 16)
 (.seq
 (.seq
 (.call (some 17) 222 [(.ld none (.offp 4 (.var 3)))] [])
 (.seq
 (.chk [(.proj 1 (.var 17))])
 (.seq
 (.set 18 (.proj 0 (.var 17)))
 (.set 19 (.proj 1 (.var 17))))))
 (.seq
 (.set 2 (.var 19))
 .ret))
 (.seq
 (.set 20 (.bin .eql (.var 13) (.const (.int .i64 8))))
 (.cond (.var 20)
 (.seq
 (.seq
 (.call (some 21) 223 [(.ld none (.offp 4 (.var 3)))] [])
 (.set 2 (.var 21)))
 .ret)
 (.seq
 (.set 22 (.bin .eql (.var 13) (.const (.int .i64 9))))
 (.cond (.var 22)
 (.seq
 (.seq
 (.call (some 23) 224 [(.var 0), (.var 1)] [])
 (.set 2 (.var 23)))
 .ret)
 (.seq
 (.set 24 (.bin .eql (.var 13) (.const (.int .i64 10))))
 (.cond (.var 24)
 (.seq
 (.seq
 (.chk [(.pick (.bin .gtr (.var 1) (.const (.int .i64 0))) (.ld (some 5) (.ixSl 5 (.var 0) (.bin .sub (.var 1) (.const (.int .i64 1))))) (.const (.bool false)))])
 (.seq
 (.cond (.pick (.bin .gtr (.var 1) (.const (.int .i64 0))) (.const (.bool true)) (.const (.bool false)))
 (.call (some 25) 145 [(.ld (some 5) (.ixSl 5 (.var 0) (.bin .sub (.var 1) (.const (.int .i64 1)))))] [])
 (.clr [25]))
 (.set 2 (.pick (.bin .gtr (.var 1) (.const (.int .i64 0))) (.bin .eql (.var 25) (.const (.int .i64 9))) (.const (.bool false))))))
 .ret)
 .skip))))))))))))
 (.seq
 (.set 2 (.const (.bool true)))
 .ret)))))),
  [(.var 2)]⟩
theorem okx_143 : FnOk Tryz.prog 3 377 143 xf143 := fnOk_of Tryz.func143 (np := 2) (V := [0, 1, 4, 5, 12, 15, 6, 22, 20, 19, 23, 29, 26, 37, 38, 43, 44, 49, 7, 8, 53, 57, 58, 62, 63, 73]) (ks := []) (by kernel_rfl)

/- tipstaff/shape.lands -/
def xf144 : XF := ⟨2, [0, 1, 4, 11, 5, 23, 6, 37],
  (.seq
 (.set 2 (.const (.bool false)))
 (.seq
 (.seq
 (.seq
 (.call (some 3) 145 [(.ld (some 5) (.ixSl 5 (.var 0) (.var 1)))] [])
 (.set 4 (.var 3)))
 (.cond (.pick (.bin .neq (.var 4) (.const (.int .i64 2))) (.bin .neq (.var 4) (.const (.int .i64 3))) (.const (.bool false)))
 (.seq
 (.set 2 (.const (.bool true)))
 .ret)
 .skip))
 (.seq
 (.seq
 (.call (some 5) 93 [(.var 1), (.ld (some 5) (.ixSl 5 (.var 0) (.var 1)))] [])
 (.set 6 (.var 5)))
 (.seq
 (.seq
 (.chk [(.pick (.pick (.bin .geq (.var 6) (.const (.int .i64 0))) (.bin .lss (.var 6) (.len false (.var 0))) (.const (.bool false))) (.ld (some 5) (.ixSl 5 (.var 0) (.var 6))) (.const (.bool false)))])
 (.seq
 (.cond (.pick (.pick (.bin .geq (.var 6) (.const (.int .i64 0))) (.bin .lss (.var 6) (.len false (.var 0))) (.const (.bool false))) (.const (.bool true)) (.const (.bool false)))
 (.call (some 7) 145 [(.ld (some 5) (.ixSl 5 (.var 0) (.var 6)))] [])
 (.clr [7]))
 (.set 2 (.pick (.pick (.bin .geq (.var 6) (.const (.int .i64 0))) (.bin .lss (.var 6) (.len false (.var 0))) (.const (.bool false))) (.bin .neq (.var 7) (.const (.int .i64 10))) (.const (.bool false))))))
 .ret)))),
  [(.var 2)]⟩
theorem okx_144 : FnOk Tryz.prog 3 377 144 xf144 := fnOk_of Tryz.func144 (np := 2) (V := [0, 1, 4, 11, 5, 23, 6, 37]) (ks := []) (by kernel_rfl)

/- tipstaff/shape.kind -/
def xf145 : XF := ⟨1, [0, 2, 1, 5],
  (.seq
 (.seq
 (.new (some 2) 32 (.var 0))
 (.set 1 (.const (.int .i64 0))))
 (.seq
 (.seq
 (.call (some 3) 90 [(.ld none (.offp 0 (.var 2)))] [])
 (.set 1 (.part none 0 (.var 3))))
 .ret)),
  [(.var 1)]⟩
theorem okx_145 : FnOk Tryz.prog 3 377 145 xf145 := fnOk_of Tryz.func145 (np := 1) (V := [0, 2, 1, 5]) (ks := []) (by kernel_rfl)

/- tipstaff/cfg.walked -/
def xf146 : XF := ⟨1, [0, 2, 7, 9, 3],
  (.seq
 (.set 1 (.const (.pointer none)))
 (.seq
 (.seq
 (.mk (some 2) 3 [(.int .i64 0)] (.len false (.var 0)) (.len false (.var 0)) [])
 (.seq
 (.chk [(.upd 1 1 (.upd 0 1 (.const (.agg #[(.slice none 0 0), (.slice none 0 0), (.bool false)])) (.var 0)) (.var 2))])
 (.seq
 (.new (some 3) 268 (.upd 1 1 (.upd 0 1 (.const (.agg #[(.slice none 0 0), (.slice none 0 0), (.bool false)])) (.var 0)) (.var 2)))
 (.set 4 (.var 3)))))
 (.seq
 (.cond (.bin .gtr (.len false (.var 0)) (.const (.int .i64 0)))
 (.call none 225 [(.var 4), (.const (.int .i64 0))] [])
 .skip)
 (.seq
 (.set 1 (.var 4))
 .ret)))),
  [(.var 1)]⟩
theorem okx_146 : FnOk Tryz.prog 3 377 146 xf146 := fnOk_of Tryz.func146 (np := 1) (V := [0, 2, 7, 9, 3]) (ks := []) (by kernel_rfl)

/- tipstaff/cfg.kind -/
def xf147 : XF := ⟨1, [0, 2, 1, 5],
  (.seq
 (.seq
 (.new (some 2) 32 (.var 0))
 (.set 1 (.const (.int .i64 0))))
 (.seq
 (.seq
 (.call (some 3) 90 [(.ld none (.offp 0 (.var 2)))] [])
 (.set 1 (.part none 0 (.var 3))))
 .ret)),
  [(.var 1)]⟩
theorem okx_147 : FnOk Tryz.prog 3 377 147 xf147 := fnOk_of Tryz.func147 (np := 1) (V := [0, 2, 1, 5]) (ks := []) (by kernel_rfl)

/- slices.ContainsFunc[[]tipstaff/absreg.State,tipstaff/absreg.State] -/
def xf148 : XF := ⟨2, [0, 1, 4, 7],
  (.seq
 (.set 2 (.const (.bool false)))
 (.seq
 (.seq
 (.call (some 3) 226 [(.var 0), (.var 1)] [])
 (.set 2 (.bin .geq (.var 3) (.const (.int .i64 0)))))
 .ret)),
  [(.var 2)]⟩
theorem okx_148 : FnOk Tryz.prog 3 377 148 xf148 := fnOk_of Tryz.func148 (np := 2) (V := [0, 1, 4, 7]) (ks := []) (by kernel_rfl)

/- (*tipstaff/verify.checker).alu -/
def xf151 : XF := ⟨4, [0, 1, 2, 3, 8, 9, 5, 6, 7, 26, 10, 11, 20, 22, 23, 25, 35, 52, 12, 58, 65, 13, 14, 84, 16],
  (.seq
 (.seq
 (.new (some 6) 132 (.var 1))
 (.seq
 (.new (some 7) 32 (.var 2))
 (.seq
 (.new (some 8) 203 (.var 3))
 (.seq
 (.set 4 (.const (.slice none 0 0)))
 (.set 5 (.const (.bool false)))))))
 (.seq
 (.seq
 .skip
 (.seq
 (.set 24 (.ld none (.offp 1 (.var 7))))
 (.seq
 (.set 12 (.ld (some 11) (.ixArr 11 11 (.offp 0 (.offp 1 (.var 6))) (.var 24))))
 (.seq
 (.set 13 (.ld (some 273) (.offp 1 (.var 6))))
 (.seq
 (.set 14 (.ld (some 5) (.var 7)))
 (.seq
 (.set 15 (.ld none (.offp 4 (.var 8))))
 (.seq
 (.resv 2)
 (.seq
 (.clr [10, 11])
 (.seq
 (.chk [(.const zA9), (.const zA9)])
 (.seq
 (.call (some 9) 157 [(.var 13), (.var 14), (.var 15)] [(.ld none (.offp 4 (.var 8))), (.ld (some 5) (.var 7)), (.ld (some 273) (.offp 1 (.var 6))), (.ld (some 11) (.ixArr 11 11 (.offp 0 (.offp 1 (.var 6))) (.var 24))), (.ld none (.offp 1 (.var 7)))])
 (.seq
 (.newR 0 10 124 (.const zA9))
 (.seq
 (.newR 1 11 124 (.const zA9))
 (.seq
 (.store 11 (.var 10) (.var 12) [])
 (.seq
 (.store 11 (.var 11) (.var 9) [])
 .skip))))))))))))))
 (.seq
 (.cond (.pick (.bin .eql (.ld none (.offp 1 (.var 8))) (.const (.int .i64 11))) (.bin .eql (.ld none (.offp 0 (.var 11))) (.const (.int .i64 1))) (.const (.bool false)))
 (.seq
 (.call (some 16) 228 [(.const (.int .u64 0))] [])
 (.store 11 (.var 10) (.var 16) []))
 .skip)
 (.seq
 (.cond (.pick (.bin .eql (.ld none (.offp 0 (.var 10))) (.const (.int .i64 1))) (.bin .eql (.ld none (.offp 0 (.var 11))) (.const (.int .i64 1))) (.const (.bool false)))
 (.seq
 (.seq
 (.call (some 17) 229 [(.ld none (.offp 1 (.var 8))), (.ld none (.offp 3 (.var 8))), (.ld (some 6) (.offp 1 (.var 10))), (.ld (some 6) (.offp 1 (.var 11)))] [])
 (.seq
 (.chk [(.upd 1 6 (.upd 0 1 (.const zA9) (.const (.int .i64 1))) (.var 17))])
 (.seq
 (.new (some 18) 124 (.const zA9))
 (.store 11 (.var 18) (.upd 1 6 (.upd 0 1 (.const zA9) (.const (.int .i64 1))) (.var 17)) []))))
 (.seq
 (.seq
 (.call (some 19) 230 [(.ld (some 274) (.var 6)), (.ld none (.offp 1 (.var 7))), (.ld (some 11) (.var 18)), (.const (.int .i64 1))] [])
 (.seq
 (.set 4 (.var 19))
 (.set 5 (.const (.bool true)))))
 .ret))
 .skip)
 (.seq
 (.seq
 (.call (some 20) 231 [(.var 0), (.ld none (.offp 1 (.var 8))), (.ld (some 11) (.var 10)), (.ld (some 11) (.var 11))] [])
 (.seq
 (.chk [(.proj 1 (.var 20)), (.proj 0 (.var 20))])
 (.seq
 (.new (some 21) 124 (.const zA9))
 (.seq
 (.store 11 (.var 21) (.proj 0 (.var 20)) [])
 (.set 22 (.proj 1 (.var 20)))))))
 (.seq
 (.cond (.pick (.pick (.un .not (.var 22)) (.const (.bool true)) (.un .not (.ld none (.offp 3 (.var 8))))) (.const (.bool true)) (.bin .eql (.ld none (.offp 1 (.var 8))) (.const (.int .i64 8))))
 (.seq
 (.seq
 (.set 4 (.const (.slice none 0 0)))
 (.set 5 (.const (.bool false))))
 .ret)
 .skip)
 (.seq
 (.seq
 (.call (some 23) 230 [(.ld (some 274) (.var 6)), (.ld none (.offp 1 (.var 7))), (.ld (some 11) (.var 21)), (.const (.int .i64 1))] [])
 (.seq
 (.set 4 (.var 23))
 (.set 5 (.const (.bool true)))))
 .ret))))))),
  [(.var 4), (.var 5)]⟩
theorem okx_151 : FnOk Tryz.prog 3 377 151 xf151 := fnOk_of Tryz.func151 (np := 4) (V := [0, 1, 2, 3, 8, 9, 5, 6, 7, 26, 10, 11, 20, 22, 23, 25, 35, 52, 12, 58, 65, 13, 14, 84, 16]) (ks := []) (by kernel_rfl)

/- (tipstaff/verify.way).to -/
def xf153 : XF := ⟨2, [0, 1, 4, 2],
  (.seq
 (.seq
 (.new (some 3) 132 (.var 0))
 (.new (some 2) 132 (.const zA23)))
 (.seq
 (.store 1 (.offp 0 (.var 3)) (.var 1) [])
 (.seq
 (.store 274 (.var 2) (.ld (some 274) (.var 3)) [])
 .ret))),
  [(.ld (some 274) (.var 2))]⟩
theorem okx_153 : FnOk Tryz.prog 3 377 153 xf153 := fnOk_of Tryz.func153 (np := 2) (V := [0, 1, 4, 2]) (ks := []) (by kernel_rfl)

/- (*tipstaff/verify.checker).call -/
def xf154 : XF := ⟨3, [0, 1, 2, 6, 7, 4, 5, 12, 8, 24, 30, 31, 9, 40, 10, 11, 61, 53, 65, 66, 81, 90, 99, 105, 106],
  (.seq
 (.seq
 (.new (some 5) 132 (.var 1))
 (.seq
 (.new (some 6) 32 (.var 2))
 (.seq
 (.set 3 (.const (.slice none 0 0)))
 (.set 4 (.const (.bool false))))))
 (.seq
 (.seq
 (.call (some 7) 234 [(.const (.int .i64 8))] [])
 (.seq
 (.new (some 8) 124 (.const zA9))
 (.store 11 (.var 8) (.var 7) [])))
 (.seq
 (.cond (.pick (.bin .eql (.ld none (.offp 4 (.var 6))) (.const (.int .i32 5))) (.const (.bool true)) (.bin .eql (.ld none (.offp 4 (.var 6))) (.const (.int .i32 7))))
 (.seq
 (.seq
 (.call (some 9) 235 [(.ld (some 273) (.offp 1 (.var 5))), (.ld (some 11) (.var 8))] [])
 (.store 273 (.offp 1 (.var 5)) (.var 9) []))
 (.seq
 (.seq
 (.call (some 10) 153 [(.ld (some 274) (.var 5)), (.bin .add (.ld none (.offp 0 (.var 5))) (.const (.int .i64 1)))] [])
 (.seq
 (.row (some 11) 132 1 (.upd 0 274 (.const zA23) (.var 10)))
 (.seq
 (.set 3 (.var 11))
 (.set 4 (.const (.bool true))))))
 .ret))
 .skip)
 (.seq
 (.set 12 (.ld none (.offp 7 (.ixArr 11 11 (.offp 0 (.offp 1 (.var 5))) (.const (.int .i64 1))))))
 (.seq
 (.seq
 (.call (some 13) 236 [(.var 0), (.var 12)] [])
 (.seq
 (.chk [(.proj 1 (.var 13)), (.proj 0 (.var 13))])
 (.seq
 (.new (some 14) 24 (.const (.agg (Array.replicate 4 (.int .i64 0)))))
 (.seq
 (.store 4 (.var 14) (.proj 0 (.var 13)) [])
 (.set 15 (.proj 1 (.var 13)))))))
 (.seq
 (.seq
 (.seq
 (.set 17 (.pick (.bin .neq (.ld none (.offp 0 (.ixArr 11 11 (.offp 0 (.offp 1 (.var 5))) (.const (.int .i64 1))))) (.const (.int .i64 4))) (.const (.bool true)) (.un .not (.var 15))))
 (.seq
 (.chk [(.pick (.var 17) (.const (.bool false)) (.ld (some 4) (.var 14))), (.pick (.var 17) (.const (.bool false)) (.var 12)), (.pick (.var 17) (.const (.bool false)) (.ld none (.offp 4 (.var 6)))), (.pick (.var 17) (.const (.bool false)) (.ld (some 273) (.offp 1 (.var 5)))), (.pick (.var 17) (.const (.bool false)) (.var 0))])
 (.cond (.pick (.var 17) (.const (.bool false)) (.const (.bool true)))
 (.call (some 16) 237 [(.var 0), (.ld (some 273) (.offp 1 (.var 5))), (.ld none (.offp 4 (.var 6))), (.var 12), (.ld (some 4) (.var 14))] [])
 (.clr [16]))))
 (.cond (.pick (.var 17) (.const (.bool true)) (.un .not (.var 16)))
 (.seq
 (.seq
 (.set 3 (.const (.slice none 0 0)))
 (.set 4 (.const (.bool false))))
 .ret)
 .skip))
 (.seq
 (.seq
 (.set 18 (.ld none (.offp 4 (.var 6))))
 (.block 0
 (.seq
 (.set 19 (.bin .eql (.var 18) (.const (.int .i32 1))))
 (.cond (.var 19)
 (.seq
 (.store 1 (.offp 6 (.nn (.var 0))) (.bin .add (.ld none (.offp 6 (.nn (.var 0)))) (.const (.int .i64 1))) [])
 (.seq
 (.chk [(.upd 8 1 (.upd 7 1 (.upd 0 1 (.const zA9) (.const (.int .i64 6))) (.var 12)) (.ld none (.offp 6 (.nn (.var 0)))))])
 (.store 11 (.var 8) (.upd 8 1 (.upd 7 1 (.upd 0 1 (.const zA9) (.const (.int .i64 6))) (.var 12)) (.ld none (.offp 6 (.nn (.var 0))))) [])))
 (.seq
 (.seq
 (.set 20 (.bin .eql (.var 18) (.const (.int .i32 88))))
 (.cond (.var 20)
 .skip
 (.set 20 (.bin .eql (.var 18) (.const (.int .i32 89))))))
 (.cond (.var 20)
 (.seq
 (.seq
 (.call (some 21) 238 [(.var 0), (.ld (some 273) (.offp 1 (.var 5))), (.const (.int .i64 2)), (.ld none (.offp 2 (.var 14)))] [])
 (.seq
 (.chk [(.proj 1 (.var 21))])
 (.seq
 (.store 273 (.offp 1 (.var 5)) (.proj 0 (.var 21)) [])
 (.set 15 (.proj 1 (.var 21))))))
 (.cond (.un .not (.var 15))
 (.seq
 (.seq
 (.set 3 (.const (.slice none 0 0)))
 (.set 4 (.const (.bool false))))
 .ret)
 .skip))
 .skip))))))
 (.seq
 (.seq
 (.call (some 22) 235 [(.ld (some 273) (.offp 1 (.var 5))), (.ld (some 11) (.var 8))] [])
 (.store 273 (.offp 1 (.var 5)) (.var 22) []))
 (.seq
 (.seq
 (.call (some 23) 153 [(.ld (some 274) (.var 5)), (.bin .add (.ld none (.offp 0 (.var 5))) (.const (.int .i64 1)))] [])
 (.seq
 (.row (some 24) 132 1 (.upd 0 274 (.const zA23) (.var 23)))
 (.seq
 (.set 3 (.var 24))
 (.set 4 (.const (.bool true))))))
 .ret))))))))),
  [(.var 3), (.var 4)]⟩
theorem okx_154 : FnOk Tryz.prog 3 377 154 xf154 := fnOk_of Tryz.func154 (np := 3) (V := [0, 1, 2, 6, 7, 4, 5, 12, 8, 24, 30, 31, 9, 40, 10, 11, 61, 53, 65, 66, 81, 90, 99, 105, 106]) (ks := []) (by kernel_rfl)

/- (*tipstaff/verify.checker).save -/
def xf156 : XF := ⟨5, [0, 1, 2, 3, 4, 10, 11, 6, 7, 8, 9, 12, 20, 28, 37, 38, 41, 54, 13, 14, 63, 64],
  (.seq
 (.seq
 (.new (some 7) 132 (.var 1))
 (.seq
 (.new (some 8) 32 (.var 2))
 (.seq
 (.new (some 9) 203 (.var 3))
 (.seq
 (.new (some 10) 124 (.var 4))
 (.seq
 (.set 5 (.const (.slice none 0 0)))
 (.set 6 (.const (.bool false))))))))
 (.seq
 (.seq
 (.set 12 (.ld (some 11) (.ixArr 11 11 (.offp 0 (.offp 1 (.var 7))) (.ld none (.offp 1 (.var 8))))))
 (.seq
 (.new (some 11) 124 (.const zA9))
 (.store 11 (.var 11) (.var 12) [])))
 (.seq
 (.seq
 (.call (some 13) 241 [(.var 0), (.ld (some 11) (.var 11)), (.conv .i64 (.ld none (.offp 3 (.var 8)))), (.ld none (.offp 2 (.var 9)))] [])
 (.cond (.un .not (.var 13))
 (.seq
 (.seq
 (.set 5 (.const (.slice none 0 0)))
 (.set 6 (.const (.bool false))))
 .ret)
 .skip))
 (.seq
 (.cond (.bin .eql (.ld none (.offp 0 (.var 11))) (.const (.int .i64 5)))
 (.seq
 (.seq
 .skip
 (.seq
 (.chk [(.bin .add (.ld none (.offp 0 (.var 7))) (.const (.int .i64 1))), (.ld (some 274) (.var 7))])
 (.seq
 (.set 16 (.bin .eql (.ld none (.offp 0 (.var 10))) (.const (.int .i64 1))))
 (.seq
 (.call (some 14) 153 [(.ld (some 274) (.var 7)), (.bin .add (.ld none (.offp 0 (.var 7))) (.const (.int .i64 1)))] [(.ld none (.offp 0 (.var 10)))])
 (.seq
 (.row (some 15) 132 1 (.upd 0 274 (.const zA23) (.var 14)))
 (.seq
 (.set 5 (.var 15))
 (.set 6 (.var 16))))))))
 .ret)
 .skip)
 (.seq
 (.seq
 (.call (some 17) 242 [(.ld (some 273) (.offp 1 (.var 7))), (.bin .add (.ld none (.offp 9 (.var 11))) (.conv .i64 (.ld none (.offp 3 (.var 8))))), (.ld none (.offp 2 (.var 9))), (.ld (some 11) (.var 10))] [])
 (.seq
 (.chk [(.proj 1 (.var 17)), (.proj 0 (.var 17))])
 (.seq
 (.new (some 18) 129 (.const zA22))
 (.seq
 (.store 273 (.var 18) (.proj 0 (.var 17)) [])
 (.set 19 (.proj 1 (.var 17)))))))
 (.seq
 (.store 273 (.offp 1 (.var 7)) (.ld (some 273) (.var 18)) [])
 (.seq
 (.seq
 (.call (some 20) 153 [(.ld (some 274) (.var 7)), (.bin .add (.ld none (.offp 0 (.var 7))) (.const (.int .i64 1)))] [])
 (.seq
 (.row (some 21) 132 1 (.upd 0 274 (.const zA23) (.var 20)))
 (.seq
 (.chk [(.var 19)])
 (.seq
 (.set 5 (.var 21))
 (.set 6 (.var 19))))))
 .ret))))))),
  [(.var 5), (.var 6)]⟩
theorem okx_156 : FnOk Tryz.prog 3 377 156 xf156 := fnOk_of Tryz.func156 (np := 5) (V := [0, 1, 2, 3, 4, 10, 11, 6, 7, 8, 9, 12, 20, 28, 37, 38, 41, 54, 13, 14, 63, 64]) (ks := []) (by kernel_rfl)

/- tipstaff/verify.second -/
def xf157 : XF := ⟨3, [0, 1, 2, 6, 3, 4, 17],
  (.seq
 (.seq
 (.new (some 4) 129 (.var 0))
 (.seq
 (.new (some 5) 32 (.var 1))
 (.new (some 3) 124 (.const zA9))))
 (.seq
 (.cond (.var 2)
 (.seq
 (.store 11 (.var 3) (.ld (some 11) (.ixArr 11 11 (.offp 0 (.var 4)) (.ld none (.offp 2 (.var 5))))) [])
 .ret)
 .skip)
 (.seq
 (.seq
 (.call (some 6) 228 [(.conv .u64 (.conv .i64 (.ld none (.offp 4 (.var 5)))))] [])
 (.store 11 (.var 3) (.var 6) []))
 .ret))),
  [(.ld (some 11) (.var 3))]⟩
theorem okx_157 : FnOk Tryz.prog 3 377 157 xf157 := fnOk_of Tryz.func157 (np := 3) (V := [0, 1, 2, 6, 3, 4, 17]) (ks := []) (by kernel_rfl)

/- (*tipstaff/verify.checker).wide -/
def xf159 : XF := ⟨3, [0, 1, 2, 6, 7, 4, 5, 8, 36, 32, 34, 37, 43, 9, 10, 53],
  (.seq
 (.seq
 (.new (some 5) 132 (.var 1))
 (.seq
 (.new (some 6) 32 (.var 2))
 (.seq
 (.set 3 (.const (.slice none 0 0)))
 (.set 4 (.const (.bool false))))))
 (.seq
 (.cond (.bin .eql (.ld none (.offp 2 (.var 6))) (.const (.int .u8 0)))
 (.seq
 (.seq
 .skip
 (.set 7 (.bin .or (.conv .u64 (.conv .u32 (.ld none (.offp 4 (.var 6))))) (.bin .shl (.conv .u64 (.conv .u32 (.ld none (.offp 4 (.ixSl 5 (.ld none (.offp 0 (.nn (.var 0)))) (.bin .add (.ld none (.offp 0 (.var 5))) (.const (.int .i64 1)))))))) (.const (.int .u64 32))))))
 (.seq
 (.seq
 .skip
 (.seq
 (.set 9 (.ld (some 274) (.var 5)))
 (.seq
 (.set 10 (.ld none (.offp 1 (.var 6))))
 (.seq
 (.call (some 8) 228 [(.var 7)] [(.ld none (.offp 1 (.var 6))), (.ld (some 274) (.var 5))])
 (.seq
 (.call (some 11) 230 [(.var 9), (.var 10), (.var 8), (.const (.int .i64 2))] [])
 (.seq
 (.set 3 (.var 11))
 (.set 4 (.const (.bool true)))))))))
 .ret))
 .skip)
 (.seq
 (.seq
 (.call (some 12) 236 [(.var 0), (.conv .i64 (.ld none (.offp 4 (.var 6))))] [])
 (.seq
 (.chk [(.proj 1 (.var 12)), (.proj 0 (.var 12))])
 (.seq
 (.new (some 13) 24 (.const (.agg (Array.replicate 4 (.int .i64 0)))))
 (.seq
 (.store 4 (.var 13) (.proj 0 (.var 12)) [])
 (.set 14 (.proj 1 (.var 12)))))))
 (.seq
 (.seq
 (.chk [(.upd 7 1 (.upd 0 1 (.const zA9) (.const (.int .i64 4))) (.conv .i64 (.ld none (.offp 4 (.var 6)))))])
 (.seq
 (.call (some 15) 230 [(.ld (some 274) (.var 5)), (.ld none (.offp 1 (.var 6))), (.upd 7 1 (.upd 0 1 (.const zA9) (.const (.int .i64 4))) (.conv .i64 (.ld none (.offp 4 (.var 6))))), (.const (.int .i64 2))] [])
 (.seq
 (.chk [(.var 14)])
 (.seq
 (.set 3 (.var 15))
 (.set 4 (.var 14))))))
 .ret)))),
  [(.var 3), (.var 4)]⟩
theorem okx_159 : FnOk Tryz.prog 3 377 159 xf159 := fnOk_of Tryz.func159 (np := 3) (V := [0, 1, 2, 6, 7, 4, 5, 8, 36, 32, 34, 37, 43, 9, 10, 53]) (ks := []) (by kernel_rfl)

/- tipstaff/insn.alu -/
def xf160 : XF := ⟨1, [0, 2, 3, 13],
  (.seq
 (.new (some 1) 203 (.const zA3))
 (.seq
 (.seq
 (.set 3 (.upd 4 1 (.upd 3 1 (.upd 2 1 (.upd 1 1 (.upd 0 1 (.const zA3) (.const (.int .i64 1))) (.conv .i64 (.bin .shr (.var 0) (.const (.int .u64 4))))) (.const (.int .i64 0))) (.bin .eql (.bin .and (.var 0) (.const (.int .u8 7))) (.const (.int .u8 7)))) (.bin .neq (.bin .and (.var 0) (.const (.int .u8 8))) (.const (.int .u8 0)))))
 (.seq
 (.new (some 2) 203 (.const zA3))
 (.store 5 (.var 2) (.var 3) [])))
 (.seq
 (.cond (.pick (.bin .gtr (.ld none (.offp 1 (.var 2))) (.const (.int .i64 12))) (.const (.bool true)) (.pick (.bin .eql (.ld none (.offp 1 (.var 2))) (.const (.int .i64 8))) (.ld none (.offp 4 (.var 2))) (.const (.bool false))))
 (.seq
 (.store 5 (.var 1) (.const zA3) [])
 .ret)
 .skip)
 (.seq
 (.store 5 (.var 1) (.ld (some 5) (.var 2)) [])
 .ret)))),
  [(.ld (some 5) (.var 1))]⟩
theorem okx_160 : FnOk Tryz.prog 3 377 160 xf160 := fnOk_of Tryz.func160 (np := 1) (V := [0, 2, 3, 13]) (ks := []) (by kernel_rfl)

/- tipstaff/insn.jump -/
def xf161 : XF := ⟨1, [0, 2, 3, 14, 4, 23, 29, 32, 35],
  (.seq
 (.new (some 1) 203 (.const zA3))
 (.seq
 (.seq
 (.set 3 (.upd 4 1 (.upd 3 1 (.upd 2 1 (.upd 1 1 (.upd 0 1 (.const zA3) (.const (.int .i64 2))) (.conv .i64 (.bin .shr (.var 0) (.const (.int .u64 4))))) (.const (.int .i64 0))) (.bin .eql (.bin .and (.var 0) (.const (.int .u8 7))) (.const (.int .u8 5)))) (.bin .neq (.bin .and (.var 0) (.const (.int .u8 8))) (.const (.int .u8 0)))))
 (.seq
 (.new (some 2) 203 (.const zA3))
 (.store 5 (.var 2) (.var 3) [])))
 (.seq
 (.set 4 (.pick (.ld none (.offp 3 (.var 2))) (.un .not (.ld none (.offp 4 (.var 2)))) (.const (.bool false))))
 (.seq
 (.seq
 (.set 5 (.ld none (.offp 1 (.var 2))))
 (.block 0
 (.seq
 (.set 6 (.bin .eql (.var 5) (.const (.int .i64 0))))
 (.cond (.var 6)
 (.seq
 (.chk [(.upd 0 1 (.const zA3) (.const (.int .i64 3)))])
 (.store 5 (.var 2) (.upd 0 1 (.const zA3) (.const (.int .i64 3))) []))
 (.seq
 (.set 7 (.bin .eql (.var 5) (.const (.int .i64 8))))
 (.cond (.var 7)
 (.seq
 (.chk [(.upd 0 1 (.const zA3) (.const (.int .i64 4)))])
 (.store 5 (.var 2) (.upd 0 1 (.const zA3) (.const (.int .i64 4))) []))
 (.seq
 (.set 8 (.bin .eql (.var 5) (.const (.int .i64 9))))
 (.cond (.var 8)
 (.seq
 (.chk [(.upd 0 1 (.const zA3) (.const (.int .i64 5)))])
 (.store 5 (.var 2) (.upd 0 1 (.const zA3) (.const (.int .i64 5))) []))
 (.seq
 (.cond (.bin .gtr (.ld none (.offp 1 (.var 2))) (.const (.int .i64 13)))
 (.seq
 (.store 5 (.var 1) (.const zA3) [])
 .ret)
 .skip)
 (.seq
 (.store 5 (.var 1) (.ld (some 5) (.var 2)) [])
 .ret))))))))))
 (.seq
 (.cond (.un .not (.var 4))
 (.seq
 (.store 5 (.var 1) (.const zA3) [])
 .ret)
 .skip)
 (.seq
 (.store 5 (.var 1) (.ld (some 5) (.var 2)) [])
 .ret)))))),
  [(.ld (some 5) (.var 1))]⟩
theorem okx_161 : FnOk Tryz.prog 3 377 161 xf161 := fnOk_of Tryz.func161 (np := 1) (V := [0, 2, 3, 14, 4, 23, 29, 32, 35]) (ks := []) (by kernel_rfl)

/- tipstaff/insn.memory -/
def xf162 : XF := ⟨1, [0, 2, 5, 3, 14, 4, 17, 25, 28],
  (.seq
 (.new (some 1) 203 (.const zA3))
 (.seq
 (.seq
 (.row (some 2) 3 4 (.upd 3 1 (.upd 2 1 (.upd 1 1 (.upd 0 1 (.const (.agg (Array.replicate 4 (.int .i64 0)))) (.const (.int .i64 4))) (.const (.int .i64 2))) (.const (.int .i64 1))) (.const (.int .i64 8))))
 (.seq
 (.set 4 (.upd 4 1 (.upd 2 1 (.upd 0 1 (.const zA3) (.const (.int .i64 7))) (.ld none (.ixSl 1 (.var 2) (.bin .and (.bin .shr (.var 0) (.const (.int .u64 3))) (.const (.int .u8 3)))))) (.bin .eql (.bin .and (.var 0) (.const (.int .u8 7))) (.const (.int .u8 3)))))
 (.seq
 (.new (some 3) 203 (.const zA3))
 (.store 5 (.var 3) (.var 4) []))))
 (.seq
 (.set 5 (.bin .shr (.var 0) (.const (.int .u64 5))))
 (.seq
 (.block 0
 (.seq
 (.block 3
 (.seq
 (.block 2
 (.seq
 (.block 1
 (.seq
 (.seq
 (.seq
 (.set 6 (.pick (.bin .eql (.var 5) (.const (.int .u8 3))) (.bin .eql (.bin .and (.var 0) (.const (.int .u8 7))) (.const (.int .u8 1))) (.const (.bool false))))
 (.cond (.var 6)
 (.exit 1)
 .skip))
 (.seq
 (.seq
 (.set 7 (.bin .eql (.var 5) (.const (.int .u8 3))))
 (.cond (.var 7)
 (.exit 2)
 .skip))
 (.seq
 (.set 8 (.pick (.pick (.bin .eql (.var 5) (.const (.int .u8 6))) (.ld none (.offp 4 (.var 3))) (.const (.bool false))) (.bin .geq (.ld none (.offp 2 (.var 3))) (.const (.int .i64 4))) (.const (.bool false))))
 (.cond (.var 8)
 (.exit 3)
 .skip))))
 (.exit 0)))
 (.store 1 (.offp 0 (.var 3)) (.const (.int .i64 6)) [])))
 (.seq
 (.seq
 (.store 5 (.var 1) (.ld (some 5) (.var 3)) [])
 .ret)
 (.exit 0))))
 (.seq
 (.seq
 (.store 1 (.offp 0 (.var 3)) (.const (.int .i64 8)) [])
 (.seq
 (.store 5 (.var 1) (.ld (some 5) (.var 3)) [])
 .ret))
 (.exit 0))))
 (.seq
 (.store 5 (.var 1) (.const zA3) [])
 .ret))))),
  [(.ld (some 5) (.var 1))]⟩
theorem okx_162 : FnOk Tryz.prog 3 377 162 xf162 := fnOk_of Tryz.func162 (np := 1) (V := [0, 2, 5, 3, 14, 4, 17, 25, 28]) (ks := []) (by kernel_rfl)

/- tipstaff/scalar.Eval -/
def xf165 : XF := ⟨4, [0, 1, 2, 3, 8, 9, 18, 23, 31, 22],
  (.seq
 (.set 4 (.const (.int .u64 0)))
 (.seq
 (.cond (.un .not (.var 1))
 (.seq
 (.chk [(.conv .u64 (.conv .u32 (.var 3)))])
 (.seq
 (.set 2 (.conv .u64 (.conv .u32 (.var 2))))
 (.set 3 (.conv .u64 (.conv .u32 (.var 3))))))
 .skip)
 (.seq
 (.set 5 (.const (.int .u64 0)))
 (.seq
 (.seq
 (.set 6 (.var 0))
 (.block 0
 (.seq
 (.seq
 (.set 7 (.bin .eql (.var 6) (.const (.int .i64 6))))
 (.cond (.var 7)
 .skip
 (.seq
 (.set 7 (.bin .eql (.var 6) (.const (.int .i64 7))))
 (.cond (.var 7)
 .skip
 (.set 7 (.bin .eql (.var 6) (.const (.int .i64 12))))))))
 (.cond (.var 7)
 (.seq
 (.call (some 8) 243 [(.var 0), (.var 1), (.var 2), (.var 3)] [])
 (.set 5 (.var 8)))
 (.seq
 (.call (some 9) 244 [(.var 0), (.var 2), (.var 3)] [])
 (.set 5 (.var 9)))))))
 (.seq
 (.cond (.un .not (.var 1))
 (.set 5 (.conv .u64 (.conv .u32 (.var 5))))
 .skip)
 (.seq
 (.set 4 (.var 5))
 .ret)))))),
  [(.var 4)]⟩
theorem okx_165 : FnOk Tryz.prog 3 377 165 xf165 := fnOk_of Tryz.func165 (np := 4) (V := [0, 1, 2, 3, 8, 9, 18, 23, 31, 22]) (ks := []) (by kernel_rfl)

/- slices.Clone[[]tipstaff/api.Insn,tipstaff/api.Insn] -/
def xf179 : XF := ⟨1, [0, 2, 5, 7],
  (.seq
 (.set 1 (.const (.slice none 0 0)))
 (.seq
 (.cond (.isnil 1 false (.var 0))
 (.seq
 (.set 1 (.const (.slice none 0 0)))
 .ret)
 .skip)
 (.seq
 (.seq
 (.row (some 2) 32 0 (.const (.agg #[])))
 (.seq
 (.app (some 3) 32 5 (.var 2) (.var 0) [])
 (.set 1 (.var 3))))
 .ret))),
  [(.var 1)]⟩
theorem okx_179 : FnOk Tryz.prog 3 377 179 xf179 := fnOk_of Tryz.func179 (np := 1) (V := [0, 2, 5, 7]) (ks := []) (by kernel_rfl)

/- tipstaff/canon.ofMap -/
def xf180 : XF := ⟨1, [0, 2, 1, 5],
  (.seq
 (.seq
 (.new (some 2) 32 (.var 0))
 (.set 1 (.const (.bool false))))
 (.seq
 (.seq
 (.call (some 3) 90 [(.ld none (.offp 0 (.var 2)))] [])
 (.set 1 (.pick (.bin .eql (.part none 0 (.var 3)) (.const (.int .i64 9))) (.bin .eql (.ld none (.offp 2 (.var 2))) (.const (.int .u8 1))) (.const (.bool false)))))
 .ret)),
  [(.var 1)]⟩
theorem okx_180 : FnOk Tryz.prog 3 377 180 xf180 := fnOk_of Tryz.func180 (np := 1) (V := [0, 2, 1, 5]) (ks := []) (by kernel_rfl)

/- slices.Index[[]int32,int32] -/
def xf181 : XF := ⟨2, [0, 1, 4, 8, 7, 5],
  (.seq
 (.set 2 (.const (.int .i64 0)))
 (.seq
 (.seq
 (.seq
 (.set 4 (.len false (.var 0)))
 (.set 3 (.const (.int .i64 0))))
 (.block 0
 (.loop [0, 1, 3, 4]
 (.seq
 (.cond (.bin .lss (.var 3) (.var 4))
 .skip
 (.exit 0))
 (.seq
 (.block 1
 (.seq
 (.set 5 (.var 3))
 (.cond (.bin .eql (.var 1) (.ld none (.ixSl 1 (.var 0) (.var 5))))
 (.seq
 (.set 2 (.var 5))
 .ret)
 .skip)))
 (.set 3 (.bin .add (.var 3) (.const (.int .i64 1)))))))))
 (.seq
 (.set 2 (.const (.int .i64 (-1))))
 .ret))),
  [(.var 2)]⟩
theorem okx_181 : FnOk Tryz.prog 3 377 181 xf181 := fnOk_of Tryz.func181 (np := 2) (V := [0, 1, 4, 8, 7, 5]) (ks := [[0, 1, 3, 4]]) (by kernel_rfl)

/- slices.Clone[[]*tipstaff/bmap.entry,*tipstaff/bmap.entry] -/
def xf182 : XF := ⟨1, [0, 2, 5, 7],
  (.seq
 (.set 1 (.const (.slice none 0 0)))
 (.seq
 (.cond (.isnil 1 false (.var 0))
 (.seq
 (.set 1 (.const (.slice none 0 0)))
 .ret)
 .skip)
 (.seq
 (.seq
 (.row (some 2) 97 0 (.const (.agg #[])))
 (.seq
 (.app (some 3) 97 1 (.var 2) (.var 0) [])
 (.set 1 (.var 3))))
 .ret))),
  [(.var 1)]⟩
theorem okx_182 : FnOk Tryz.prog 3 377 182 xf182 := fnOk_of Tryz.func182 (np := 1) (V := [0, 2, 5, 7]) (ks := []) (by kernel_rfl)

/- slices.SortStableFunc[[]*tipstaff/bmap.entry,*tipstaff/bmap.entry] -/
def xf183 : XF := ⟨2, [0, 1],
  (.call none 263 [(.var 0), (.len false (.var 0)), (.var 1)] []),
  []⟩
theorem okx_183 : FnOk Tryz.prog 3 377 183 xf183 := fnOk_of Tryz.func183 (np := 2) (V := [0, 1]) (ks := []) (by kernel_rfl)

/- tipstaff/digest.Joined -/
def xf186 : XF := ⟨1, [0, 2, 3, 8, 7, 6, 5, 16, 17, 20, 23],
  (.seq
 (.new (some 1) 49 (.const (.agg (Array.replicate 32 (.int .u8 0)))))
 (.seq
 (.set 2 (.const (.slice none 0 0)))
 (.seq
 (.seq
 (.seq
 (.set 5 (.var 0))
 (.seq
 (.set 4 (.len false (.var 5)))
 (.set 3 (.const (.int .i64 0)))))
 (.block 0
 (.loop [1, 2, 3, 4, 5]
 (.seq
 (.cond (.bin .lss (.var 3) (.var 4))
 .skip
 (.exit 0))
 (.seq
 (.block 1
 (.seq
 (.set 6 (.ld none (.ixSl 1 (.var 5) (.var 3))))
 (.seq
 (.seq
 (.chk [(.var 2)])
 (.seq
 (.call (some 7) 80 [(.conv .u64 (.len false (.var 6)))] [])
 (.seq
 (.app (some 8) 5 1 (.var 2) (.var 7) [])
 (.set 2 (.var 8)))))
 (.seq
 (.app (some 9) 5 1 (.var 2) (.var 6) [])
 (.set 2 (.var 9))))))
 (.set 3 (.bin .add (.var 3) (.const (.int .i64 1)))))))))
 (.seq
 (.seq
 (.call (some 10) 40 [(.var 2)] [])
 (.store 32 (.var 1) (.var 10) []))
 .ret)))),
  [(.ld (some 32) (.var 1))]⟩
theorem okx_186 : FnOk Tryz.prog 3 377 186 xf186 := fnOk_of Tryz.func186 (np := 1) (V := [0, 2, 3, 8, 7, 6, 5, 16, 17, 20, 23]) (ks := [[1, 2, 3, 4, 5]]) (by kernel_rfl)

/- tipstaff/insn.Encode -/
def xf187 : XF := ⟨1, [0, 2, 3, 9, 8, 7, 5, 12, 30, 31, 32, 6, 42, 43],
  (.seq
 (.set 1 (.const (.slice none 0 0)))
 (.seq
 (.set 2 (.const (.slice none 0 0)))
 (.seq
 (.seq
 (.seq
 (.set 5 (.var 0))
 (.seq
 (.set 4 (.len false (.var 5)))
 (.set 3 (.const (.int .i64 0)))))
 (.block 0
 (.loop [2, 3, 4, 5]
 (.seq
 (.cond (.bin .lss (.var 3) (.var 4))
 .skip
 (.exit 0))
 (.seq
 (.block 1
 (.seq
 (.seq
 (.set 7 (.ld (some 5) (.ixSl 5 (.var 5) (.var 3))))
 (.seq
 (.new (some 6) 32 (.const zA2))
 (.store 5 (.var 6) (.var 7) [])))
 (.seq
 (.seq
 (.chk [(.var 2)])
 (.seq
 (.row (some 8) 5 4 (.upd 3 1 (.upd 2 1 (.upd 1 1 (.upd 0 1 (.const (.agg (Array.replicate 4 (.int .u8 0)))) (.ld none (.offp 0 (.var 6)))) (.bin .or (.bin .and (.ld none (.offp 1 (.var 6))) (.const (.int .u8 15))) (.bin .shl (.ld none (.offp 2 (.var 6))) (.const (.int .u64 4))))) (.conv .u8 (.ld none (.offp 3 (.var 6))))) (.conv .u8 (.bin .shr (.ld none (.offp 3 (.var 6))) (.const (.int .u64 8))))))
 (.seq
 (.app (some 9) 5 1 (.var 2) (.var 8) [])
 (.set 2 (.var 9)))))
 (.seq
 (.set 10 (.const (.int .i64 0)))
 (.block 2
 (.loop [2, 3, 4, 5, 6, 10]
 (.seq
 (.cond (.bin .lss (.var 10) (.const (.int .i64 4)))
 .skip
 (.exit 2))
 (.seq
 (.block 3
 (.seq
 (.set 11 (.var 10))
 (.seq
 (.chk [(.var 2)])
 (.seq
 (.row (some 12) 5 1 (.upd 0 1 (.const (.agg #[(.int .u8 0)])) (.conv .u8 (.bin .shr (.ld none (.offp 4 (.var 6))) (.bin .mul (.const (.int .i64 8)) (.var 11))))))
 (.seq
 (.app (some 13) 5 1 (.var 2) (.var 12) [])
 (.set 2 (.var 13)))))))
 (.set 10 (.bin .add (.var 10) (.const (.int .i64 1))))))))))))
 (.set 3 (.bin .add (.var 3) (.const (.int .i64 1)))))))))
 (.seq
 (.set 1 (.var 2))
 .ret)))),
  [(.var 1)]⟩
theorem okx_187 : FnOk Tryz.prog 3 377 187 xf187 := fnOk_of Tryz.func187 (np := 1) (V := [0, 2, 3, 9, 8, 7, 5, 12, 30, 31, 32, 6, 42, 43]) (ks := [[2, 3, 4, 5], [2, 3, 4, 5, 6, 10]]) (by kernel_rfl)
end Go.Proofs.YtmpgfgemnhbkhaaGreatDoor
